/- A part of WalkG. No condition. -/
import Derived.Test.YthhfkhhhclmimaaGreatDoorM28
import Derived.Test.YthhfkhhhclmimaaGreatDoorM23
set_option linter.unusedVariables false
set_option linter.unusedSimpArgs false
open Go.Proofs.Tryz
set_option maxRecDepth 10000
set_option maxHeartbeats 4000000
namespace Go.Proofs.dS
open Go Go.RowKit Go.Proofs.K Go.Proofs.tI
structure Rc where
 (ms ss ds rs hs na nc:Nat)
 (root dD cV cF:Int)
 (mT:List UInt8)
def Rc.cells(c:Rc):Array Value:=#[cD c.ms,cD c.ss,cD c.ds,cD c.rs,cD c.hs,
 .slice (some ⟨c.na,0,none⟩) 86 c.nc,I_ 0,I_ 0,I_ 0,I_ c.root,I_ c.dD,I_ c.cV,I_ c.cF,I_ 0,.string ⟨#[]⟩,S_ c.mT,.bool false]
def vl(w:World)(r:Nat)(c:Rc):Prop:=w.heap[r]?=some (.cells c.cells 163 (0,0))
namespace vl
variable {w w':World} {r:Nat} {c:Rc}
theorem ct(h:vl w r c){S:Nat->Prop}(k:cq S w w')(a:¬ S r):vl w' r c:=k.heap h a
theorem c1(h:vl w r c):w.cell? ⟨r,1,none⟩=some (cD c.ss):=cp h rfl
theorem c5(h:vl w r c):w.cell? ⟨r,5,none⟩=some (.slice (some ⟨c.na,0,none⟩) 86 c.nc):=cp h rfl
theorem c9(h:vl w r c):w.cell? ⟨r,9,none⟩=some (I_ c.root):=cp h rfl
theorem VF(h:vl w r c):w.cell? ⟨r,10,none⟩=some (I_ c.dD):=cp h rfl
theorem Ts(h:vl w r c):w.cell? ⟨r,11,none⟩=some (I_ c.cV):=cp h rfl
theorem c12(h:vl w r c):w.cell? ⟨r,12,none⟩=some (I_ c.cF):=cp h rfl
theorem f(h:vl w r c)(i:Nat):w.frozen? ⟨r,i,none⟩=false:=cB h
theorem tZ(h:vl w r c)(n:Int):vl (w.setCell ⟨r,9,none⟩ (I_ n)) r { c with root:=n }:=cz h _
theorem y9(h:vl w r c)(n:Int):vl (w.setCell ⟨r,10,none⟩ (I_ n)) r { c with dD:=n }:=cz h _
theorem sC(h:vl w r c)(n:Int):vl (w.setCell ⟨r,11,none⟩ (I_ n)) r { c with cV:=n }:=cz h _
theorem y'(h:vl w r c)(n:Int):vl (w.setCell ⟨r,12,none⟩ (I_ n)) r { c with cF:=n }:=cz h _
end vl
theorem H8:∀ i:Fin 86,num (names.getD i.1 [])=(i.1:Int)+1:=by decide +kernel
theorem RI(i:Nat)(h:i<names.length):num names[i]=(i:Int)+1:=by
 have:=H8 ⟨i,by rw[<- fZ];exact h⟩;rw[List.getD_eq_getElem?_getD,List.getElem?_eq_getElem h]at this;exact this
theorem LM(w:World)(r s b j:Nat)(c:Rc)(x F y:Sp)(aj an al:Int)(K:vl w r c)(am:c.ss=s)(ae:lY w s b j x)(h0:x.cN 0=(F,0))(h:Vm.qT F=some (y,aj,an,al))
 (hn:fp w 9 1 (some ⟨c.na,0,none⟩) 86 c.nc (names.map nm))
 (n1:r≠s) (n2:r≠b) (n3:r≠j) (n4:c.na≠s) (n5:c.na≠r) (n6:c.na≠j) :
 Calls prog 136 #[cD r] w fun e w'=>e=.returned (I_ 0)/\vl w' r { c with root:=x.cu,dD:=aj,cF:=an,cV:=al }/\lY w' s b j y/\cq (fun k=>k=r\/k=s\/k=j) w w':=by
 have C0:=h_ fun V R=>(kb V s b j x 0 (by rw[h0]) R).mono fun _ _ ae=>ae.of (show _=F by rw[h0]);unfold Vm.qT at h;by_cases p1:(F.cN 10).2=0;case neg=>rw[if_pos p1]at h;cases h
 rw[if_neg (by simpa using p1)]at h;have C1:=h_ fun V R=>kb V s b j F 10 p1 R;generalize au:F.cN 10=x2 at h p1 C1;obtain⟨x2,e1⟩:=x2;simp only at h p1;subst p1;by_cases p2:x2.cF.2.2=0;case neg=>rw[if_pos p2]at h;cases h
 rw[if_neg (by simpa using p2)]at h;have C2:=h_ fun V R=>LI V s b j x2 p2 R;generalize x2.cF=x3 at h p2 C2;obtain⟨x3,l,e2⟩:=x3;simp only at h p2;subst p2;generalize z:Vm.gG l names x3 0=r3 at h;cases r3 with
 | none=>simp only at h;cases h
 | some r3 =>
 obtain⟨x4,aa⟩:=r3;simp only at h;by_cases p4:(x4.cO l [98,97,115,101] 0 1003).2.2=0;case neg=>rw[if_pos p4]at h;cases h
 rw[if_neg (by simpa using p4)]at h;have C4:=h_ fun V R=>vk V s b j x4 l [98,97,115,101] 0 1003 (by omega) (by omega) p4 R;generalize x4.cO l [98,97,115,101] 0 1003=x5 at h p4 C4;obtain⟨x5,aE,e4⟩:=x5;simp only at h p4;subst p4;by_cases p5:(x5.cN F.cu).2=0;case neg=>rw[if_pos p5]at h;cases h
 rw[if_neg (by simpa using p5)]at h;have C5:=h_ fun V R=>kb V s b j x5 F.cu p5 R;generalize x5.cN F.cu=O at h p5 C5;obtain⟨O,e5⟩:=O;simp only at h p5;subst p5;by_cases p6:(O.cN aa).2=0;case neg=>rw[if_pos p6]at h;cases h
 rw[if_neg (by simpa using p6)]at h;have C6:=h_ fun V R=>kb V s b j O aa p6 R;generalize O.cN aa=x7 at h p6 C6;obtain⟨x7,e6⟩:=x7;simp only at h p6;subst p6;injection h with h;injection h with h1 h;injection h with h2 h;injection h with h3 h4;subst h1;subst h2;subst h3;subst h4;have HF:=h_ z;clear z au h0;obtain⟨ms,p,ds,rs,hs,B,nc,aD,ba,ca,li,aA⟩:=c;simp only at am n4 n5 n6 hn;subst am;have C:=h_ n1;have N2:=h_ n2;have D:=h_ n3;have M:=h_ n4;have N5:=h_ n5;have N:=h_ n6;have a:=h_ K;have o:=h_ ae;have u:=h_ hn;have t:=h_ (cq.refl (fun k=>k=r\/k=p\/k=j) w);clear K ae hn n1 n2 n3 n4 n5 n6;dsimp only at C1 C2 C4 C5 C6;have v:=a.out.c1;have c9:=a.out.c9;have f9:=a.out.f 9;have s3:=o.out.c3;go_enter func136,ntmps136;go_upto_region 2 with fail;have n:=(cq.setCell (S:=fun k=>k=r) w ⟨r,9,none⟩ (I_ x.cu) (fun _=>rfl));replace o:=h_ (o.out.ct n (fun e=>C.out (by have e:p=r:=e;exact e.symm)) (fun e=>N2.out (by have e:b=r:=e;exact e.symm)) (fun e=>D.out (by have e:j=r:=e;exact e.symm)));replace u:=h_ (u.out.ct n (fun g e=>by cases e;exact fun e=>N5.out (by have e:B=r:=e;exact e)));replace t:=h_ (t.out.trans (n.mono (T:=fun k=>k=r\/k=p\/k=j) (fun _ _ e=>.inl e)));clear n;replace a:=h_ (a.out.tZ x.cu);dsimp only at a;generalize w.setCell ⟨r,9,none⟩ (I_ x.cu)=W at *;clear v c9 f9 s3;have v:=a.out.c1;go_wp2_with fail;refine((C0.out _ o.out)).mono ?_;rintro e W ⟨rfl,A,m⟩;replace a:=h_ (a.out.ct m (fun e=>by rcases e with e | e;exact C.out e;exact D.out e));replace u:=h_ (u.out.ct m (fun g e=>by cases e;exact fun e=>by rcases e with e | e;exact M.out e;exact N.out e));replace t:=h_ (t.out.trans (m.mono (fun _ _ e=>.inr e)));replace o:=h_ A;clear A m;clear v;have v:=a.out.c1;have ad:=a.out.VF;have ap:=a.out.f 10;have s3:=o.out.c3;go_upto_region 4 with fail;have n:=(cq.setCell (S:=fun k=>k=r) W ⟨r,10,none⟩ (I_ F.cu) (fun _=>rfl));replace o:=h_ (o.out.ct n (fun e=>C.out (by have e:p=r:=e;exact e.symm)) (fun e=>N2.out (by have e:b=r:=e;exact e.symm)) (fun e=>D.out (by have e:j=r:=e;exact e.symm)));replace u:=h_ (u.out.ct n (fun g e=>by cases e;exact fun e=>N5.out (by have e:B=r:=e;exact e)));replace t:=h_ (t.out.trans (n.mono (T:=fun k=>k=r\/k=p\/k=j) (fun _ _ e=>.inl e)));clear n;replace a:=h_ (a.out.y9 F.cu);dsimp only at a;generalize W.setCell ⟨r,10,none⟩ (I_ F.cu)=W at *;clear v ad ap s3;have v:=a.out.c1;go_wp2_with fail;refine((C1.out _ o.out)).mono ?_;rintro e W ⟨rfl,A,m⟩;replace a:=h_ (a.out.ct m (fun e=>by rcases e with e | e;exact C.out e;exact D.out e));replace u:=h_ (u.out.ct m (fun g e=>by cases e;exact fun e=>by rcases e with e | e;exact M.out e;exact N.out e));replace t:=h_ (t.out.trans (m.mono (fun _ _ e=>.inr e)));replace o:=h_ A;clear A m;clear v;have v:=a.out.c1;have I:=a.out.c12;have ag:=a.out.f 12;go_wp2_with fail;clear v I ag;refine((C2.out _ o.out)).mono ?_;rintro e W ⟨rfl,A,m⟩;replace a:=h_ (a.out.ct m (fun e=>by rcases e with e | e;exact C.out e;exact D.out e));replace u:=h_ (u.out.ct m (fun g e=>by cases e;exact fun e=>by rcases e with e | e;exact M.out e;exact N.out e));replace t:=h_ (t.out.trans (m.mono (fun _ _ e=>.inr e)));replace o:=h_ A;clear A m;have I:=a.out.c12;have ag:=a.out.f 12;go_upto_region 8 with fail;have n:=(cq.setCell (S:=fun k=>k=r) W ⟨r,12,none⟩ (I_ l) (fun _=>rfl));replace o:=h_ (o.out.ct n (fun e=>C.out (by have e:p=r:=e;exact e.symm)) (fun e=>N2.out (by have e:b=r:=e;exact e.symm)) (fun e=>D.out (by have e:j=r:=e;exact e.symm)));replace u:=h_ (u.out.ct n (fun g e=>by cases e;exact fun e=>N5.out (by have e:B=r:=e;exact e)));replace t:=h_ (t.out.trans (n.mono (T:=fun k=>k=r\/k=p\/k=j) (fun _ _ e=>.inl e)));clear n;replace a:=h_ (a.out.y' l);dsimp only at a;generalize W.setCell ⟨r,12,none⟩ (I_ l)=W at *;clear I ag;go_wp2_with fail
 go_loopw [3,4,5] (fun ev lv iv wr=>∃ (i:Nat) (y:Sp) (ab:Int),ev=I_ 0/\lv=I_ ab/\iv=I_ i/\i<=86/\Vm.gG l (names.drop i) y ab=some (x4,aa)/\lY wr p b j y/\cq (fun k=>k=p\/k=j) W wr) (fun _ _ iv _=>86-(intOf iv).toNat)
 case atStart=>exact⟨0,x3,0,rfl,rfl,rfl,by omega,HF.out,o.out,cq.refl _ _⟩
 case round =>
  obtain⟨i,y,ab,rfl,rfl,rfl,hi,z,hr,hk⟩:=hrel;have HY:=h_ hr;have HK:=h_ hk;have X:=h_ (a.out.ct hk (fun e=>by rcases e with e | e;exact C.out e;exact D.out e));have ac:=h_ (u.out.ct hk (fun g e=>by cases e;exact fun e=>by rcases e with e | e;exact M.out e;exact N.out e));clear hr hk;have v:=X.out.c1;have Y:=X.out.c5;have I:=X.out.c12;dsimp only at v Y I;by_cases ah:i<86
  . have af:i<names.length:=by rw[fZ];exact ah
    obtain⟨g,hg,K⟩:=qS ac.out i af;cases hg;have ai:=RI i af;rw[List.drop_eq_getElem_cons af]at z;generalize names[i]=H at K z ai;rw[Vm.gG]at z;by_cases pc:(y.cO l H 0 (num H)).2.2=0;case neg=>rw[if_neg pc]at z;cases z
    rw[if_pos pc]at z;have P:=h_ fun V R=>vk V p b j y l H 0 (num H) (by omega) (by omega) pc R;generalize y.cO l H 0 (num H)=Q at z pc P;obtain⟨Q,q,e2⟩:=Q;dsimp only at z P;rw[ai]at P;have U:=h_ z;have av:(0:Int)<=(i:Int):=by omega
    have aw:(i:Int)<86:=by omega
    have hw:IntKind.i64.wrap ((i:Int)+1)=(i:Int)+1:=IntWalk.i64_in _ (by omega);have HW:=h_ hw;unfold nm at K;rw[<- hw]at P;clear z af pc ai hw;go_upto_region 14 with fail;have az:r<wr.heap.size:=cA X.out;have ay:B<wr.heap.size:=ac.out.lt rfl;have ax:=HY.out.sV;have G:¬ (r=p\/r=j):=fun e=>by rcases e with e | e;exact C.out e;exact D.out e
    have nN:¬ (B=p\/B=j):=fun e=>by rcases e with e | e;exact M.out e;exact N.out e
    go_cut [6,7] (fun v6 v7 wx=>∃ g8:Nat,v6=cD g8/\v7=I_ 0/\C_ wx g8 1=some (I_ q.xt)/\lY wx p b j Q/\cq (fun k=>k=p\/k=j) wr wx)
    case first =>
     go_region_held3 (fun w'=>C_ w' r 1=some (cD p)/\C_ w' r 5=some (.slice (some ⟨B,0,none⟩) 86 nc)/\C_ w' r 12=some (I_ l)/\C_ w' B i=some (S_ H))
      (first | go_keep)
      (first
        | (go_at_call 215;refine(P.out (wr.alloc (.cells #[I_ 0,I_ 0,I_ 0,.string ⟨#[]⟩] 307)).drew (HY.out.ct ((dR wr (.cells #[I_ 0,I_ 0,I_ 0,.string ⟨#[]⟩] 307)).trans (cq.drew _ _)) id id id)).mono ?_;rintro e J ⟨rfl,r5,E⟩;dsimp only[Wd.val]
           have kp:=(cq.alloc (fun k=>k=p\/k=j) wr (.cells #[I_ 0,I_ 0,I_ 0,.string ⟨#[]⟩] 307)).trans (cq.drew _ _);have n:=kp.trans E;have o1:=n.cell v G;have o5:=n.cell Y G;have ao:=n.cell I G;have oc:=n.cell K nN;have L:=E.heap (show((wr.alloc (.cells #[I_ 0,I_ 0,I_ 0,.string ⟨#[]⟩] 307)).drew).heap[wr.heap.size]?=_ from cx wr _) (fun e=>by rcases e with e | e <;> omega);have n0:r≠wr.heap.size:=by omega
           have aB:wr.heap.size≠r:=by omega
           have n1:B≠wr.heap.size:=by omega
           have aC:wr.heap.size≠B:=by omega
           have z0:C_ J wr.heap.size 0=some (I_ 0):=cp L rfl;have z1:C_ J wr.heap.size 1=some (I_ 0):=cp L rfl;have z2:C_ J wr.heap.size 2=some (I_ 0):=cp L rfl;have z3:C_ J wr.heap.size 3=some (.string ⟨#[]⟩):=cp L rfl;have q0:=cB (i:=0) L;have q1:=cB (i:=1) L;have q2:=cB (i:=2) L
           have q3:=cB (i:=3) L)
        | (go_at_call 215;refine(P.out wr.drew (HY.out.ct (fw wr) id id id)).mono ?_;rintro e J ⟨rfl,r5,E⟩;dsimp only[Wd.val]
           have o1:=E.cell v G;have o5:=E.cell Y G;have ao:=E.cell I G;have oc:=E.cell K nN
           have n:=(cq.drew (fun k=>k=p\/k=j) wr).trans E))
     all_goals
      go_wp2;go_meet
      first
       | (have hB:=lI (g:=wr.heap.size) L (I_ q.cM) (I_ q.xt) (I_ q.cP) (S_ q.name)
          have kB:=ei n wr.heap.size (I_ q.cM) (I_ q.xt) (I_ q.cP) (S_ q.name) (by omega);have rB:=r5.ct (fF J wr.heap.size (I_ q.cM) (I_ q.xt) (I_ q.cP) (S_ q.name)) (fun e=>by have e:p=wr.heap.size:=e;omega) (fun e=>by have e:b=wr.heap.size:=e;omega) (fun e=>by have e:j=wr.heap.size:=e;omega)
          exact⟨_,rfl,rfl,cp (i:=1) hB rfl,rB,kB⟩)
       | (have kA:=n.trans (cq.alloc (fun k=>k=p\/k=j) J (.cells #[I_ q.cM,I_ q.xt,I_ q.cP,S_ q.name] 307))
          exact⟨_,rfl,rfl,cp (i:=1) (cx J (.cells #[I_ q.cM,I_ q.xt,I_ q.cP,S_ q.name] 307)) rfl,r5.ct (dR J (.cells #[I_ q.cM,I_ q.xt,I_ q.cP,S_ q.name] 307)) id id id,kA⟩)
    case rest =>
     obtain⟨g8,rfl,rfl,h8,r8,k8⟩:=hcut;have R8:=h_ r8;have K8:=h_ (HK.out.trans k8);have d5:C_ wc r 5=some (.slice (some ⟨B,0,none⟩) 86 nc):=k8.cell Y G;have dc:C_ wc B i=some (S_ H):=k8.cell K nN;have hm:=Dp ah (show wrap64 ((i:Int)+1)=(i:Int)+1 from IntWalk.wrap64_in _ (by omega));rw[IntWalk.wrap64_in ((i:Int)+1) (by omega)]at hm;have HM:=h_ hm;clear v Y I K r8 k8 hm P;by_cases Z:H=[40,99,97,117,103,104,116,41]
     . have d:(H == [40,99,97,117,103,104,116,41])=true:=by simp[Z]
       replace U:=h_ (show Vm.gG l (names.drop (i+1)) Q q.xt=some (x4,aa) by have:=U.out;rw[if_pos Z]at this;exact this);clear Z;go_wp2;go_roundw;case rel=>exact⟨i+1,Q,q.xt,rfl,rfl,by go_num,by omega,U.out,R8.out,K8.out⟩
       case measure=>exact HM.out
     . have d:(H == [40,99,97,117,103,104,116,41])=false:=by simp[Z]
       replace U:=h_ (show Vm.gG l (names.drop (i+1)) Q ab=some (x4,aa) by have:=U.out;rw[if_neg Z]at this;exact this);clear Z;go_wp2;go_roundw;case rel=>exact⟨i+1,Q,ab,rfl,rfl,by go_num,by omega,U.out,R8.out,K8.out⟩
       case measure=>exact HM.out
  . have ar:i=86:=by omega
    subst ar;rw[show names.drop 86=[] by rw[<- fZ];exact List.drop_length]at z;rw[Vm.gG]at z;injection z with z;injection z with h1 h2;subst h1;subst h2;replace a:=X;replace u:=ac;replace o:=HY;replace t:=h_ (t.out.trans (HK.out.mono (T:=fun k=>k=r\/k=p\/k=j) (fun _ _ e=>.inr e)));clear ah X ac HY HK HF;go_upto_region 19 with fail;have G:¬ (r=p\/r=j):=fun e=>by rcases e with e | e;exact C.out e;exact D.out e
    go_cut [3] (fun v3 wx=>v3=I_ 0/\lY wx p b j x5/\cq (fun k=>k=p\/k=j) wr wx)
    case first =>
     go_region_held3 (fun w'=>C_ w' r 1=some (cD p)/\C_ w' r 12=some (I_ l))
      (first | go_keep)
      (first
        | (go_at_call 215;refine(C4.out wr.drew (o.out.ct (fw wr) id id id)).mono ?_;rintro e J ⟨rfl,r5,E⟩;dsimp only[Wd.val]
           have o1:=E.cell v G;have ao:=E.cell I G
           have n:=(cq.drew (fun k=>k=p\/k=j) wr).trans E))
     all_goals
      go_wp2;go_meet;exact⟨rfl,r5,n⟩
    case rest =>
    obtain⟨rfl,A,m⟩:=hcut;replace a:=h_ (a.out.ct m G);replace u:=h_ (u.out.ct m (fun g e=>by cases e;exact fun e=>by rcases e with e | e;exact M.out e;exact N.out e));replace t:=h_ (t.out.trans (m.mono (fun _ _ e=>.inr e)));replace o:=h_ A;clear A m v Y I;generalize wc=W at *;have v:=a.out.c1;have ad:=a.out.VF;dsimp only at v ad;go_upto_region 21 with fail;go_still_tail 8,(by kernel_rfl);change wpList _ _ _ _ _ W.drew;replace a:=h_ (a.out.ct (fw W) id);replace u:=h_ (u.out.ct (fw W) (fun _ _=>id));replace o:=h_ (o.out.ct (fw W) id id id);replace t:=h_ (t.out.trans (cq.drew _ W));generalize W.drew=W at *;go_wp2_with fail;refine((C5.out _ o.out)).mono ?_;rintro e W ⟨rfl,A,m⟩;replace a:=h_ (a.out.ct m (fun e=>by rcases e with e | e;exact C.out e;exact D.out e));replace u:=h_ (u.out.ct m (fun g e=>by cases e;exact fun e=>by rcases e with e | e;exact M.out e;exact N.out e));replace t:=h_ (t.out.trans (m.mono (fun _ _ e=>.inr e)));replace o:=h_ A;clear A m;clear v ad;have v:=a.out.c1;have ak:=a.out.Ts;have aq:=a.out.f 11;have s3:=o.out.c3;dsimp only at v ak;go_upto_region 23 with fail;have n:=(cq.setCell (S:=fun k=>k=r) W ⟨r,11,none⟩ (I_ O.cu) (fun _=>rfl));replace o:=h_ (o.out.ct n (fun e=>C.out (by have e:p=r:=e;exact e.symm)) (fun e=>N2.out (by have e:b=r:=e;exact e.symm)) (fun e=>D.out (by have e:j=r:=e;exact e.symm)));replace u:=h_ (u.out.ct n (fun g e=>by cases e;exact fun e=>N5.out (by have e:B=r:=e;exact e)));replace t:=h_ (t.out.trans (n.mono (T:=fun k=>k=r\/k=p\/k=j) (fun _ _ e=>.inl e)));clear n;replace a:=h_ (a.out.sC O.cu);dsimp only at a;generalize W.setCell ⟨r,11,none⟩ (I_ O.cu)=W at *;clear v ak aq s3;have v:=a.out.c1;dsimp only at v;go_wp2_with fail;refine((C6.out _ o.out)).mono ?_;rintro e W ⟨rfl,A,m⟩;replace a:=h_ (a.out.ct m (fun e=>by rcases e with e | e;exact C.out e;exact D.out e));replace u:=h_ (u.out.ct m (fun g e=>by cases e;exact fun e=>by rcases e with e | e;exact M.out e;exact N.out e));replace t:=h_ (t.out.trans (m.mono (fun _ _ e=>.inr e)));replace o:=h_ A;clear A m;go_wp2;go_ret;exact⟨rfl,a.out,o.out,t.out⟩
end Go.Proofs.dS
