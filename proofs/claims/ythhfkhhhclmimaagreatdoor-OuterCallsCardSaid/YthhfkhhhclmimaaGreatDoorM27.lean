/- Of CallsG: WRfD. No condition. -/
import Derived.Test.YthhfkhhhclmimaaGreatDoorM26
import Derived.Test.YthhfkhhhclmimaaGreatDoorM21
set_option linter.unusedVariables false
set_option linter.unusedSimpArgs false
set_option maxRecDepth 10000
set_option maxHeartbeats 4000000
namespace Go.Proofs.Shed
open Go Go.RowKit Go.Proofs.K Go.Proofs.Cod
structure Rc where
 (ms ss ds rs hs na nc:Nat)
 (root base caught list:Int)
 (inp:List UInt8)
def Rc.cells (c:Rc):Array Value:=#[.pointer (some ⟨c.ms,0,none⟩),.pointer (some ⟨c.ss,0,none⟩),.pointer (some ⟨c.ds,0,none⟩),.pointer (some ⟨c.rs,0,none⟩),.pointer (some ⟨c.hs,0,none⟩),
 .slice (some ⟨c.na,0,none⟩) 86 c.nc,.int .i64 0,.int .i64 0,.int .i64 0,.int .i64 c.root,.int .i64 c.base,.int .i64 c.caught,.int .i64 c.list,.int .i64 0,.string ⟨#[]⟩,.string ⟨c.inp.toArray⟩,.bool false]
def RRc (w:World) (r:Nat) (c:Rc):Prop:=w.heap[r]?=some (.cells c.cells 163 (0,0))
namespace RRc
variable {w w':World} {r:Nat} {c:Rc}
theorem keeps (h:RRc w r c) {S:Nat→Prop} (k:Keeps S w w') (h0:¬ S r):RRc w' r c:=k.heap h h0
theorem c1 (h:RRc w r c):w.cell? ⟨r,1,none⟩=some (.pointer (some ⟨c.ss,0,none⟩)):=cell_of h rfl
theorem c5 (h:RRc w r c):w.cell? ⟨r,5,none⟩=some (.slice (some ⟨c.na,0,none⟩) 86 c.nc):=cell_of h rfl
theorem c9 (h:RRc w r c):w.cell? ⟨r,9,none⟩=some (.int .i64 c.root):=cell_of h rfl
theorem c10 (h:RRc w r c):w.cell? ⟨r,10,none⟩=some (.int .i64 c.base):=cell_of h rfl
theorem c11 (h:RRc w r c):w.cell? ⟨r,11,none⟩=some (.int .i64 c.caught):=cell_of h rfl
theorem c12 (h:RRc w r c):w.cell? ⟨r,12,none⟩=some (.int .i64 c.list):=cell_of h rfl
theorem f (h:RRc w r c) (i:Nat):w.frozen? ⟨r,i,none⟩=false:=free_of h
theorem setRoot (h:RRc w r c) (n:Int):RRc (w.setCell ⟨r,9,none⟩ (.int .i64 n)) r { c with root:=n }:=hset_same h _
theorem setBase (h:RRc w r c) (n:Int):RRc (w.setCell ⟨r,10,none⟩ (.int .i64 n)) r { c with base:=n }:=hset_same h _
theorem setCaught (h:RRc w r c) (n:Int):RRc (w.setCell ⟨r,11,none⟩ (.int .i64 n)) r { c with caught:=n }:=hset_same h _
theorem setList (h:RRc w r c) (n:Int):RRc (w.setCell ⟨r,12,none⟩ (.int .i64 n)) r { c with list:=n }:=hset_same h _
end RRc
theorem num_names:∀ i:Fin 86,num (names.getD i.1 [])=(i.1:Int)+1:=by decide +kernel
theorem num_at (i:Nat) (h:i<names.length):num names[i]=(i:Int)+1:=by
 have:=num_names ⟨i,by rw [← names_len];exact h⟩
 rw [List.getD_eq_getElem?_getD,List.getElem?_eq_getElem h] at this;exact this
theorem ref_fill (w:World) (r s b bb:Nat) (c:Rc) (x x1 y:Sp) (base list caught:Int) (hc:RRc w r c) (hsp:c.ss=s) (h:RRs w s b bb x) (h0:x.comma 0=(x1,0)) (hp:Vm.prims x1=some (y,base,list,caught))
 (hn:Own w 9 1 (some ⟨c.na,0,none⟩) 86 c.nc (names.map nm))
 (n1:r≠s) (n2:r≠b) (n3:r≠bb) (n4:c.na≠s) (n5:c.na≠r) (n6:c.na≠bb) :
 Calls Tryz.prog 136 #[.pointer (some ⟨r,0,none⟩)] w fun e w'=>e=.returned (.int .i64 0)∧RRc w' r { c with root:=x.here,base:=base,list:=list,caught:=caught }∧RRs w' s b bb y∧Keeps (fun k=>k=r∨k=s∨k=bb) w w':=by
 have C0:=h_ fun V R=>(rs_comma V s b bb x 0 (by rw [h0]) R).mono fun _ _ h=>h.of (show _=x1 by rw [h0])
 unfold Vm.prims at hp;by_cases p1:(x1.comma 10).2=0
 case neg=>rw [if_pos p1] at hp;cases hp
 rw [if_neg (by simpa using p1)] at hp
 have C1:=h_ fun V R=>rs_comma V s b bb x1 10 p1 R
 generalize hx2:x1.comma 10=x2 at hp p1 C1;obtain ⟨x2,e1⟩:=x2;simp only at hp p1
 subst p1;by_cases p2:x2.list.2.2=0
 case neg=>rw [if_pos p2] at hp;cases hp
 rw [if_neg (by simpa using p2)] at hp
 have C2:=h_ fun V R=>ref_list V s b bb x2 p2 R
 generalize x2.list=x3 at hp p2 C2;obtain ⟨x3,l,e2⟩:=x3;simp only at hp p2
 subst p2;generalize hf:Vm.primFold l names x3 0=r3 at hp
 cases r3 with
 | none=>simp only at hp;cases hp
 | some r3 =>
 obtain ⟨x4,last⟩:=r3;simp only at hp
 by_cases p4:(x4.create l [98,97,115,101] 0 1003).2.2=0
 case neg=>rw [if_pos p4] at hp;cases hp
 rw [if_neg (by simpa using p4)] at hp
 have C4:=h_ fun V R=>ref_create V s b bb x4 l [98,97,115,101] 0 1003 (by omega) (by omega) p4 R
 generalize x4.create l [98,97,115,101] 0 1003=x5 at hp p4 C4;obtain ⟨x5,wd4,e4⟩:=x5;simp only at hp p4
 subst p4;by_cases p5:(x5.comma x1.here).2=0
 case neg=>rw [if_pos p5] at hp;cases hp
 rw [if_neg (by simpa using p5)] at hp
 have C5:=h_ fun V R=>rs_comma V s b bb x5 x1.here p5 R
 generalize x5.comma x1.here=x6 at hp p5 C5;obtain ⟨x6,e5⟩:=x6;simp only at hp p5
 subst p5;by_cases p6:(x6.comma last).2=0
 case neg=>rw [if_pos p6] at hp;cases hp
 rw [if_neg (by simpa using p6)] at hp
 have C6:=h_ fun V R=>rs_comma V s b bb x6 last p6 R
 generalize x6.comma last=x7 at hp p6 C6;obtain ⟨x7,e6⟩:=x7;simp only at hp p6
 subst p6;injection hp with hp
 injection hp with h1 hp
 injection hp with h2 hp
 injection hp with h3 h4
 subst h1;subst h2;subst h3;subst h4;have HF:=h_ hf;clear hf hx2 h0;obtain ⟨ms,ss,ds,rs,hs,na,nc,root,ba,ca,li,inp⟩:=c;simp only at hsp n4 n5 n6 hn
 subst hsp;have N1:=h_ n1;have N2:=h_ n2;have N3:=h_ n3;have N4:=h_ n4;have N5:=h_ n5;have N6:=h_ n6;have HC:=h_ hc;have R1:=h_ h;have HN:=h_ hn;have KK:=h_ (Keeps.refl (fun k=>k=r∨k=ss∨k=bb) w)
 clear hc h hn n1 n2 n3 n4 n5 n6;dsimp only at C1 C2 C4 C5 C6;have c1:=HC.out.c1;have c9:=HC.out.c9;have f9:=HC.out.f 9;have s3:=R1.out.c3
 go_enter Tryz.func136,Tryz.ntmps136
 go_upto_region 2 with fail;have ks:=(Keeps.setCell (S:=fun k=>k=r) w ⟨r,9,none⟩ (.int .i64 x.here) (fun _=>rfl))
 replace R1:=h_ (R1.out.keeps ks (fun e=>N1.out (by have e:ss=r:=e;exact e.symm)) (fun e=>N2.out (by have e:b=r:=e;exact e.symm)) (fun e=>N3.out (by have e:bb=r:=e;exact e.symm)))
 replace HN:=h_ (HN.out.keeps ks (fun g e=>by cases e;exact fun e=>N5.out (by have e:na=r:=e;exact e)))
 replace KK:=h_ (KK.out.trans (ks.mono (T:=fun k=>k=r∨k=ss∨k=bb) (fun _ _ e=>.inl e)))
 clear ks;replace HC:=h_ (HC.out.setRoot x.here);dsimp only at HC;generalize w.setCell ⟨r,9,none⟩ (.int .i64 x.here)=W at *;clear c1 c9 f9 s3;have c1:=HC.out.c1;go_wp2_with fail;refine ((C0.out _ R1.out)).mono ?_;rintro e W ⟨rfl,r1,k1⟩;replace HC:=h_ (HC.out.keeps k1 (fun e=>by rcases e with e | e;exact N1.out e;exact N3.out e))
 replace HN:=h_ (HN.out.keeps k1 (fun g e=>by cases e;exact fun e=>by rcases e with e | e;exact N4.out e;exact N6.out e))
 replace KK:=h_ (KK.out.trans (k1.mono (fun _ _ e=>.inr e)))
 replace R1:=h_ r1;clear r1 k1;clear c1;have c1:=HC.out.c1;have c10:=HC.out.c10;have f10:=HC.out.f 10;have s3:=R1.out.c3;go_upto_region 4 with fail;have ks:=(Keeps.setCell (S:=fun k=>k=r) W ⟨r,10,none⟩ (.int .i64 x1.here) (fun _=>rfl))
 replace R1:=h_ (R1.out.keeps ks (fun e=>N1.out (by have e:ss=r:=e;exact e.symm)) (fun e=>N2.out (by have e:b=r:=e;exact e.symm)) (fun e=>N3.out (by have e:bb=r:=e;exact e.symm)))
 replace HN:=h_ (HN.out.keeps ks (fun g e=>by cases e;exact fun e=>N5.out (by have e:na=r:=e;exact e)))
 replace KK:=h_ (KK.out.trans (ks.mono (T:=fun k=>k=r∨k=ss∨k=bb) (fun _ _ e=>.inl e)))
 clear ks;replace HC:=h_ (HC.out.setBase x1.here);dsimp only at HC;generalize W.setCell ⟨r,10,none⟩ (.int .i64 x1.here)=W at *;clear c1 c10 f10 s3;have c1:=HC.out.c1;go_wp2_with fail;refine ((C1.out _ R1.out)).mono ?_;rintro e W ⟨rfl,r1,k1⟩;replace HC:=h_ (HC.out.keeps k1 (fun e=>by rcases e with e | e;exact N1.out e;exact N3.out e))
 replace HN:=h_ (HN.out.keeps k1 (fun g e=>by cases e;exact fun e=>by rcases e with e | e;exact N4.out e;exact N6.out e))
 replace KK:=h_ (KK.out.trans (k1.mono (fun _ _ e=>.inr e)))
 replace R1:=h_ r1;clear r1 k1;clear c1;have c1:=HC.out.c1;have c12:=HC.out.c12;have f12:=HC.out.f 12;go_wp2_with fail;clear c1 c12 f12;refine ((C2.out _ R1.out)).mono ?_;rintro e W ⟨rfl,r1,k1⟩;replace HC:=h_ (HC.out.keeps k1 (fun e=>by rcases e with e | e;exact N1.out e;exact N3.out e))
 replace HN:=h_ (HN.out.keeps k1 (fun g e=>by cases e;exact fun e=>by rcases e with e | e;exact N4.out e;exact N6.out e))
 replace KK:=h_ (KK.out.trans (k1.mono (fun _ _ e=>.inr e)))
 replace R1:=h_ r1;clear r1 k1;have c12:=HC.out.c12;have f12:=HC.out.f 12;go_upto_region 8 with fail;have ks:=(Keeps.setCell (S:=fun k=>k=r) W ⟨r,12,none⟩ (.int .i64 l) (fun _=>rfl))
 replace R1:=h_ (R1.out.keeps ks (fun e=>N1.out (by have e:ss=r:=e;exact e.symm)) (fun e=>N2.out (by have e:b=r:=e;exact e.symm)) (fun e=>N3.out (by have e:bb=r:=e;exact e.symm)))
 replace HN:=h_ (HN.out.keeps ks (fun g e=>by cases e;exact fun e=>N5.out (by have e:na=r:=e;exact e)))
 replace KK:=h_ (KK.out.trans (ks.mono (T:=fun k=>k=r∨k=ss∨k=bb) (fun _ _ e=>.inl e)))
 clear ks;replace HC:=h_ (HC.out.setList l);dsimp only at HC;generalize W.setCell ⟨r,12,none⟩ (.int .i64 l)=W at *;clear c12 f12;go_wp2_with fail
 go_loopw [3,4,5] (fun ev lv iv wr=>∃ (i:Nat) (y:Sp) (lst:Int),ev=.int .i64 0∧lv=.int .i64 lst∧iv=.int .i64 i∧i≤86∧Vm.primFold l (names.drop i) y lst=some (x4,last)∧RRs wr ss b bb y∧Keeps (fun k=>k=ss∨k=bb) W wr) (fun _ _ iv _=>86-(intOf iv).toNat)
 case atStart=>exact ⟨0,x3,0,rfl,rfl,rfl,by omega,HF.out,R1.out,Keeps.refl _ _⟩
 case round =>
  obtain ⟨i,y,lst,rfl,rfl,rfl,hi,hf,hr,hk⟩:=hrel;have HY:=h_ hr;have HK:=h_ hk;have HMC:=h_ (HC.out.keeps hk (fun e=>by rcases e with e | e;exact N1.out e;exact N3.out e))
  have HNN:=h_ (HN.out.keeps hk (fun g e=>by cases e;exact fun e=>by rcases e with e | e;exact N4.out e;exact N6.out e))
  clear hr hk;have c1:=HMC.out.c1;have c5:=HMC.out.c5;have c12:=HMC.out.c12;dsimp only at c1 c5 c12;by_cases hlt:i<86
  · have hi':i<names.length:=by rw [names_len];exact hlt
    obtain ⟨g,hg,hc⟩:=own_str HNN.out i hi'
    cases hg
    have hnum:=num_at i hi';rw [List.drop_eq_getElem_cons hi'] at hf;generalize names[i]=nmn at hc hf hnum;rw [Vm.primFold] at hf;by_cases pc:(y.create l nmn 0 (num nmn)).2.2=0
    case neg=>rw [if_neg pc] at hf;cases hf
    rw [if_pos pc] at hf;have HCR:=h_ fun V R=>ref_create V ss b bb y l nmn 0 (num nmn) (by omega) (by omega) pc R
    generalize y.create l nmn 0 (num nmn)=y2 at hf pc HCR;obtain ⟨y2,wd,e2⟩:=y2;dsimp only at hf HCR;rw [hnum] at HCR;have HF2:=h_ hf;have hi0:(0:Int)≤(i:Int):=by omega
    have hi86:(i:Int)<86:=by omega
    have hw:IntKind.i64.wrap ((i:Int)+1)=(i:Int)+1:=IntWalk.i64_in _ (by omega)
    have HW:=h_ hw;unfold nm at hc;rw [← hw] at HCR;clear hf hi' pc hnum hw;go_upto_region 14 with fail;have hrw:r<wr.heap.size:=lt_of_heap HMC.out;have hna:na<wr.heap.size:=HNN.out.lt rfl;have hlt3:=HY.out.lts;have nS:¬ (r=ss∨r=bb):=fun e=>by rcases e with e | e;exact N1.out e;exact N3.out e
    have nN:¬ (na=ss∨na=bb):=fun e=>by rcases e with e | e;exact N4.out e;exact N6.out e
    go_cut [6,7] (fun v6 v7 wx=>∃ g8:Nat,v6=.pointer (some ⟨g8,0,none⟩)∧v7=.int .i64 0∧wx.cell? ⟨g8,1,none⟩=some (.int .i64 wd.xt)∧RRs wx ss b bb y2∧Keeps (fun k=>k=ss∨k=bb) wr wx)
    case first =>
     go_region_held3 (fun w'=>w'.cell? ⟨r,1,none⟩=some (.pointer (some ⟨ss,0,none⟩))∧w'.cell? ⟨r,5,none⟩=some (.slice (some ⟨na,0,none⟩) 86 nc)∧w'.cell? ⟨r,12,none⟩=some (.int .i64 l)∧w'.cell? ⟨na,i,none⟩=some (.string ⟨nmn.toArray⟩))
      (first | go_keep)
      (first
        | (go_at_call 215;refine (HCR.out (wr.alloc (.cells #[.int .i64 0,.int .i64 0,.int .i64 0,.string ⟨#[]⟩] 307)).drew (HY.out.keeps ((ka_ wr (.cells #[.int .i64 0,.int .i64 0,.int .i64 0,.string ⟨#[]⟩] 307)).trans (Keeps.drew _ _)) id id id)).mono ?_;rintro e w5 ⟨rfl,r5,k5⟩;dsimp only [Wd.val]
           have kp:=(Keeps.alloc (fun k=>k=ss∨k=bb) wr (.cells #[.int .i64 0,.int .i64 0,.int .i64 0,.string ⟨#[]⟩] 307)).trans (Keeps.drew _ _)
           have ks:=kp.trans k5;have o1:=ks.cell c1 nS;have o5:=ks.cell c5 nS;have o12:=ks.cell c12 nS;have oc:=ks.cell hc nN;have hz:=k5.heap (show ((wr.alloc (.cells #[.int .i64 0,.int .i64 0,.int .i64 0,.string ⟨#[]⟩] 307)).drew).heap[wr.heap.size]?=_ from halloc_at wr _) (fun e=>by rcases e with e | e <;> omega)
           have n0:r≠wr.heap.size:=by omega
           have n0':wr.heap.size≠r:=by omega
           have n1:na≠wr.heap.size:=by omega
           have n1':wr.heap.size≠na:=by omega
           have z0:w5.cell? ⟨wr.heap.size,0,none⟩=some (.int .i64 0):=cell_of hz rfl;have z1:w5.cell? ⟨wr.heap.size,1,none⟩=some (.int .i64 0):=cell_of hz rfl;have z2:w5.cell? ⟨wr.heap.size,2,none⟩=some (.int .i64 0):=cell_of hz rfl;have z3:w5.cell? ⟨wr.heap.size,3,none⟩=some (.string ⟨#[]⟩):=cell_of hz rfl;have q0:=free_of (i:=0) hz;have q1:=free_of (i:=1) hz;have q2:=free_of (i:=2) hz
           have q3:=free_of (i:=3) hz)
        | (go_at_call 215;refine (HCR.out wr.drew (HY.out.keeps (kd_ wr) id id id)).mono ?_;rintro e w5 ⟨rfl,r5,k5⟩;dsimp only [Wd.val]
           have o1:=k5.cell c1 nS;have o5:=k5.cell c5 nS;have o12:=k5.cell c12 nS;have oc:=k5.cell hc nN
           have ks:=(Keeps.drew (fun k=>k=ss∨k=bb) wr).trans k5))
     all_goals
      go_wp2_with fail
      go_meet
      first
       | (have hB:=set4 (g:=wr.heap.size) hz (.int .i64 wd.at_) (.int .i64 wd.xt) (.int .i64 wd.flags) (.string ⟨wd.name.toArray⟩)
          have kB:=keeps_set4 ks wr.heap.size (.int .i64 wd.at_) (.int .i64 wd.xt) (.int .i64 wd.flags) (.string ⟨wd.name.toArray⟩) (by omega)
          have rB:=r5.keeps (keeps_set4g w5 wr.heap.size (.int .i64 wd.at_) (.int .i64 wd.xt) (.int .i64 wd.flags) (.string ⟨wd.name.toArray⟩)) (fun e=>by have e:ss=wr.heap.size:=e;omega) (fun e=>by have e:b=wr.heap.size:=e;omega) (fun e=>by have e:bb=wr.heap.size:=e;omega)
          exact ⟨_,rfl,rfl,cell_of (i:=1) hB rfl,rB,kB⟩)
       | (have kA:=ks.trans (Keeps.alloc (fun k=>k=ss∨k=bb) w5 (.cells #[.int .i64 wd.at_,.int .i64 wd.xt,.int .i64 wd.flags,.string ⟨wd.name.toArray⟩] 307))
          exact ⟨_,rfl,rfl,cell_of (i:=1) (halloc_at w5 (.cells #[.int .i64 wd.at_,.int .i64 wd.xt,.int .i64 wd.flags,.string ⟨wd.name.toArray⟩] 307)) rfl,r5.keeps (ka_ w5 (.cells #[.int .i64 wd.at_,.int .i64 wd.xt,.int .i64 wd.flags,.string ⟨wd.name.toArray⟩] 307)) id id id,kA⟩)
    case rest =>
     obtain ⟨g8,rfl,rfl,h8,r8,k8⟩:=hcut;have R8:=h_ r8;have K8:=h_ (HK.out.trans k8);have d5:wc.cell? ⟨r,5,none⟩=some (.slice (some ⟨na,0,none⟩) 86 nc):=k8.cell c5 nS;have dc:wc.cell? ⟨na,i,none⟩=some (.string ⟨nmn.toArray⟩):=k8.cell hc nN;have hm:=meas14 hlt (show wrap64 ((i:Int)+1)=(i:Int)+1 from IntWalk.wrap64_in _ (by omega))
     rw [IntWalk.wrap64_in ((i:Int)+1) (by omega)] at hm
     have HM:=h_ hm;clear c1 c5 c12 hc r8 k8 hm HCR;by_cases hca:nmn=[40,99,97,117,103,104,116,41]
     · have d:(nmn == [40,99,97,117,103,104,116,41])=true:=by simp [hca]
       replace HF2:=h_ (show Vm.primFold l (names.drop (i+1)) y2 wd.xt=some (x4,last) by have:=HF2.out;rw [if_pos hca] at this;exact this)
       clear hca;go_wp2_with fail
       go_roundw
       case rel=>exact ⟨i+1,y2,wd.xt,rfl,rfl,by go_num,by omega,HF2.out,R8.out,K8.out⟩
       case measure=>exact HM.out
     · have d:(nmn == [40,99,97,117,103,104,116,41])=false:=by simp [hca]
       replace HF2:=h_ (show Vm.primFold l (names.drop (i+1)) y2 lst=some (x4,last) by have:=HF2.out;rw [if_neg hca] at this;exact this)
       clear hca;go_wp2_with fail
       go_roundw
       case rel=>exact ⟨i+1,y2,lst,rfl,rfl,by go_num,by omega,HF2.out,R8.out,K8.out⟩
       case measure=>exact HM.out
  · have hge:i=86:=by omega
    subst hge;rw [show names.drop 86=[] by rw [← names_len];exact List.drop_length] at hf
    rw [Vm.primFold] at hf;injection hf with hf
    injection hf with h1 h2
    subst h1;subst h2;replace HC:=HMC;replace HN:=HNN;replace R1:=HY;replace KK:=h_ (KK.out.trans (HK.out.mono (T:=fun k=>k=r∨k=ss∨k=bb) (fun _ _ e=>.inr e)))
    clear hlt HMC HNN HY HK HF;go_upto_region 19 with fail;have nS:¬ (r=ss∨r=bb):=fun e=>by rcases e with e | e;exact N1.out e;exact N3.out e
    go_cut [3] (fun v3 wx=>v3=.int .i64 0∧RRs wx ss b bb x5∧Keeps (fun k=>k=ss∨k=bb) wr wx)
    case first =>
     go_region_held3 (fun w'=>w'.cell? ⟨r,1,none⟩=some (.pointer (some ⟨ss,0,none⟩))∧w'.cell? ⟨r,12,none⟩=some (.int .i64 l))
      (first | go_keep)
      (first
        | (go_at_call 215;refine (C4.out wr.drew (R1.out.keeps (kd_ wr) id id id)).mono ?_;rintro e w5 ⟨rfl,r5,k5⟩;dsimp only [Wd.val]
           have o1:=k5.cell c1 nS;have o12:=k5.cell c12 nS
           have ks:=(Keeps.drew (fun k=>k=ss∨k=bb) wr).trans k5))
     all_goals
      go_wp2_with fail
      go_meet
      exact ⟨rfl,r5,ks⟩
    case rest =>
    obtain ⟨rfl,r1,k1⟩:=hcut;replace HC:=h_ (HC.out.keeps k1 nS);replace HN:=h_ (HN.out.keeps k1 (fun g e=>by cases e;exact fun e=>by rcases e with e | e;exact N4.out e;exact N6.out e))
    replace KK:=h_ (KK.out.trans (k1.mono (fun _ _ e=>.inr e)))
    replace R1:=h_ r1;clear r1 k1 c1 c5 c12;generalize wc=W at *;have c1:=HC.out.c1;have c10:=HC.out.c10;dsimp only at c1 c10;go_upto_region 21 with fail
    go_still_tail 8,(by kernel_rfl)
    change wpList _ _ _ _ _ W.drew
    replace HC:=h_ (HC.out.keeps (kd_ W) id);replace HN:=h_ (HN.out.keeps (kd_ W) (fun _ _=>id))
    replace R1:=h_ (R1.out.keeps (kd_ W) id id id);replace KK:=h_ (KK.out.trans (Keeps.drew _ W));generalize W.drew=W at *;go_wp2_with fail;refine ((C5.out _ R1.out)).mono ?_;rintro e W ⟨rfl,r1,k1⟩;replace HC:=h_ (HC.out.keeps k1 (fun e=>by rcases e with e | e;exact N1.out e;exact N3.out e))
    replace HN:=h_ (HN.out.keeps k1 (fun g e=>by cases e;exact fun e=>by rcases e with e | e;exact N4.out e;exact N6.out e))
    replace KK:=h_ (KK.out.trans (k1.mono (fun _ _ e=>.inr e)))
    replace R1:=h_ r1;clear r1 k1;clear c1 c10;have c1:=HC.out.c1;have c11:=HC.out.c11;have f11:=HC.out.f 11;have s3:=R1.out.c3;dsimp only at c1 c11;go_upto_region 23 with fail;have ks:=(Keeps.setCell (S:=fun k=>k=r) W ⟨r,11,none⟩ (.int .i64 x6.here) (fun _=>rfl))
    replace R1:=h_ (R1.out.keeps ks (fun e=>N1.out (by have e:ss=r:=e;exact e.symm)) (fun e=>N2.out (by have e:b=r:=e;exact e.symm)) (fun e=>N3.out (by have e:bb=r:=e;exact e.symm)))
    replace HN:=h_ (HN.out.keeps ks (fun g e=>by cases e;exact fun e=>N5.out (by have e:na=r:=e;exact e)))
    replace KK:=h_ (KK.out.trans (ks.mono (T:=fun k=>k=r∨k=ss∨k=bb) (fun _ _ e=>.inl e)))
    clear ks;replace HC:=h_ (HC.out.setCaught x6.here);dsimp only at HC;generalize W.setCell ⟨r,11,none⟩ (.int .i64 x6.here)=W at *;clear c1 c11 f11 s3;have c1:=HC.out.c1;dsimp only at c1;go_wp2_with fail;refine ((C6.out _ R1.out)).mono ?_;rintro e W ⟨rfl,r1,k1⟩;replace HC:=h_ (HC.out.keeps k1 (fun e=>by rcases e with e | e;exact N1.out e;exact N3.out e))
    replace HN:=h_ (HN.out.keeps k1 (fun g e=>by cases e;exact fun e=>by rcases e with e | e;exact N4.out e;exact N6.out e))
    replace KK:=h_ (KK.out.trans (k1.mono (fun _ _ e=>.inr e)))
    replace R1:=h_ r1;clear r1 k1;go_wp2_with fail;go_ret
    exact ⟨rfl,HC.out,R1.out,KK.out⟩
end Go.Proofs.Shed
