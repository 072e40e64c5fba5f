/- A part of EarlyG. No condition. -/
import Derived.Test.YthhfkhhhclmimaaGreatDoorM15
import Derived.Test.YthhfkhhhclmimaaGreatDoorM02
set_option linter.unusedVariables false
set_option linter.unusedSimpArgs false
open Go.Proofs.Tryz
set_option maxRecDepth 10000
set_option maxHeartbeats 4000000
namespace Go.Proofs.Ay
open Go Go.RowKit Go.Proofs.K
theorem uY(b:Bool)(w:World):Calls prog 412 #[.bool b] w fun e w'=>e=.returned (I_ (if b then -1 else 0))/\w=w':=by
 cases b;all_goals
  go_enter func412,ntmps412;go_wp2;go_ret;exact⟨rfl,rfl⟩
theorem Hj(w:World):Calls prog 427 #[I_ 1] w fun e w'=>e=.returned (.int .u64 1)/\w=w':=by
 go_enter func427,ntmps427;go_wp2;go_ret;exact⟨rfl,rfl⟩
theorem C7(w:World):Calls prog 410 #[I_ 1,I_ 1] w fun e w'=>e=.returned (.tuple #[I_ 1,I_ 0])/\K_ w w':=by
 go_enter func410,ntmps410;go_wp2_with fail;go_region
 all_goals
  go_wp2;go_ret2;exact⟨rfl,cq.drew _ _⟩
def l'(v:List UInt8):Bool:=v == [97,110,100] || v == [111,114] || v == [120,111,114] || v == [108,115,104,105,102,116] || v == [114,115,104,105,102,116] || v == [61] || v == [60,62] || v == [60] || v == [62] || v == [117,60] || v == [109,105,110] || v == [109,97,120]
def Az(v:List UInt8):Bool:=v == [43] || v == [45] || v == [42] || v == [47] || v == [109,111,100] || l' v
def s9(v:List UInt8):Bool:=v == [110,101,103,97,116,101] || v == [105,110,118,101,114,116] || v == [97,98,115] || v == [48,61] || v == [48,60] || v == [49,43] || v == [99,104,97,114,43] || v == [49,45] || v == [50,42] || v == [50,47] || v == [99,101,108,108,115] || v == [99,101,108,108,43] || v == [97,108,105,103,110,101,100]
theorem Hk(v:List UInt8)(w:World):Calls prog 411 #[S_ v,I_ 1,I_ 1] w fun e w'=>(∃ n:Int,e=.returned (.tuple #[I_ n,.bool (l' v)]))/\w=w':=by
 go_enter func411,ntmps411;go_wp2_with (first | (refine eD (Hj _) ?_) | (refine eD (uY _ _) ?_))
 all_goals first
  | (exfalso;simp_all;done)
  | (go_ret2;rw[show l' v=true by simp[l', *]];exact⟨⟨_,rfl⟩,rfl⟩)
  | (go_ret2;rw[show l' v=false by simp[l', *]];exact⟨⟨_,rfl⟩,rfl⟩)
theorem OQ(v:List UInt8)(w:World):Calls prog 319 #[S_ v,I_ 1,I_ 1] w fun e w'=>(∃ n c:Int,e=.returned (.tuple #[I_ n,I_ c,.bool (Az v)]))/\K_ w w':=by
 have b:=h_ fun w=>Hk v w;have a:Hid (Az v=(v == [43] || v == [45] || v == [42] || v == [47] || v == [109,111,100] || l' v)):=rfl;generalize l' v=p at b a;generalize Az v=q at a |-;go_enter func319,ntmps319;go_wp2_with (first | (refine(C7 _).mono ?_;rintro e g ⟨rfl,f⟩;have d:=f;clear f) | (refine(b.out _).mono ?_;rintro e g ⟨⟨n,rfl⟩,rfl⟩))
 all_goals first
  | (exfalso;simp_all;done)
  | (go_ret3;rw[show q=true by rw[a.out];simp[*]];exact⟨⟨_,_,rfl⟩,by first | exact d | exact cq.refl _ _⟩)
  | (go_ret3;rw[show q=p by rw[a.out];simp[*]];exact⟨⟨_,_,rfl⟩,by first | exact d | exact cq.refl _ _⟩)
theorem OR(v:List UInt8)(w:World):Calls prog 321 #[S_ v,I_ 1] w fun e w'=>(∃ n:Int,e=.returned (.tuple #[I_ n,.bool (s9 v)]))/\w=w':=by
 go_enter func321,ntmps321;go_wp2_with (first | (refine eD (uY _ _) ?_))
 all_goals first
  | (exfalso;simp_all;done)
  | (go_ret2;rw[show s9 v=true by simp[s9, *]];exact⟨⟨_,rfl⟩,rfl⟩)
  | (go_ret2;rw[show s9 v=false by simp[s9, *]];exact⟨⟨_,rfl⟩,rfl⟩)
end Go.Proofs.Ay
set_option maxHeartbeats 8000000
namespace Go.Proofs.dS
open Go Go.RowKit Go.Proofs.K
theorem dP.KU(m:Mem)(b:Int)(k:Nat)(a:Int)(l:List nr)(g:a<=b)(h:dP.fL m b k a=some l):16*(l.length:Int)<=b-a:=by
 induction k generalizing a l with
 | zero =>
  rw[dP.fL]at h;cases h;simp only[List.length_nil];omega
 | succ k f =>
  rw[dP.fL]at h;by_cases d:a<b
  . rw[if_pos d]at h
    by_cases e:(m.cell a).2≠0\/(dP.dF a (m.cell a).1).size<16\/(dP.dF a (m.cell a).1).size % 8≠0\/b-a<(dP.dF a (m.cell a).1).size
    . rw[if_pos e]at h;cases h
    . rw[if_neg e]at h
      cases c:dP.fL m b k (a+(dP.dF a (m.cell a).1).size)with
      | none=>rw[c]at h;cases h
      | some q =>
       rw[c]at h;simp only[Option.map_some,Option.some.injEq]at h;subst h;have:=f _ _ (by omega) c;rw[List.length_cons];omega
  . rw[if_neg d]at h
    cases h;simp only[List.length_nil];omega
theorem wH.at{B:Nat}{w:World}{a:Option Addr}{c:Nat}{L:List nr}(h:wH B w a c L){i:Nat}(e:i<L.length) :
 ∃ g,a=some ⟨g,0,none⟩/\L.length<=c/\w.cell? ⟨g,i*3,none⟩=some (I_ L[i].cM)/\w.cell? ⟨g,i*3+1,none⟩=some (I_ L[i].size)/\w.cell? ⟨g,i*3+2,none⟩=some (.bool L[i].used):=by
 rcases h.1.jK with⟨_,n,_⟩ | ⟨g,cur,d,m,f,_⟩
 . omega
 . have b:=h.1
   rw[d]at b;obtain⟨j,k,l⟩:=KM L i e;exact⟨g,d,f,b.cell j,b.cell k,b.cell l⟩
def sx(h b bb:Nat)(lo hi:Int)(r:Mem × Int × Int)(w:World)(e:Ending)(w':World):Prop :=
 e=.returned (.tuple #[I_ r.2.1,I_ r.2.2])/\wG w' h b bb r.1 lo hi/\cq (fun k=>k=bb) w w'
theorem ia(m:Mem)(x:nr):(dP.put m x).1.size=m.size:=Mem.cQ _ _ _
theorem heap_alloc(w:World)(h b F:Nat)(m:Mem)(y t n:Int)(N:wG w h b F m y t) :
 Calls prog 337 #[cD h,I_ n] w (sx h b F y t (dP.alloc m y t n) w):=by
 have H:=N;have b0:=N.Rm;have b1:=N.lt;have b2:=N.uE;have b3:=N.mem.le
 have O:Hid (dP.alloc m y t n=if n<0\/1048576<n then(m,0,-59)
 else match dP.blocks m y t with
  | none=>(m,0,-2052)
  | some l=>match dP.pick (dP.rX n) l with
   | none=>(m,0,-59)
   | some b=>dP.Gm m b (dP.rX n)):=rfl
 generalize dP.alloc m y t n=r at O |-;by_cases M:n<0\/1048576<n
 . have f:=O.out
   rw[if_pos M]at f;have J:=f;clear f O;rcases M with M | M
   . go_enter func337,ntmps337
     go_wp2;go_ret2;rw[J];exact⟨rfl,H,cq.refl _ _⟩
   . have aC:decide (n<0)=false:=decide_eq_false (by omega)
     go_enter func337,ntmps337;go_wp2;go_ret2;rw[J];exact⟨rfl,H,cq.refl _ _⟩
 . have f:=O.out
   rw[if_neg M]at f;have n0:decide (n<0)=false:=decide_eq_false (by omega);have n1:decide (1048576<n)=false:=decide_eq_false (by omega);have n2:0<=n:=by omega
   have n3:n<=1048576:=by omega
   have hN:=h_ fun w=>Hi w n (by omega) (by omega);have L:=h_ (Ax w h b F m y t H);have ag:=h_ (fun l (e:dP.blocks m y t=some l)=>dP.CZ e);have ae:=h_ (fun l (e:dP.blocks m y t=some l)=>dP.KU m t _ y l b1 e);have aq:=dP.Od n (by omega);generalize dP.blocks m y t=q at f L ag ae;generalize dP.rX n=o at f hN aq;have J:=f;clear f O M;cases q with
   | none =>
    have f:=J;simp only at f;have K:=h_ f;clear f;unfold yT at L;go_enter func337,ntmps337;go_wp2_with fail;refine L.out.mono ?_;rintro e w1 ⟨rfl,G⟩;go_wp2;go_ret2;rw[K.out];exact⟨rfl,H.ct G id id id,G.mono (fun _ _=>False.elim)⟩
   | some l =>
    have f:=J;simp only at f;have K:=h_ f;have ap:=h_ (ag.out l rfl);have ao:=ae.out l rfl;have aB:l.length<=1000000:=by omega
    clear ao ae;clear f J ag;unfold yT at L;go_enter func337,ntmps337;go_wp2_with fail;refine L.out.mono ?_;rintro e w1 ⟨a,c,rfl,o1,G⟩;have I:=H.ct G id id id;clear L;go_wp2_with fail;refine eD (hN.out _) ?_;go_wp2_with fail
    go_loopw [34] (fun iv wr=>∃ i:Nat,iv=I_ i/\i<=l.length/\K_ w1 wr/\dP.pick o (l.drop i)=dP.pick o l) (fun iv _=>l.length-(intOf iv).toNat)
    case atStart=>exact⟨0,rfl,by omega,cq.refl _ _,rfl⟩
    case round =>
     obtain⟨i,rfl,aA,A,B⟩:=hrel;by_cases af:i<l.length
     . rw[List.drop_eq_getElem_cons af,dP.pick]at B
       have ak:=ap.out l[i] (List.getElem_mem af);obtain⟨g,rfl,aD,ah,ai,aj⟩:=o1.at af;have c0:=A.cell ah id;have c1:=A.cell ai id;have c2:=A.cell aj id;clear ah ai aj;generalize l[i]=p at c0 c1 c2 B ak;obtain⟨d,s,am⟩:=p;simp only at c0 c1 c2 B ak;have az:(0:Int)<=(i:Int):=by omega
       have av:0<=d:=by omega
       have aw:d<=4611686018427387:=by omega
       have aG:16<=s:=by omega
       have aH:s<=4611686018427387:=by omega
       have aE:16<=o:=by omega
       have aF:o<=1048592:=by omega
       have ka:=dR wr (.cells #[I_ d,I_ s,.bool am] 301);have Z:=A.trans ka;have RA:=I.ct Z id id id;cases am with
       | true =>
        rw[if_pos (.inl rfl)]at B;clear ka;go_wp2;go_roundw;case rel=>exact⟨i+1,by go_num,by omega,Z,B⟩
        case measure=>simp[intOf];omega
       | false =>
        by_cases U:s<o
        . rw[if_pos (.inr U)]at B
          have hd:decide (s<o)=true:=decide_eq_true U;clear ka;go_wp2;go_roundw;case rel=>exact⟨i+1,by go_num,by omega,Z,B⟩
          case measure=>simp[intOf];omega
        . rw[if_neg (by simp[U])]at B
          have f:=K.out;rw[<- B]at f;have C:r=dP.Gm m ⟨d,s,false⟩ o:=f;unfold dP.Gm at C;simp only at C;have hd:decide (s<o)=false:=decide_eq_false U;have ax:=RA.mem.lt;have ay:=cA RA.head;have D0:=cp (i:=0) (cx wr (.cells #[I_ d,I_ s,.bool false] 301)) rfl;have D1:=cp (i:=1) (cx wr (.cells #[I_ d,I_ s,.bool false] 301)) rfl;have D2:=cp (i:=2) (cx wr (.cells #[I_ d,I_ s,.bool false] 301)) rfl;clear f K;by_cases R:16<=s-o
          . rw[if_pos R]at C
            have an:decide (16<=s-o)=true:=decide_eq_true R;have Y:=rq _ _ _ _ _ _ _ ⟨d+o,s-o,false⟩ RA (by simp only;omega) (by simp only;omega);have D:=fun w m H=>rq w h b F m y t ⟨d,o,true⟩ H (by simp only;omega) (by simp only;omega);have al:=ia m ⟨d+o,s-o,false⟩;unfold nr.val at Y D;simp only at Y D;generalize dP.put m ⟨d+o,s-o,false⟩=u at Y C al;have V:=ia u.1 ⟨d,o,true⟩;have ad:=fun w H=>D w u.1 H;generalize dP.put u.1 ⟨d,o,true⟩=v at ad C V;have ab:=h_ ad;have P:=h_ C;have E:=(show ¬ wr.heap.size=F by have:=(I.ct A id id id).mem.lt;omega);clear C R U ad D;go_wp2_with fail;refine Y.mono ?_;rintro e w3 ⟨rfl,m3,W⟩;have R3:=RA.with m3 al W;have z:=W.heap (cx wr (.cells #[I_ d,I_ s,.bool false] 301)) E;have E0:=cp (i:=0) z rfl;have E1:=cp (i:=1) z rfl;have E2:=cp (i:=2) z rfl;have f1:=cB (i:=1) z;have f2:=cB (i:=2) z;have ar:=W.size;rw[World.size_alloc]at ar;have K3:=((G.trans Z).mono (fun _ _=>False.elim)).trans W;have aa:=cz (i:=2) (cz (i:=1) z (I_ o)) (.bool true);have KS:cq (fun j=>j=wr.heap.size) w3 ((w3.setCell ⟨wr.heap.size,1,none⟩ (I_ o)).setCell ⟨wr.heap.size,2,none⟩ (.bool true)) :=
             cq.trans (cq.setCell (S:=fun j=>j=wr.heap.size) w3 ⟨wr.heap.size,1,none⟩ (I_ o) (fun _=>rfl)) (cq.setCell (S:=fun j=>j=wr.heap.size) _ ⟨wr.heap.size,2,none⟩ (.bool true) (fun _=>rfl))
            have ac:=h_ KS;clear m3 W z KS D0 D1 D2;go_wp2_with fail;generalize (w3.setCell ⟨wr.heap.size,1,none⟩ (I_ o)).setCell ⟨wr.heap.size,2,none⟩ (.bool true)=w4 at aa ac |-;have G0:=cp (i:=0) aa rfl;have G1:=cp (i:=1) aa rfl;have G2:=cp (i:=2) aa rfl;have Q:=(R3.ct (ac.out.trans (cq.drew _ _)) (fun e=>by have:=cA (I.ct A id id id).head;omega) (fun e=>by have:=(I.ct A id id id).mem.lt;omega) (fun e=>E e.symm));have K4:=(K3.dh (ac.out.trans (cq.drew _ _)) (fun j hj e=>by have:=G.size;have:=A.size;omega));have HQ:=ab.out _ Q;have au:IntKind.i64.wrap (d+8)=d+8:=IntWalk.i64_in _ (by omega);go_wp2_with fail
            go_region_held3 (fun w'=>C_ w' wr.heap.size 0=some (I_ d)/\C_ w' wr.heap.size 1=some (I_ o)/\C_ w' wr.heap.size 2=some (.bool true))
             (first | go_keep | exact⟨x.cell G0 E,x.cell G1 E,x.cell G2 E⟩)
             ((go_at_call 209;refine HQ.mono ?_;rintro e w5 ⟨rfl,X,x⟩))
            have R5:=Q.with X V x;have K5:=K4.trans x;clear X x;go_wp2;go_ret2;rw[P.out];exact⟨rfl,R5,K5⟩
          . rw[if_neg R]at C
            have an:decide (16<=s-o)=false:=decide_eq_false R;have D:=fun w H=>rq w h b F m y t ⟨d,s,true⟩ H (by simp only;omega) (by simp only;omega);have V:=ia m ⟨d,s,true⟩;unfold nr.val at D;simp only at D;generalize dP.put m ⟨d,s,true⟩=v at D C V;have ab:=h_ D;have P:=h_ C;have E:=(show ¬ wr.heap.size=F by have:=(I.ct A id id id).mem.lt;omega);have f2:=cB (i:=2) (cx wr (.cells #[I_ d,I_ s,.bool false] 301));have z:=cx wr (.cells #[I_ d,I_ s,.bool true] 301);have G0:=cp (i:=0) z rfl;have G1:=cp (i:=1) z rfl;have G2:=cp (i:=2) z rfl;have k9:=(A.trans (dR wr (.cells #[I_ d,I_ s,.bool true] 301))).trans (cq.drew _ _);have Q:=I.ct k9 id id id;have K4:=(G.trans k9).mono (T:=fun k=>k=F) (fun _ _=>False.elim);have HQ:=ab.out _ Q;have au:IntKind.i64.wrap (d+8)=d+8:=IntWalk.i64_in _ (by omega);clear k9 z f2 D0 D1 ka;go_wp2_with fail
            go_region_held3 (fun w'=>C_ w' wr.heap.size 0=some (I_ d)/\C_ w' wr.heap.size 1=some (I_ s)/\C_ w' wr.heap.size 2=some (.bool true))
             (first | go_keep | exact⟨x.cell G0 E,x.cell G1 E,x.cell G2 E⟩)
             ((go_at_call 209;refine HQ.mono ?_;rintro e w5 ⟨rfl,X,x⟩))
            have R5:=Q.with X V x;have K5:=K4.trans x;clear X x;go_wp2;go_ret2;rw[P.out];exact⟨rfl,R5,K5⟩
     . rw[List.drop_eq_nil_of_le (by omega),dP.pick]at B
       have f:=K.out;rw[<- B]at f;have P:=h_ f;clear f K;go_wp2;go_ret2;rw[P.out];exact⟨rfl,(I.ct A id id id),(G.trans A).mono (fun _ _=>False.elim)⟩
end Go.Proofs.dS
