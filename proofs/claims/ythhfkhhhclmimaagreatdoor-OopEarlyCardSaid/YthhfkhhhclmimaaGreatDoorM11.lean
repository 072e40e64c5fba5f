/- A part of EarlyG. No condition. -/
import Derived.Test.YthhfkhhhclmimaaGreatDoorM04
set_option linter.unusedVariables false
set_option linter.unusedSimpArgs false
open Go.Proofs.Tryz
set_option maxRecDepth 10000
set_option maxHeartbeats 4000000
namespace Go.Proofs.dS
open Go Go.RowKit Go.Proofs.K
theorem pB(w:World)(b:Int):Calls prog 90 #[I_ b] w fun e w'=>e=.returned (.bool (dE.right b))/\w=w':=by
 have a:Hid (dE.right b=(decide (2<=b) && decide (b<=36))):=rfl;generalize dE.right b=r at a |-;by_cases f:2<=b
 . have c:decide (2<=b)=true:=decide_eq_true f
   by_cases g:b<=36
   . have d:decide (b<=36)=true:=decide_eq_true g
     go_enter func90,ntmps90;go_wp2;go_ret;exact⟨by rw[a.out,c,d];rfl,rfl⟩
   . have d:decide (b<=36)=false:=decide_eq_false g
     go_enter func90,ntmps90;go_wp2;go_ret;exact⟨by rw[a.out,c,d];rfl,rfl⟩
 . have c:decide (2<=b)=false:=decide_eq_false f
   go_enter func90,ntmps90;go_wp2;go_ret;exact⟨by rw[a.out,c];rfl,rfl⟩
def ri(L:List UInt8):List Value:=L.map fun b=>.int .u8 (b.toNat:Int)
theorem yR(w:World)(n:Nat)(b:Nat)(hn:n<18446744073709551616)(q:2<=b)(ab:b<=36) :
 Calls prog 91 #[.int .u64 (n:Int),I_ (b:Int)] w fun e w'=>e=.returned (S_ (dE.fq n b))/\K_ w w':=by
 have T:dE.right (b:Int)=true:=by unfold dE.right;simp;omega
 have J:=pB w b;rw[T]at J;clear T;go_enter func91,ntmps91;go_wp2_with fail;refine eD J ?_;go_wp2_with fail
 go_loopw [0,5] (fun y ov wr=>∃ (k m:Nat) (P:List UInt8) (a:Option Addr) (c:Nat),y=.int .u64 (m:Int)/\ov=.slice a P.length c/\P++dE.eo b (k+1) m=dE.eo b 64 n/\m<2 ^ (k+1)/\P.length+k+1=64 /\
  fp wr 5 1 a P.length c (ri P)/\(∀ g,dF a=some g->w.heap.size<=g)/\K_ w wr) (fun y _ _=>(intOf y).toNat)
 case atStart=>exact⟨63,n,[],none,0,rfl,rfl,rfl,by simpa using hn,rfl,fp.nil _ _ _,(fun g e=>nomatch e),cq.refl _ _⟩
 case round =>
  obtain⟨k,m,P,a,c,rfl,rfl,I,t,hl,ho,K,R⟩:=hrel;have ao:(0:Int)<=(m:Int):=by omega
  have ad:m<18446744073709551616:=Nat.lt_of_lt_of_le t (by
   have:k+1<=64:=by omega
   calc 2 ^ (k+1)<=2 ^ 64:=Nat.pow_le_pow_right (by omega) this
    _=18446744073709551616:=by decide)
  have ae:m % b<36:=Nat.lt_of_lt_of_le (Nat.mod_lt _ (by omega)) ab
  go_wp2_with (first
   | (at_builtin;(refine eB rfl _ _ 143 rfl 5 _ 1 1 underlying143 CI rfl (by decide) a P.length c (ri P) rfl ?f1 ⟨wr.heap.size,0,none⟩ 1 1 [Value.int .u8 ((dE.oC (m % b)).toNat:Int)] rfl rfl ?f2 ?f25 ?f3 ?f4 ?_)))
  case f1=>exact ho.ct (dR wr _) (fun _ _=>id)
  case f3=>unfold maxLen;omega
  case f4=>omega
  case f2 =>
   intro j u f;rw[Addr.add_lit,Nat.zero_add];refine cp (cx _ _) ?_;rw[dE.Q7 _ ae];simpa using f
  case f25 =>
   intro u f;simp only[List.mem_cons,List.not_mem_nil,or_false]at f;subst f;rfl
  intro p d z Z X l
  have E:=(show fp z 5 1 p (P++[dE.oC (m % b)]).length d (ri (P++[dE.oC (m % b)])) from by
   rw[List.length_append,show ri (P++[dE.oC (m % b)])=ri P++[Value.int .u8 ((dE.oC (m % b)).toNat:Int)] by simp[ri]]
   exact Z)
  have A:=(show ∀ g,dF p=some g->w.heap.size<=g from fun g r=>by
   have:=R.size;rcases l with l | l
   . exact K g (l ▸ r)
   . rw[l]at r;have:=Option.some.inj r;omega)
  have D:=((R.trans (dR wr _)).dh X (fun j s e=>absurd (K j e) (by omega)));have o:=h_ (show(m:Int) / (b:Int)=((m / b:Nat):Int) by push_cast;rfl);have V:dE.eo b (k+1) m=dE.oC (m % b) :: (if m / b=0 then [] else dE.eo b k (m / b)):=rfl;have C:=h_ V;clear Z X l V;have ak:0<=(m:Int) / (b:Int)/\(m:Int) / (b:Int)<18446744073709551616:=by
   rw[o.out];exact⟨Int.natCast_nonneg _,Int.ofNat_lt.2 (Nat.lt_of_le_of_lt (Nat.div_le_self m b) ad)⟩
  have aq:IntKind.u64.wrap ((m:Int) / (b:Int))=(m:Int) / (b:Int):=IntWalk.u64_in _ (by omega);by_cases h:m / b=0
  . have hF:P++[dE.oC (m % b)]=dE.eo b 64 n:=by
     rw[<- I,C.out,if_pos h]
    have ag:((m:Int) / (b:Int) == 0)=true:=by rw[o.out,h];rfl
    have an:(P++[dE.oC (m % b)]).length<=64:=by rw[List.length_append,List.length_singleton];omega
    have am:1<=(P++[dE.oC (m % b)]).length:=by rw[List.length_append,List.length_singleton];omega
    obtain⟨g,cur,rfl,N,af,aj,L,W⟩:∃ g cur,p=some ⟨g,0,none⟩/\z.heap[g]?=some (.cells cur 5 (0,0))/\(P.length+1)<=d/\d<=maxLen/\cur.size=d/\cur.toList.take (P.length+1)=ri (P++[dE.oC (m % b)]):=by
     rcases fp.jK E with⟨_,F,_⟩ | ⟨g,cur,F,h1,q,h3,h4,G,_⟩
     . omega
     . rw[List.length_append,List.length_singleton]at q G
       exact⟨g,cur,F,h1,q,h3,by omega,by simpa using G⟩
    have U:=GL z g (P.length+1) d d 5 cur (P++[dE.oC (m % b)]) N L af (by simp) (by omega) (by omega) (fun i O=>by
     have ac:i<P.length+1:=by simpa using O
     have H:(ri (P++[dE.oC (m % b)]))[i]?=some (.int .u8 ((P++[dE.oC (m % b)])[i].toNat:Int)):=by
      unfold ri;rw[List.getElem?_map,List.getElem?_eq_getElem O];rfl
     rw[<- W,List.getElem?_take_of_lt ac,Array.getElem?_toList]at H
     exact H)
    have aa:=h_ U;clear U N L W;go_wp2_with fail;refine aa.out.mono ?_;rintro e w5 ⟨rfl,⟨ai,r1,r2,r3⟩,Y⟩;have f:dE.fq (n:Int) (b:Int)=(P++[dE.oC (m % b)]).reverse:=by
     unfold dE.fq;rw[if_pos (by unfold dE.right;simp;omega),hF];simp
    have M:=run_convert_bytes_back (P:=prog) w5 143 9 5 ⟨g,0,none⟩ d (P++[dE.oC (m % b)]).reverse underlying143 underlying5 underlying9 (fun j s=>by
     have Q:j<(P++[dE.oC (m % b)]).length:=by simpa using s
     rw[Addr.add_lit,Nat.zero_add];refine cp r1 ?_
     rw[r3 j (by simpa using Q),show P.length+1=(P++[dE.oC (m % b)]).length by simp,JQ _ j Q])
    rw[show(P++[dE.oC (m % b)]).reverse.length=P.length+1 by simp]at M;have K5:=(D.dh Y (fun j s e=>by have:=A g rfl;omega));clear r1 r2 r3 Y;generalize (P++[dE.oC (m % b)]).reverse=ah at M f;go_wp2;go_ret;exact⟨by rw[f];rfl,K5⟩
  . have al:1<=k:=by
     rcases Nat.eq_zero_or_pos k with e | e
     . exfalso
       have v:=t;rw[e]at v;have:m<b:=by omega
       rw[Nat.div_eq_of_lt this]at h;exact h rfl
     . exact e
    have hF:(P++[dE.oC (m % b)])++dE.eo b k (m / b)=dE.eo b 64 n:=by
     rw[<- I,C.out,if_neg h];simp
    have ag:((m:Int) / (b:Int) == 0)=false:=by rw[o.out,beq_eq_false_iff_ne];omega
    have S:m / b<2 ^ k:=by
     have v:=t;rw[Nat.div_lt_iff_lt_mul (by omega)]
     calc m<2 ^ (k+1):=v
      _=2 ^ k*2:=by rw[Nat.pow_succ]
      _<=2 ^ k*b:=Nat.mul_le_mul_left _ q
    have B:=h_ S;clear S;go_wp2;go_roundw;case rel =>
     obtain⟨x,rfl⟩:∃ x,k=x+1:=⟨k-1,by omega⟩;exact⟨x,m / b,P++[dE.oC (m % b)],p,d,by rw[o.out],by rw[List.length_append];rfl,hF,B.out,by rw[List.length_append,List.length_singleton];omega,E,A,D⟩
    case measure =>
     rw[o.out];have ap:m / b<m:=Nat.div_lt_self (by have:=B.out;rcases Nat.eq_zero_or_pos m with e | e;exact absurd (by rw[e];exact Nat.zero_div _) h;exact e) (by omega);simp[intOf];omega
namespace dE
def l0(c:Int):Int:=if 48<=c/\c<=57 then c-48 else if 97<=c/\c<=122 then c-87 else if 65<=c/\c<=90 then c-55 else -1
def jW(c:Int):Int:=if c=35 then 10 else if c=36 then 16 else if c=37 then 2 else 0
end dE
theorem Hf(w:World)(c:Nat)(a:c<256):Calls prog 380 #[.int .u8 (c:Int)] w fun e w'=>e=.returned (I_ (dE.l0 c))/\w=w':=by
 go_enter func380,ntmps380;go_wp2_with fail;all_goals
  go_ret;refine⟨congrArg (fun n=>Ending.returned (I_ n)) ?_,rfl⟩;unfold dE.l0
  (repeat' split) <;> omega
theorem uU(w:World)(c:Nat)(a:c<256):Calls prog 251 #[.int .u8 (c:Int)] w fun e w'=>e=.returned (I_ (dE.jW c))/\w=w':=by
 go_enter func251,ntmps251;go_wp2_with fail;all_goals
  go_ret;refine⟨congrArg (fun n=>Ending.returned (I_ n)) ?_,rfl⟩;unfold dE.jW;simp_all
end Go.Proofs.dS
