/- Of CallsG: WNum, WNumD. No condition. -/
import Derived.Test.YthhfkhhhclmimaaGreatDoorM03
set_option linter.unusedVariables false
set_option linter.unusedSimpArgs false
set_option maxRecDepth 10000
set_option maxHeartbeats 4000000
namespace Go.Proofs.Shed
open Go Go.RowKit Go.Proofs.K
theorem num_right (w:World) (b:Int):Calls Tryz.prog 90 #[.int .i64 b] w fun e w'=>e=.returned (.bool (Num.right b))∧w=w':=by
 have HB:Hid (Num.right b=(decide (2≤b) && decide (b≤36))):=rfl;generalize Num.right b=r at HB ⊢;by_cases h1:2≤b
 · have d1:decide (2≤b)=true:=decide_eq_true h1
   by_cases h2:b≤36
   · have d2:decide (b≤36)=true:=decide_eq_true h2
     go_enter Tryz.func90,Tryz.ntmps90
     go_wp2_with fail;go_ret
     exact ⟨by rw [HB.out,d1,d2];rfl,rfl⟩
   · have d2:decide (b≤36)=false:=decide_eq_false h2
     go_enter Tryz.func90,Tryz.ntmps90
     go_wp2_with fail;go_ret
     exact ⟨by rw [HB.out,d1,d2];rfl,rfl⟩
 · have d1:decide (2≤b)=false:=decide_eq_false h1
   go_enter Tryz.func90,Tryz.ntmps90
   go_wp2_with fail;go_ret
   exact ⟨by rw [HB.out,d1];rfl,rfl⟩
def byteV (L:List UInt8):List Value:=L.map fun b=>.int .u8 (b.toNat:Int)
theorem num_unsigned (w:World) (n:Nat) (b:Nat) (hn:n<18446744073709551616) (h2:2≤b) (h36:b≤36) :
 Calls Tryz.prog 91 #[.int .u64 (n:Int),.int .i64 (b:Int)] w fun e w'=>e=.returned (.string ⟨(Num.unsigned n b).toArray⟩)∧Keeps (fun _=>False) w w':=by
 have hr:Num.right (b:Int)=true:=by unfold Num.right;simp;omega
 have hR:=num_right w b;rw [hr] at hR;have HR:=h_ hR;clear hR hr
 go_enter Tryz.func91,Tryz.ntmps91
 go_wp2_with fail;refine HR.out.mono ?_;rintro e w1 ⟨rfl,rfl⟩;go_wp2_with fail
 go_loopw [0,5] (fun nv ov wr=>∃ (k m:Nat) (P:List UInt8) (a:Option Addr) (c:Nat),nv=.int .u64 (m:Int)∧ov=.slice a P.length c∧P++Num.figsN b (k+1) m=Num.figsN b 64 n∧m<2 ^ (k+1)∧P.length+k+1=64 ∧
  Own wr 5 1 a P.length c (byteV P)∧(∀ g,blk a=some g→w.heap.size≤g)∧Keeps (fun _=>False) w wr) (fun nv _ _=>(intOf nv).toNat)
 case atStart=>exact ⟨63,n,[],none,0,rfl,rfl,rfl,by simpa using hn,rfl,Own.nil _ _ _,(fun g e=>nomatch e),Keeps.refl _ _⟩
 case round =>
  obtain ⟨k,m,P,a,c,rfl,rfl,hP,hm,hl,ho,hb,hk⟩:=hrel;have hm0:(0:Int)≤(m:Int):=by omega
  have hm1:m<18446744073709551616:=Nat.lt_of_lt_of_le hm (by
   have:k+1≤64:=by omega
   calc 2 ^ (k+1)≤2 ^ 64:=Nat.pow_le_pow_right (by omega) this
    _=18446744073709551616:=by decide)
  have HP:=h_ hP;have HM:=h_ hm;have HO:=h_ ho;have HB:=h_ hb;have HK:=h_ hk;clear hP hm ho hb hk;have hmb:m % b<36:=Nat.lt_of_lt_of_le (Nat.mod_lt _ (by omega)) h36
  go_wp2_with (first
   | (at_builtin;(refine wpList_app rfl _ _ 143 rfl 5 _ 1 1 Tryz.underlying143 infoU8 rfl (by decide) a P.length c (byteV P) rfl ?f1 ⟨wr.heap.size,0,none⟩ 1 1 [Value.int .u8 ((Num.fig (m % b)).toNat:Int)] rfl rfl ?f2 ?f25 ?f3 ?f4 ?_)))
  case f1=>exact HO.out.keeps (ka_ wr _) (fun _ _=>id)
  case f3=>unfold maxLen;omega
  case f4=>omega
  case f2 =>
   intro j u hu;rw [Addr.add_lit,Nat.zero_add];refine cell_of (halloc_at _ _) ?_;rw [Num.fig_is _ hmb];simpa using hu
  case f25 =>
   intro u hu;simp only [List.mem_cons,List.not_mem_nil,or_false] at hu
   subst hu;rfl
  intro a4 c4 w4 o4 k4 l4
  have O4:=h_ (show Own w4 5 1 a4 (P++[Num.fig (m % b)]).length c4 (byteV (P++[Num.fig (m % b)])) from by
   rw [List.length_append,show byteV (P++[Num.fig (m % b)])=byteV P++[Value.int .u8 ((Num.fig (m % b)).toNat:Int)] by simp [byteV]]
   exact o4)
  have B4:=h_ (show ∀ g,blk a4=some g→w.heap.size≤g from fun g hg=>by
   have:=HK.out.size
   rcases l4 with l4 | l4
   · exact HB.out g (l4 ▸ hg)
   · rw [l4] at hg;have:=Option.some.inj hg;omega)
  have K4:=h_ ((HK.out.trans (ka_ wr _)).trans' k4 (fun j hj e=>absurd (HB.out j e) (by omega)))
  have HDV:=h_ (show (m:Int) / (b:Int)=((m / b:Nat):Int) by push_cast;rfl)
  have hstep:Num.figsN b (k+1) m=Num.fig (m % b) :: (if m / b=0 then [] else Num.figsN b k (m / b)):=rfl
  have HST:=h_ hstep;clear o4 k4 l4 hstep
  have hdb:0≤(m:Int) / (b:Int)∧(m:Int) / (b:Int)<18446744073709551616:=by
   rw [HDV.out];exact ⟨Int.natCast_nonneg _,Int.ofNat_lt.2 (Nat.lt_of_le_of_lt (Nat.div_le_self m b) hm1)⟩
  have hwu:IntKind.u64.wrap ((m:Int) / (b:Int))=(m:Int) / (b:Int):=IntWalk.u64_in _ (by omega)
  by_cases hq:m / b=0
  · have hF:P++[Num.fig (m % b)]=Num.figsN b 64 n:=by
     rw [← HP.out,HST.out,if_pos hq]
    have HF:=h_ hF;have hq0:((m:Int) / (b:Int) == 0)=true:=by rw [HDV.out,hq];rfl
    have hl6:(P++[Num.fig (m % b)]).length≤64:=by rw [List.length_append,List.length_singleton];omega
    have hl1:1≤(P++[Num.fig (m % b)]).length:=by rw [List.length_append,List.length_singleton];omega
    clear hq hF
    obtain ⟨g,cur,rfl,hh,hnc,hcm,hcs,htk⟩:∃ g cur,a4=some ⟨g,0,none⟩∧w4.heap[g]?=some (.cells cur 5 (0,0))∧(P.length+1)≤c4∧c4≤maxLen∧cur.size=c4∧cur.toList.take (P.length+1)=byteV (P++[Num.fig (m % b)]):=by
     rcases Own.form O4.out with ⟨_,h0,_⟩ | ⟨g,cur,h0,h1,h2,h3,h4,h5,_⟩
     · omega
     · rw [List.length_append,List.length_singleton] at h2 h5
       exact ⟨g,cur,h0,h1,h2,h3,by omega,by simpa using h5⟩
    have hrv:=revB_some w4 g (P.length+1) c4 c4 5 cur (P++[Num.fig (m % b)]) hh hcs hnc (by simp) (by omega) (by omega) (fun i hi=>by
     have hi2:i<P.length+1:=by simpa using hi
     have h9:(byteV (P++[Num.fig (m % b)]))[i]?=some (.int .u8 ((P++[Num.fig (m % b)])[i].toNat:Int)):=by
      unfold byteV;rw [List.getElem?_map,List.getElem?_eq_getElem hi];rfl
     rw [← htk,List.getElem?_take_of_lt hi2,Array.getElem?_toList] at h9
     exact h9)
    have HRV:=h_ hrv;clear hrv hh hcs htk;go_wp2_with fail;refine HRV.out.mono ?_;rintro e w5 ⟨rfl,⟨cur5,r1,r2,r3⟩,k5⟩
    have hu:Num.unsigned (n:Int) (b:Int)=(P++[Num.fig (m % b)]).reverse:=by
     unfold Num.unsigned;rw [if_pos (by unfold Num.right;simp;omega),HF.out]
     simp
    have hcv:=run_convert_bytes_back (P:=Tryz.prog) w5 143 9 5 ⟨g,0,none⟩ c4 (P++[Num.fig (m % b)]).reverse Tryz.underlying143 Tryz.underlying5 Tryz.underlying9 (fun j hj=>by
     have hj2:j<(P++[Num.fig (m % b)]).length:=by simpa using hj
     rw [Addr.add_lit,Nat.zero_add];refine cell_of r1 ?_
     rw [r3 j (by simpa using hj2),show P.length+1=(P++[Num.fig (m % b)]).length by simp,midB_all _ j hj2])
    rw [show (P++[Num.fig (m % b)]).reverse.length=P.length+1 by simp] at hcv
    have HU:=h_ hu;have K5:=h_ (K4.out.trans' k5 (fun j hj e=>by have:=B4.out g rfl;omega))
    clear r1 r2 r3 k5 hu;generalize (P++[Num.fig (m % b)]).reverse=R at hcv HU;go_wp2_with fail;go_ret
    exact ⟨by rw [HU.out];rfl,K5.out⟩
  · have hk0:1≤k:=by
     rcases Nat.eq_zero_or_pos k with e | e
     · exfalso
       have hm2:=HM.out;rw [e] at hm2;have:m<b:=by omega
       rw [Nat.div_eq_of_lt this] at hq;exact hq rfl
     · exact e
    have hF:(P++[Num.fig (m % b)])++Num.figsN b k (m / b)=Num.figsN b 64 n:=by
     rw [← HP.out,HST.out,if_neg hq];simp
    have HF:=h_ hF;have hq0:((m:Int) / (b:Int) == 0)=false:=by rw [HDV.out,beq_eq_false_iff_ne];omega
    have hlt:m / b<2 ^ k:=by
     have hm2:=HM.out;rw [Nat.div_lt_iff_lt_mul (by omega)]
     calc m<2 ^ (k+1):=hm2
      _=2 ^ k*2:=by rw [Nat.pow_succ]
      _≤2 ^ k*b:=Nat.mul_le_mul_left _ h2
    have HLT:=h_ hlt;have HQ:=h_ hq;clear hF hq hlt;go_wp2_with fail
    go_roundw
    case rel =>
     obtain ⟨k',rfl⟩:∃ k',k=k'+1:=⟨k-1,by omega⟩
     exact ⟨k',m / b,P++[Num.fig (m % b)],a4,c4,by rw [HDV.out],by rw [List.length_append];rfl,HF.out,HLT.out,by rw [List.length_append,List.length_singleton];omega,O4.out,B4.out,K4.out⟩
    case measure =>
     rw [HDV.out];have hm9:m / b<m:=Nat.div_lt_self (by have:=HLT.out;rcases Nat.eq_zero_or_pos m with e | e;exact absurd (by rw [e];exact Nat.zero_div _) HQ.out;exact e) (by omega)
     simp [intOf]
     omega
namespace Num
def digit (c:Int):Int:=if 48≤c∧c≤57 then c-48 else if 97≤c∧c≤122 then c-87 else if 65≤c∧c≤90 then c-55 else -1
def prefix_ (c:Int):Int:=if c=35 then 10 else if c=36 then 16 else if c=37 then 2 else 0
end Num
theorem num_digit (w:World) (c:Nat) (hc:c<256):Calls Tryz.prog 380 #[.int .u8 (c:Int)] w fun e w'=>e=.returned (.int .i64 (Num.digit c))∧w=w':=by
 go_enter Tryz.func380,Tryz.ntmps380
 go_wp2_with fail
 all_goals
  go_ret
  refine ⟨congrArg (fun n=>Ending.returned (.int .i64 n)) ?_,rfl⟩
  unfold Num.digit
  (repeat' split) <;> omega
theorem num_prefix (w:World) (c:Nat) (hc:c<256):Calls Tryz.prog 251 #[.int .u8 (c:Int)] w fun e w'=>e=.returned (.int .i64 (Num.prefix_ c))∧w=w':=by
 go_enter Tryz.func251,Tryz.ntmps251
 go_wp2_with fail
 all_goals
  go_ret
  refine ⟨congrArg (fun n=>Ending.returned (.int .i64 n)) ?_,rfl⟩
  unfold Num.prefix_
  simp_all
end Go.Proofs.Shed
