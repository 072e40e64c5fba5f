/- Of ErrG: WErrB, WRfH, WErrC, WErrD. No condition. -/
import Derived.Test.YthhfkhhhclmimaaGreatDoorM47
import Derived.Test.YthhfkhhhclmimaaGreatDoorM50
set_option linter.unusedVariables false
set_option linter.unusedSimpArgs false
set_option maxRecDepth 10000
set_option maxHeartbeats 4000000
namespace Go.Proofs.Shed
open Go Go.RowKit Go.Proofs.K Go.Proofs.Cod
def ArgT (w : World) (a : Option Addr) (L : List (List UInt8)) : Prop := ∀ i (h : i < L.length),∃ g o,a = some ⟨g,o,none⟩ ∧ w.cell? ⟨g,o + i,none⟩ = some (.string ⟨L[i].toArray⟩)
theorem ArgT.keeps0 {w w' : World} {a : Option Addr} {L : List (List UInt8)} (h : ArgT w a L) (k : Keeps (fun _ => False) w w') : ArgT w' a L := fun i hi =>
 (h i hi).elim fun g h => h.elim fun o h => ⟨g,o,h.1,k.cell h.2 id⟩
def sumT (L : List (List UInt8)) : Nat := (L.map fun t => 1 + t.length).sum
theorem sumT_take (L : List (List UInt8)) (i : Nat) (h : i < L.length) : sumT (L.take (i + 1)) = sumT (L.take i) + (1 + L[i].length) := by
 unfold sumT
 rw [List.take_succ_eq_append_getElem h,List.map_append,List.sum_append]
 simp
theorem sumT_mem (L : List (List UInt8)) (t : List UInt8) (h : t ∈ L) : t.length ≤ sumT L := by
 induction L with
 | nil => cases h
 | cons u L ih =>
  unfold sumT at *
  rw [List.map_cons,List.sum_cons]
  rcases List.mem_cons.1 h with rfl | h
  · omega
  · have := ih h; omega
theorem measS {n i : Nat} (h : i < n) (e : wrap64 ((i : Int) + 1) = (i : Int) + 1) : n - (intOf (.int .i64 (wrap64 ((i : Int) + 1)))).toNat < n - (intOf (.int .i64 (i : Int))).toNat := by
 rw [e]
 show n - ((i : Int) + 1).toNat < n - (i : Int).toNat
 omega
theorem measS' {n i : Nat} (h : i < n) : n - (intOf (.int .i64 ((i : Int) + 1))).toNat < n - (intOf (.int .i64 (i : Int))).toNat := by
 show n - ((i : Int) + 1).toNat < n - (i : Int).toNat
 omega
def SmallT (L : List (List UInt8)) : Bool := decide (wrap64 (sumT L : Int) ≤ 2000) && decide ((L.length : Int) ≤ 40)
theorem sumT_bd (L : List (List UInt8)) (h : ∀ t ∈ L,t.length ≤ 140737488351232) : sumT L ≤ L.length * 140737488351233 := by
 induction L with
 | nil => exact Nat.le_refl _
 | cons t L ih =>
  have h1 := h t (by simp)
  have h2 := ih fun u hu => h u (by simp [hu])
  unfold sumT at *
  rw [List.map_cons,List.sum_cons,List.length_cons,Nat.add_mul]
  omega
theorem small_is (L : List (List UInt8)) (h : ∀ t ∈ L,t.length ≤ 140737488351232) (e : SmallT L = true) : ∀ t ∈ L,t.length ≤ 2000 := by
 intro t ht
 unfold SmallT at e
 simp only [Bool.and_eq_true,decide_eq_true_eq] at e
 obtain ⟨e1,e2⟩ := e
 have h1 := sumT_bd L h
 have h2 : L.length * 140737488351233 ≤ 40 * 140737488351233 := Nat.mul_le_mul_right _ (by omega)
 rw [IntWalk.wrap64_in _ (by omega)] at e1
 have := sumT_mem L t ht
 omega
theorem wrap_add (a b : Int) : wrap64 (wrap64 a + b) = wrap64 (a + b) := by unfold wrap64; omega
theorem small17 (w : World) (d h t r : Int) (a : Option Addr) (c : Nat) (L : List (List UInt8)) (hL : ArgT w a L) (hS : ∀ t ∈ L,t.length ≤ 140737488351232) (hl : L.length ≤ 4611686018427387904) (d0 : 0 ≤ d) (h0 : 0 ≤ h) (d1 : d ≤ 16000) (h1 : h ≤ 4000) :
 Calls Tryz.prog 14 #[.agg #[.int .u16 d,.int .u16 h,.int .u8 t,.int .u8 r],.slice a L.length c] w fun e w' => e = .returned (.bool (SmallT L)) ∧ Keeps (fun _ => False) w w' := by
 have HA := h_ hL
 have HS := h_ hS
 clear hL hS
 have HK := h_ (Keeps.alloc (fun _ => False) w (.cells #[.int .u16 d,.int .u16 h,.int .u8 t,.int .u8 r] 33))
 have HP := h_ (halloc_at w (.cells #[.int .u16 d,.int .u16 h,.int .u8 t,.int .u8 r] 33))
 go_enter Tryz.func14,Tryz.ntmps14
 go_upto_region 2 with fail
 obtain ⟨g,hg⟩ : ∃ g,g = w.heap.size := ⟨_,rfl⟩
 rw [← hg] at HP ⊢
 generalize w.alloc (.cells #[.int .u16 d,.int .u16 h,.int .u8 t,.int .u8 r] 33) = W at HK HP ⊢
 clear hg
 go_wp2_with fail
 go_loopw [5,10] (fun nv iv wr => ∃ i : Nat,iv = .int .i64 i ∧ i ≤ L.length ∧ nv = .int .i64 (wrap64 (sumT (L.take i) : Int)) ∧ Keeps (fun _ => False) W wr) (fun _ iv _ => L.length - (intOf iv).toNat)
 case atStart => exact ⟨0,rfl,Nat.zero_le _,(by rw [List.take_zero]; show Value.int .i64 0 = .int .i64 (wrap64 ((0 : Nat) : Int)); unfold wrap64; rfl),Keeps.refl _ _⟩
 case round =>
  obtain ⟨i,rfl,hi,rfl,hk⟩ := hrel
  have K2 := h_ hk
  clear hk
  by_cases hlt : i < L.length
  · obtain ⟨ag,ao,rfl,y0⟩ := (HA.out.keeps0 (HK.out.trans K2.out)) i hlt
    have hst := sumT_take L i hlt
    have hsl := HS.out L[i] (List.getElem_mem hlt)
    have HST := h_ hst
    generalize L[i] = s at y0 hst HST hsl
    obtain ⟨z,hz⟩ : ∃ z : Int,z = wrap64 (sumT (L.take i) : Int) := ⟨_,rfl⟩
    rw [← hz]
    have HZ := h_ hz
    have hi0 : (0 : Int) ≤ (i : Int) := by omega
    have hlI : (i : Int) < (L.length : Int) := by omega
    have bs : (0 : Int) ≤ (s.length : Int) := by omega
    have bs1 : (s.length : Int) ≤ 140737488351232 := by omega
    have cw : wrap64 ((i : Int) + 1) = (i : Int) + 1 := IntWalk.wrap64_in _ (by omega)
    clear hst hz HS HA
    go_wp2_with fail
    go_roundw
    case rel =>
     refine ⟨i + 1,rfl,hlt,?_,K2.out⟩
     have hc : ((sumT (List.take i L) + (1 + s.length) : Nat) : Int) = (sumT (List.take i L) : Int) + (1 + (s.length : Int)) := by omega
     rw [HST.out,HZ.out,hc,wrap_add]
    case measure => first | exact measS' hlt | exact measS hlt cw
  · have he : i = L.length := by omega
    subst he
    rw [List.take_length]
    have z0 := K2.out.cell (show W.cell? ⟨g,0,none⟩ = some (.int .u16 d) from cell_of HP.out rfl) id
    have z1 := K2.out.cell (show W.cell? ⟨g,1,none⟩ = some (.int .u16 h) from cell_of HP.out rfl) id
    obtain ⟨S,hS⟩ : ∃ S : Int,S = wrap64 (sumT L : Int) := ⟨_,rfl⟩
    rw [← hS]
    have hq := h_ (show SmallT L = (decide (S ≤ 2000) && decide ((L.length : Int) ≤ 40)) by rw [hS]; rfl)
    clear hS
    have e1 : decide (d ≤ 16000) = true := decide_eq_true d1
    have e2 : decide (h ≤ 4000) = true := decide_eq_true h1
    clear HA HS
    cases ha : decide (S ≤ 2000) with
    | false =>
     go_wp2_with fail
     go_ret
     exact ⟨congrArg (fun b => Ending.returned (.bool b)) (show false = SmallT L by rw [hq.out,ha]; rfl),HK.out.trans K2.out⟩
    | true =>
     cases hb : decide ((L.length : Int) ≤ 40) with
     | false =>
      go_wp2_with fail
      go_ret
      exact ⟨congrArg (fun b => Ending.returned (.bool b)) (show false = SmallT L by rw [hq.out,ha,hb]; rfl),HK.out.trans K2.out⟩
     | true =>
      go_wp2_with fail
      go_ret
      exact ⟨congrArg (fun b => Ending.returned (.bool b)) (show true = SmallT L by rw [hq.out,ha,hb]; rfl),HK.out.trans K2.out⟩
theorem suffix79 (w : World) (L : List UInt8) (n : Nat) (hl : L.length = n + 2) (hn : n ≤ 65538) (hd : L.drop n = [111,107]) : Calls Tryz.prog 79 #[.string ⟨L.toArray⟩,.string ⟨#[111,107]⟩] w fun e w' => e = .returned (.bool true) ∧ w = w' := by
 have hx := str_extract L n L.length (by omega)
 rw [hd] at hx
 have HX := h_ hx
 clear hx hd
 have e1 : wrap64 ((L.length : Int) - 2) = (n : Int) := by rw [IntWalk.wrap64_in _ (by omega)]; omega
 have e2 : decide ((2 : Int) ≤ (L.length : Int)) = true := decide_eq_true (by omega)
 go_enter Tryz.func79,Tryz.ntmps79
 go_wp2_with fail
 go_ret
 have hx2 : (⟨L.toArray⟩ : ByteArray).extract n (n + 2) = ⟨#[111,107]⟩ := by
  have h := Value.string.inj HX.out
  rw [hl,show n + 2 - n = 2 by omega] at h
  exact h
 refine ⟨?_,rfl⟩
 rw [hx2]
 exact congrArg (fun b => Ending.returned (.bool b)) (by decide +kernel)
theorem suffix_ok (w : World) (t : List UInt8) (ht : t.length ≤ 65536) : Calls Tryz.prog 21 #[.string ⟨(t ++ [111,107]).toArray⟩,.string ⟨#[111,107]⟩] w fun e w' => e = .returned (.bool true) ∧ w = w' := by
 have HS := h_ fun V => suffix79 V (t ++ [111,107]) t.length (by simp) (by omega) (by simp)
 go_enter Tryz.func21,Tryz.ntmps21
 go_wp2_with fail
 refine (HS.out w).mono ?_
 rintro e w1 ⟨rfl,rfl⟩
 go_wp2_with fail
 go_ret
 exact ⟨rfl,rfl⟩
set_option maxRecDepth 10000
set_option maxHeartbeats 4000000
theorem VmPost.rfvx {dict data ret slots hz : Int} {inp : List UInt8} {y : Sp} {root base list caught : Int} {w w' : World} {e : Ending} (h : VmPost dict data ret slots hz inp y root base list caught w e w')
 (d0 : 8 ≤ dict) (d8 : dict % 8 = 0) (t0 : 0 ≤ data) (r0 : 0 ≤ ret) (z0 : 0 ≤ hz) (hi : inp.length ≤ 1099511627776) (hs : dict + data * 8 + ret * 8 + hz ≤ y.mem.size) :
 ∃ K : Bk,e = .returned (.tuple #[.pointer (some ⟨K.mb,0,none⟩),.int .i64 0]) ∧ RFv w' K (VM.fresh dict data ret slots hz inp y root base list caught) ∧ (∀ g,K.all g → w.heap.size ≤ g) ∧ Keeps (fun _ => False) w w' := by
 obtain ⟨mb,nb,pb,s,b,bb,db,rb,hb,lo,hi2,rfl,h1,h2,h3,h4,h5,h6,⟨f1,f2,f3,f4⟩,⟨l1,l2,l3,l4⟩,h8,h9,h10,h11,h12,n1,n2,n3,n4,k⟩ := h
 have hlt := lt_of_heap h5
 have hpb : pb ≠ bb := by
  obtain ⟨n,g,_,hmm,_⟩ := h6
  intro e
  subst e
  exact MapIs.noRow hmm _ _ _ h2.mem.rest
 refine ⟨⟨mb,s,b,bb,db,rb,hb,nb,pb,fun g => lo ≤ g ∧ g < hi2⟩,rfl,⟨⟨h1,rfl,rfl,rfl,h2,h3,h4,h6,?_,?_⟩,h5,?_,?_⟩,?_,k⟩
 · intro g hg
   have hg : lo ≤ g ∧ g < hi2 := hg
   dsimp only
   omega
 · show (mb ≠ s ∧ mb ≠ b ∧ mb ≠ bb ∧ mb ≠ db ∧ mb ≠ rb) ∧ (db ≠ s ∧ db ≠ b ∧ db ≠ bb ∧ db ≠ rb) ∧ (rb ≠ s ∧ rb ≠ b ∧ rb ≠ bb) ∧ (pb ≠ mb ∧ pb ≠ s ∧ pb ≠ bb ∧ pb ≠ db ∧ pb ≠ rb)
   omega
 · exact { d8 := d8,dm := (by show dict + data * 8 ≤ _; show _ ≤ (y.mem.size : Int); omega),r8 := (by show (dict + data * 8) % 8 = 0; omega),rm := (by show dict + data * 8 + ret * 8 ≤ (y.mem.size : Int); omega),out := by simp [VM.fresh],inp := hi,fuel0 := by simp [VM.fresh],fuel1 := by simp [VM.fresh],h0 := by simp [VM.fresh],h1 := by simp [VM.fresh],lo0 := (by show 0 ≤ dict + data * 8 + ret * 8; omega),lt := (by show dict + data * 8 + ret * 8 ≤ dict + data * 8 + ret * 8 + hz; omega),top := hs }
 · intro g hg
   have hg : lo ≤ g ∧ g < hi2 := hg
   omega
 · unfold Bk.all Bk.foot
   dsimp only
   intro g hg
   omega
def OfPost (d t r h : Int) (w : World) (e : Ending) (w' : World) : Prop :=
 ∃ (K : Bk) (x : Nat),e = .returned (.tuple #[.pointer (some ⟨K.mb,0,none⟩),.pointer (some ⟨x,0,none⟩),.bool true]) ∧ RFv w' K (L17.vm d t r h) ∧ (∀ g,K.all g → w.heap.size ≤ g) ∧ Keeps (fun _ => False) w w'
def Made15 (d t r h : Int) (w : World) (e : Ending) (w' : World) : Prop :=
 ∃ K : Bk,e = .returned (.tuple #[.pointer (some ⟨K.mb,0,none⟩),.int .i64 0]) ∧ RFv w' K (L17.vm d t r h) ∧ (∀ g,K.all g → w.heap.size ≤ g) ∧ Keeps (fun _ => False) w w'
theorem made15 (d t r h : Int) (P : L17.Parts d t r h) (w : World) : Calls Tryz.prog 71 #[.agg #[.int .i64 d,.int .i64 t,.int .i64 r,.int .i64 h,.int .i64 4],.string ⟨#[]⟩] w (Made15 d t r h w) := by
 have ok := P.ok
 refine (vm_new w d t r h 4 [] _ _ _ 8 16 24 2824 P.ok).mono fun e w' hp => ?_
 have d8 := ok.d8
 have t0 := ok.t0
 have r0 := ok.r0
 have h16 := ok.h16
 exact hp.rfvx ok.d8 ok.dm ok.t0 ok.r0 (by omega) (by decide) (by rw [P.sz]; omega)
def Ref15 (d t r h : Int) (w : World) (e : Ending) (w' : World) : Prop :=
 ∃ (x bb : Nat) (c : Rc),e = .returned (.tuple #[.pointer (some ⟨x,0,none⟩),.int .i64 0]) ∧ RRc w' x c ∧ RRs w' c.ss c.ms bb (L17.y d t r h) ∧ RRk w' c.ds c.ms d t (-3) (-4) ∧ RRk w' c.rs c.ms (d + t * 8) r (-5) (-6) ∧ c.root = 8 ∧ c.base = 16 ∧ c.list = 24 ∧ c.inp = [] ∧ Keeps (fun _ => False) w w'
theorem ref15 (d t r h : Int) (P : L17.Parts d t r h) (w : World) : Calls Tryz.prog 72 #[.int .i64 d,.int .i64 t,.int .i64 r,.int .i64 h,.string ⟨#[]⟩] w (Ref15 d t r h w) :=
 (ref_new w d t r h 4 [] _ _ _ 8 16 24 2824 P.ok).mono fun e w' ⟨x,bb,c,h1,h2,h3,h4,h5,h6,h7,h8,h9,h10,h11,h12⟩ => ⟨x,bb,c,h1,h2,h3,h4,h5,h6,h7,h9,h10,h12⟩
theorem idle17 (d t r h : Int) : Idle (L17.vm d t r h) := ⟨rfl,rfl,rfl,rfl,rfl⟩
theorem of_gen (w : World) (a b t r : Int) (P : L17.Parts (a * 8) t r (b * 8)) (a1 : a ≤ 8000) (b1 : b ≤ 8000) (b0 : 0 ≤ b) (t1 : t ≤ 255) (r1 : r ≤ 255) :
 Calls Tryz.prog 15 #[.agg #[.int .u16 (a * 8),.int .u16 (b * 8),.int .u8 t,.int .u8 r],.string ⟨#[]⟩] w (OfPost (a * 8) t r (b * 8) w) := by
 have e1 : (a * 8).tdiv 8 = a := Int.mul_tdiv_cancel a (by decide)
 have e2 : (b * 8).tdiv 8 = b := Int.mul_tdiv_cancel b (by decide)
 have a0 : 0 ≤ a := by have := P.ok.d8; omega
 have t0 : 0 ≤ t := P.ok.t0
 have r0 : 0 ≤ r := P.ok.r0
 have HV := h_ fun V => made15 (a * 8) t r (b * 8) P V
 have HX := h_ fun V => ref15 (a * 8) t r (b * 8) P V
 have HS := h_ fun V K x bb c hv hc hs hd hr hb hi => same15 V K (L17.vm (a * 8) t r (b * 8)) x bb c hv (idle17 (a * 8) t r (b * 8)) hc hs (a * 8) t (-3) (-4) ((a * 8) + t * 8) r (-5) (-6) hd hr hb hi
 have HB := h_ (al2 w (.cells #[.int .u16 (a * 8),.int .u16 (b * 8),.int .u8 t,.int .u8 r] 33) (.cells #[.int .i64 (a * 8),.int .i64 t,.int .i64 r,.int .i64 (b * 8),.int .i64 4] 119))
 go_enter Tryz.func15,Tryz.ntmps15
 go_wp2_with fail
 refine (HV.out _).mono ?_
 rintro e w1 ⟨K,rfl,v1,f1,k1⟩
 have V1 := h_ v1
 have hz := k1.heap HB.out.2.1 id
 have K1 := h_ (HB.out.2.2.trans k1)
 have F1 := h_ (fun g hg => Nat.le_trans HB.out.2.2.size (f1 g hg))
 have y0 := cell_of (i := 0) hz rfl
 have y1 := cell_of (i := 1) hz rfl
 have y2 := cell_of (i := 2) hz rfl
 have y3 := cell_of (i := 3) hz rfl
 clear v1 f1 k1 hz HB HV
 go_wp2_with fail
 refine (HX.out w1).mono ?_
 rintro e w2 ⟨x,bb,c,rfl,hc,hs,hd,hr,q1,q2,q3,q4,k2⟩
 have V2 := h_ (V1.out.keeps0 k2)
 have HH := h_ fun V (k : Keeps (fun _ => False) w2 V) => sp_here V K.s K.b K.bb (L17.vm (a * 8) t r (b * 8)).x (V2.out.keeps0 k).vm.sp
 have HSM := h_ (HS.out w2 K x bb c V2.out hc hs hd hr q2 q4)
 have HSM2 := h_ (fun V (k : Keeps (fun _ => False) w2 V) => HS.out V K x bb c (V2.out.keeps0 k) (hc.keeps k id) (hs.keeps k id id id) (k.heap hd id) (k.heap hr id) q2 q4)
 have z0 : w2.cell? ⟨K.mb,0,none⟩ = some (.pointer (some ⟨K.s,0,none⟩)) := V2.out.m0
 have z7 : w2.cell? ⟨K.mb,7,none⟩ = some (.int .i64 8) := V2.out.m7
 have z8 : w2.cell? ⟨K.mb,8,none⟩ = some (.int .i64 24) := V2.out.m8
 have z9 : w2.cell? ⟨K.mb,9,none⟩ = some (.int .i64 4) := V2.out.m9
 have z12 : w2.cell? ⟨K.mb,12,none⟩ = some (.string ⟨#[]⟩) := V2.out.m12
 have x1 : w2.cell? ⟨x,1,none⟩ = some (.pointer (some ⟨c.ss,0,none⟩)) := hc.c1
 have x9 : w2.cell? ⟨x,9,none⟩ = some (.int .i64 8) := by rw [← q1]; exact hc.c9
 have x12 : w2.cell? ⟨x,12,none⟩ = some (.int .i64 24) := by rw [← q3]; exact hc.c12
 have xh : w2.cell? ⟨c.ss,3,none⟩ = some (.int .i64 (L17.vm (a * 8) t r (b * 8)).x.here) := hs.c3
 generalize (L17.vm (a * 8) t r (b * 8)).x.here = hh at HH xh
 have K2 := h_ (K1.out.trans k2)
 clear hc hs hd hr q1 q2 q3 q4 k2 HS HX V1 y0 y1 y2 y3
 go_wp2_with fail
 (try dsimp only [List.append])
 go_region_held3 (fun V => V.cell? ⟨K.mb,0,none⟩ = some (.pointer (some ⟨K.s,0,none⟩)) ∧ V.cell? ⟨K.mb,7,none⟩ = some (.int .i64 8) ∧ V.cell? ⟨K.mb,8,none⟩ = some (.int .i64 24) ∧ V.cell? ⟨K.mb,9,none⟩ = some (.int .i64 4) ∧ V.cell? ⟨K.mb,12,none⟩ = some (.string ⟨#[]⟩) ∧
  V.cell? ⟨x,1,none⟩ = some (.pointer (some ⟨c.ss,0,none⟩)) ∧ V.cell? ⟨x,9,none⟩ = some (.int .i64 8) ∧ V.cell? ⟨x,12,none⟩ = some (.int .i64 24) ∧ V.cell? ⟨c.ss,3,none⟩ = some (.int .i64 hh))
  (first | exact ⟨z0,z7,z8,z9,z12,x1,x9,x12,xh⟩ | go_keep)
  (first
    | (go_at_call 35; refine (HH.out w2.drew (Keeps.drew _ _)).mono ?_; rintro e w3 ⟨rfl,rfl⟩; dsimp only))
 clear z0 z7 z8 z9 z12 x1 x9 x12 xh
 go_wp2_with fail
 refine (HSM2.out _ (Keeps.drew _ _)).mono ?_
 rintro e w4 ⟨rfl,k4⟩
 have K4 := h_ ((K2.out.trans (Keeps.drew (fun _ => False) w2)).trans k4)
 have V4 := h_ ((V2.out.keeps0 (Keeps.drew _ _)).keeps0 k4)
 clear k4
 go_wp2_with fail
 go_ret3
 exact ⟨K,x,rfl,V4.out,F1.out,K4.out⟩
theorem of_A (w : World) : Calls Tryz.prog 15 #[.agg #[.int .u16 8000,.int .u16 400,.int .u8 20,.int .u8 20],.string ⟨#[]⟩] w (OfPost 8000 20 20 400 w) := of_gen w 1000 50 20 20 L17.pA (by decide) (by decide) (by decide) (by decide) (by decide)
theorem of_B (w : World) : Calls Tryz.prog 15 #[.agg #[.int .u16 12000,.int .u16 400,.int .u8 30,.int .u8 30],.string ⟨#[]⟩] w (OfPost 12000 30 30 400 w) := of_gen w 1500 50 30 30 L17.pB (by decide) (by decide) (by decide) (by decide) (by decide)
set_option maxRecDepth 10000
set_option maxHeartbeats 4000000
def ReaderPost (w : World) (K : Bk) (v : VM) (e : Ending) (w' : World) : Prop :=
 ∃ ob pm np mm Z,e = .returned (.pointer (some ⟨ob,0,none⟩)) ∧ RJ RE0 (Gk0 K ob pm np mm) w' Z (rd0 v,()) ∧ (∀ g,Z g → K.all g ∨ w.heap.size ≤ g) ∧ Keeps (fun _ => False) w w'
theorem new17 (w : World) (K : Bk) (v : VM) (h : RFv w K v) (hg : Glo w) (hk : ∀ g,g < 4 → ¬ K.all g) : Calls Tryz.prog 16 #[.pointer (some ⟨K.mb,0,none⟩)] w (ReaderPost w K v) :=
 (outer_news w K.mb K.s K.b K.bb _ v.x h.vm.mc rfl h.vm.sp).mono fun e w' hp => reader_of w w' K v h hg hk e hp
theorem cd17 (d t r h : Int) (n : Int) (m : Prop) (b : Nat) (ht : n ≤ t) (hr : n ≤ r) : VM.Cd ⟨n,m,b⟩ (L17.vm d t r h) :=
 ⟨⟨⟨by show (-10000 : Int) ≤ -3; decide,by show (-3 : Int) ≤ 10000; decide⟩,⟨by show (-10000 : Int) ≤ -4; decide,by show (-4 : Int) ≤ 10000; decide⟩,ht⟩,⟨⟨by show (-10000 : Int) ≤ -5; decide,by show (-5 : Int) ≤ 10000; decide⟩,⟨by show (-10000 : Int) ≤ -6; decide,by show (-6 : Int) ≤ 10000; decide⟩,hr⟩⟩
theorem text17 (w1 : World) (Z : Nat → Prop) (K : Bk) (ob pm np mm : Nat) (hj : RJ RE0 (Gk0 K ob pm np mm) w1 Z (L17.r1,())) : Calls Tryz.prog 17 #[.pointer (some ⟨ob,0,none⟩),.string ⟨L17.src.toArray⟩] w1 (PJ RE0 (Gk0 K ob pm np mm) Z w1 L17.out1) :=
 rj_text 4000000 (ext0_ok K ob pm np mm) (reset0_ok K ob pm np mm) (e0_fine (K0 4000000)) w1 Z (L17.r1,()) L17.src (by decide) (cd17 8000 20 20 400 0 True 4000000 (by decide) (by decide)) (by show 19 + 40 * (100 : Int).toNat ≤ 4000000; decide) hj
theorem fuel17 (w1 : World) (Z : Nat → Prop) (K : Bk) (ob pm np mm : Nat) (hj : RJ RE0 (Gk0 K ob pm np mm) w1 Z (rd0 (L17.vm 8000 20 20 400),())) :
 ∃ Z',RJ RE0 (Gk0 K ob pm np mm) (w1.setCell ⟨K.mb,10,none⟩ (.int .i64 100)) Z' (L17.r1,()) ∧ Evo w1 Z (w1.setCell ⟨K.mb,10,none⟩ (.int .i64 100)) Z' := rj_fuel (ext0_ok K ob pm np mm) w1 Z _ 100 (by decide) (by decide) hj
theorem lives17 (w : World) (hg : Glo w) : Calls Tryz.prog 13 #[] w fun e w' => e = .returned (.bool true) ∧ Keeps (fun _ => False) w w' := by
 have HO := h_ (of_A w)
 have h4 := hg.lt
 have HN := h_ fun w1 K (hv : RFv w1 K (L17.vm 8000 20 20 400)) (hk : ∀ g,K.all g → w.heap.size ≤ g) (k : Keeps (fun _ => False) w w1) => new17 w1 K _ hv (hg.keeps0 k) (fun g hg e => by have := hk g e; omega)
 have HT := h_ text17
 have HF := h_ fuel17
 obtain ⟨hL1,hL2⟩ := L17.lives
 generalize L17.out1 = q at HT hL1 hL2
 generalize L17.r1 = rr at HT HF
 obtain ⟨⟨r1,u1⟩,e1⟩ := q
 dsimp only at hL1 hL2
 subst hL1
 have HOUT := h_ hL2
 clear hL2 hg h4
 go_enter Tryz.func13,Tryz.ntmps13
 go_wp2_with fail
 refine HO.out.mono ?_
 rintro e w1 ⟨K,x,rfl,v1,f1,k1⟩
 have V1 := h_ v1
 have K1 := h_ k1
 have F1 := h_ f1
 clear v1 k1 f1 HO
 go_wp2_with fail
 refine (HN.out w1 K V1.out F1.out K1.out).mono ?_
 rintro e w2 ⟨ob,pm,np,mm,Z,rfl,j2,z2,k2⟩
 have fr : w2.frozen? ⟨K.mb,10,none⟩ = false := (j2.rd.elim fun X h => h.fv.free 10)
 obtain ⟨p10v,p10⟩ : ∃ v,w2.cell? ⟨K.mb,10,none⟩ = some v := j2.rd.elim fun X h => ⟨_,h.v10⟩
 obtain ⟨Z3,j3,e3⟩ := HF.out w2 Z K ob pm np mm j2
 have J3 := h_ j3
 have E3 := h_ e3
 have K2 := h_ (K1.out.trans k2)
 have hs1 := K1.out.size
 have HZ := h_ (show ∀ g,Z g → w.heap.size ≤ g from fun g hg => (z2 g hg).elim (F1.out g) (fun e => by omega))
 clear j2 z2 k2 j3 e3 hs1 HN HF V1 F1
 go_wp2_with fail
 refine (HT.out _ Z3 K ob pm np mm J3.out).mono ?_
 rintro e w4 ⟨rfl,Z4,j4,e4⟩
 have m11 := j4.rd.elim fun X h => h.fv.m11
 dsimp only at m11
 rw [HOUT.out] at m11
 have m11 : w4.cell? ⟨K.mb,11,none⟩ = some (.string ⟨#[50,53,32]⟩) := m11
 have KE := h_ (K2.out.trans' (E3.out.trans e4).k (fun i hi e => by have := HZ.out i e; omega))
 clear j4 e4
 go_wp2_with fail
 go_ret
 exact ⟨rfl,KE.out⟩
set_option maxRecDepth 10000
set_option maxHeartbeats 4000000
theorem rj_over {α : Type} {E : Ext α} {RE : World → (Nat → Prop) → α → Prop} {G : Gk} (ok : ExtOk E RE G) (w : World) (Z : Nat → Prop) (q : Rd × α) (b : Bool) (hz : RJ RE G w Z q) :
 ∃ Z',RJ RE G (w.setCell ⟨G.K.mb,13,none⟩ (.bool b)) Z' ({ q.1 with v := { q.1.v with over := b } },q.2) ∧ Evo w Z (w.setCell ⟨G.K.mb,13,none⟩ (.bool b)) Z' := by
 obtain ⟨X,Y,h1,h2,h3,h4⟩ := hz.parts
 have k : Keeps G.K.foot w (w.setCell ⟨G.K.mb,13,none⟩ (.bool b)) := foot_mb G.K (Keeps.setCell _ _ _ (fun _ => rfl))
 exact RJ.of ok hz h1 h2 h3 h4 (h1.vm (h1.fv.setOver b) k) (h1.evo k)
theorem cd_weak {v : VM} (h : VM.Cd KErr v) : VM.Cd (K0 4000000) v :=
 ⟨⟨h.1.1,h.1.2.1,Int.le_trans (by decide) h.1.2.2⟩,⟨h.2.1,h.2.2.1,Int.le_trans (by decide) h.2.2.2⟩⟩
def Any17 (K : Bk) (ob pm np mm : Nat) (w w' : World) (Z : Nat → Prop) (r : Rd) : Prop := RJ RE0 (Gk0 K ob pm np mm) w' Z (r,()) ∧ (∀ g,Z g → w.heap.size ≤ g) ∧ Keeps (fun _ => False) w w' ∧ Rd.Fi KErr 65535 r
theorem Any17.step {K : Bk} {ob pm np mm : Nat} {w w1 w2 : World} {Z Z2 : Nat → Prop} {r r2 : Rd} (h : Any17 K ob pm np mm w w1 Z r) (j : RJ RE0 (Gk0 K ob pm np mm) w2 Z2 (r2,())) (e : Evo w1 Z w2 Z2) (f : Rd.Fi KErr 65535 r2) : Any17 K ob pm np mm w w2 Z2 r2 :=
 ⟨j,fun g hg => (e.n g hg).elim (h.2.1 g) (fun e => Nat.le_trans h.2.2.1.size e),h.2.2.1.trans' e.k (fun i hi e => by have := h.2.1 i e; omega),f⟩
theorem any_text {K : Bk} {ob pm np mm : Nat} {w w1 : World} {Z : Nat → Prop} {r : Rd} (h : Any17 K ob pm np mm w w1 Z r) (t : List UInt8) (ht : t.length ≤ 1000000) :
 Calls Tryz.prog 17 #[.pointer (some ⟨ob,0,none⟩),.string ⟨t.toArray⟩] w1 fun e w2 => e = .returned (.int .i64 (E0.read t (r,())).2) ∧ ∃ Z2,Any17 K ob pm np mm w w2 Z2 (E0.read t (r,())).1.1 ∧ Evo w1 Z w2 Z2 :=
 (rj_text 4000000 (ext0_ok K ob pm np mm) (reset0_ok K ob pm np mm) (e0_fine (K0 4000000)) w1 Z (r,()) t ht (cd_weak h.2.2.2.1) (by have := h.2.2.2.2.1; show t.length + 40 * r.v.fuel.toNat ≤ 4000000; omega) h.1).mono fun e w2 ⟨he,Z2,j,ev⟩ => ⟨he,Z2,h.step j ev (read_fi (e0_fine KErr) 65535 t (r,()) h.2.2.2 (by have := h.2.2.2.2.1; show t.length + 40 * r.v.fuel.toNat ≤ 4000000; omega)).1,ev⟩
theorem any_fuel {K : Bk} {ob pm np mm : Nat} {w w1 : World} {Z : Nat → Prop} {r : Rd} (h : Any17 K ob pm np mm w w1 Z r) (n : Int) (n0 : 0 ≤ n) (n1 : n ≤ 65535) :
 ∃ Z2,Any17 K ob pm np mm w (w1.setCell ⟨K.mb,10,none⟩ (.int .i64 n)) Z2 { r with v := { r.v with fuel := n } } :=
 (rj_fuel (ext0_ok K ob pm np mm) w1 Z (r,()) n (by omega) (by omega) h.1).elim fun Z2 ⟨j,ev⟩ => ⟨Z2,h.step j ev ⟨h.2.2.2.1,n1,h.2.2.2.2.2.1,by have : r.src.length ≤ 1000000 := h.1.rd.elim fun X h => h.ok.src; show r.src.length + 40 * n.toNat ≤ 4000000; omega⟩⟩
theorem any_over {K : Bk} {ob pm np mm : Nat} {w w1 : World} {Z : Nat → Prop} {r : Rd} (h : Any17 K ob pm np mm w w1 Z r) (b : Bool) :
 ∃ Z2,Any17 K ob pm np mm w (w1.setCell ⟨K.mb,13,none⟩ (.bool b)) Z2 { r with v := { r.v with over := b } } :=
 (rj_over (ext0_ok K ob pm np mm) w1 Z (r,()) b h.1).elim fun Z2 ⟨j,ev⟩ => ⟨Z2,h.step j ev h.2.2.2⟩
theorem Any17.rd {K : Bk} {ob pm np mm : Nat} {w w1 : World} {Z : Nat → Prop} {r : Rd} (h : Any17 K ob pm np mm w w1 Z r) : ∃ X,RRd w1 (Gk0 K ob pm np mm) X r := h.1.rd
theorem Any17.cells {K : Bk} {ob pm np mm : Nat} {w w1 : World} {Z : Nat → Prop} {r : Rd} (h : Any17 K ob pm np mm w w1 Z r) :
 w1.cell? ⟨ob,4,none⟩ = some (.bool r.comp) ∧ w1.cell? ⟨ob,5,none⟩ = some (.bool r.meth) ∧ (∃ a c,w1.cell? ⟨ob,3,none⟩ = some (.slice a r.marks.length c)) ∧ w1.cell? ⟨K.mb,1,none⟩ = some (.pointer (some ⟨K.db,0,none⟩)) ∧ w1.cell? ⟨K.mb,2,none⟩ = some (.pointer (some ⟨K.rb,0,none⟩)) ∧
  w1.cell? ⟨K.mb,11,none⟩ = some (.string ⟨r.v.out.toArray⟩) ∧ w1.frozen? ⟨K.mb,10,none⟩ = false ∧ w1.frozen? ⟨K.mb,13,none⟩ = false ∧ RFv w1 K r.v :=
 h.rd.elim fun X h => ⟨h.o4,h.o5,h.o3,h.v1,h.v2,h.fv.m11,h.fv.free 10,h.fv.free 13,h.fv⟩
theorem errors17 (w : World) (hg : Glo w) (a : Option Addr) (c : Nat) (L : List (List UInt8)) (hL : ArgT w a L) (hS : ∀ t ∈ L,t.length ≤ 140737488351232) (hl : L.length ≤ 4611686018427387904) (f : Int) (f0 : 0 ≤ f) (f1 : f ≤ 65535) :
 Calls Tryz.prog 4 #[.slice a L.length c,.int .u16 f] w fun e w' => e = .returned (.bool true) ∧ Keeps (fun _ => False) w w' := by
 have h4 := hg.lt
 have HLV := h_ fun V (k : Keeps (fun _ => False) w V) => lives17 V (hg.keeps0 k)
 have HSM := h_ fun V (k : Keeps (fun _ => False) w V) => small17 V 12000 400 30 30 a c L (hL.keeps0 k) hS hl (by decide) (by decide) (by decide) (by decide)
 have HO := h_ fun V => of_B V
 have HN := h_ fun V w1 K (hv : RFv w1 K (L17.vm 12000 30 30 400)) (hk : ∀ g,K.all g → V.heap.size ≤ g) (k0 : Keeps (fun _ => False) w V) (k : Keeps (fun _ => False) V w1) => new17 w1 K _ hv (hg.keeps0 (k0.trans k)) (fun g hg e => by have := hk g e; have := k0.size; omega)
 have HA := h_ hL
 have HSL := h_ (small_is L hS)
 generalize SmallT L = sm at HSM HSL
 have H4 := h_ h4
 have K0' := h_ (Keeps.refl (fun _ => False) w)
 clear hg hL h4 hS
 go_enter Tryz.func4,Tryz.ntmps4
 go_upto_region 2 with fail
 have HP := h_ (halloc_at w (.cells #[.int .u16 12000,.int .u16 400,.int .u8 30,.int .u8 30] 33))
 have KP := h_ (Keeps.alloc (fun _ => False) w (.cells #[.int .u16 12000,.int .u16 400,.int .u8 30,.int .u8 30] 33))
 obtain ⟨g0,hg0⟩ : ∃ g0,g0 = w.heap.size := ⟨_,rfl⟩
 rw [← hg0] at HP ⊢
 generalize w.alloc (.cells #[.int .u16 12000,.int .u16 400,.int .u8 30,.int .u8 30] 33) = W at HP KP ⊢
 have HY := h_ (show ∀ V,Keeps (fun _ => False) W V → V.cell? ⟨g0,0,none⟩ = some (.int .u16 12000) ∧ V.cell? ⟨g0,1,none⟩ = some (.int .u16 400) ∧ V.cell? ⟨g0,2,none⟩ = some (.int .u8 30) ∧ V.cell? ⟨g0,3,none⟩ = some (.int .u8 30) from
  fun V k => ⟨cell_of (k.heap HP.out id) rfl,cell_of (k.heap HP.out id) rfl,cell_of (k.heap HP.out id) rfl,cell_of (k.heap HP.out id) rfl⟩)
 clear hg0 HP
 go_wp2_with fail
 refine (HLV.out W KP.out).mono ?_
 rintro e w1 ⟨rfl,k1⟩
 have KW1 := h_ k1
 have K1 := h_ (KP.out.trans k1)
 obtain ⟨y0,y1,y2,y3⟩ := HY.out w1 KW1.out
 clear k1
 go_wp2_with fail
 refine (HSM.out w1 K1.out).mono ?_
 rintro e w2 ⟨rfl,k2⟩
 have KW2 := h_ (KW1.out.trans k2)
 have K2 := h_ (K1.out.trans k2)
 clear k2 y0 y1 y2 y3
 obtain ⟨y0,y1,y2,y3⟩ := HY.out w2 KW2.out
 cases sm with
 | false =>
  clear y0 y1 y2 y3
  go_wp2_with fail
  refine (HLV.out w2 K2.out).mono ?_
  rintro e w3 ⟨rfl,k3⟩
  have K3 := h_ (K2.out.trans k3)
  clear k3
  go_wp2_with fail
  go_ret
  exact ⟨rfl,K3.out⟩
 | true =>
  have HSL2 := h_ (HSL.out rfl)
  clear HSL HSM HLV
  go_wp2_with fail
  refine (HO.out w2).mono ?_
  rintro e w3 ⟨K,x,rfl,v3,f3,k3⟩
  have HNW := h_ (HN.out w2 w3 K v3 f3 K2.out k3)
  have F3 := h_ f3
  have K3 := h_ (K2.out.trans k3)
  clear v3 f3 k3 HO HN y0 y1 y2 y3
  go_wp2_with fail
  refine HNW.out.mono ?_
  rintro e w4 ⟨ob,pm,np,mm,Z,rfl,j4,z4,k4⟩
  have hz4 : ∀ g,Z g → w.heap.size ≤ g := fun g hg => (z4 g hg).elim (fun e => Nat.le_trans K2.out.size (F3.out g e)) (fun e => Nat.le_trans K3.out.size e)
  have A4 := h_ (show Any17 K ob pm np mm w w4 Z (rd0 (L17.vm 12000 30 30 400)) from ⟨j4,hz4,K3.out.trans k4,cd17 12000 30 30 400 1 False 4000000 (by decide) (by decide),(by show (0 : Int) ≤ 65535; decide),(fun e => by cases e),(by show (0 : Nat) + 40 * (0 : Int).toNat ≤ 4000000; decide)⟩)
  generalize rd0 (L17.vm 12000 30 30 400) = r4 at A4
  clear j4 z4 k4 hz4 HNW F3
  have fr4 := A4.out.cells.2.2.2.2.2.2.1
  obtain ⟨pv,p10⟩ : ∃ v,w4.cell? ⟨K.mb,10,none⟩ = some v := A4.out.rd.elim fun X h => ⟨_,h.v10⟩
  go_wp2_with fail
  obtain ⟨Z5,a5⟩ := any_fuel A4.out (f % 3000) (by omega) (by omega)
  generalize w4.setCell ⟨K.mb,10,none⟩ (.int .i64 (f % 3000)) = w5 at a5 ⊢
  have A5 := h_ (show ∃ Z r,Any17 K ob pm np mm w w5 Z r from ⟨_,_,a5⟩)
  clear a5 A4 fr4 p10
  go_loopw [45] (fun iv wr => ∃ i : Nat,iv = .int .i64 i ∧ i ≤ L.length ∧ ∃ Z r,Any17 K ob pm np mm w wr Z r) (fun iv _ => L.length - (intOf iv).toNat)
  case atStart => exact ⟨0,rfl,Nat.zero_le _,A5.out⟩
  case round =>
   obtain ⟨i,rfl,hi,Z6,r6,a6⟩ := hrel
   have A6 := h_ a6
   clear a6
   by_cases hlt : i < L.length
   · obtain ⟨ag,ao,rfl,y0⟩ := (HA.out.keeps0 A6.out.2.2.1) i hlt
     have HT := h_ (any_text A6.out L[i] (Nat.le_trans (HSL2.out _ (List.getElem_mem hlt)) (by decide)))
     generalize L[i] = t at y0 HT
     have hi0 : (0 : Int) ≤ (i : Int) := by omega
     have hlI : (i : Int) < (L.length : Int) := by omega
     have cw : wrap64 ((i : Int) + 1) = (i : Int) + 1 := IntWalk.wrap64_in _ (by omega)
     go_wp2_with fail
     refine HT.out.mono ?_
     rintro e w7 ⟨rfl,Z7,a7,_⟩
     have A7 := h_ a7
     clear a7
     go_wp2_with fail
     go_roundw
     case rel => exact ⟨i + 1,rfl,hlt,_,_,A7.out⟩
     case measure => first | exact measS' hlt | exact measS hlt cw
   · have he : i = L.length := by omega
     subst he
     obtain ⟨q1,q2,q3,q4,q5,q6,q7,q8,q9⟩ := A6.out.cells
     have v10 := h_ q9.m10
     have p10 : ∃ v,wr.cell? ⟨K.mb,10,none⟩ = some v := ⟨_,q9.m10⟩
     have p13 : ∃ v,wr.cell? ⟨K.mb,13,none⟩ = some v := ⟨_,q9.m13⟩
     obtain ⟨pv,p10⟩ := p10
     obtain ⟨pw,p13⟩ := p13
     clear q1 q2 q3 q4 q5 q6 q9 v10
     go_wp2_with fail
     obtain ⟨Z7,a7⟩ := any_fuel A6.out 300 (by decide) (by decide)
     obtain ⟨Z8,a8⟩ := any_over a7 false
     have hm8 : r6.meth = false := by cases h : r6.meth with | false => rfl | true => exact (A6.out.2.2.2.2.2.1 h).elim
     have hd8 : 1 ≤ r6.v.d.most := A6.out.2.2.2.1.1.2.2
     have hr8 : 1 ≤ r6.v.r.most := A6.out.2.2.2.1.2.2.2
     obtain ⟨r8,e8⟩ : ∃ r8 : Rd,r8 = { ({ r6 with v := { r6.v with fuel := 300 } } : Rd) with v := { ({ r6 with v := { r6.v with fuel := 300 } } : Rd).v with over := false } } := ⟨_,rfl⟩
     rw [← e8] at a8
     have g1 : r8.meth = false := by rw [e8]; exact hm8
     have g2 : r8.v.over = false := by rw [e8]
     have g3 : r8.v.fuel = 300 := by rw [e8]
     have g4 : 1 ≤ r8.v.d.most := by rw [e8]; exact hd8
     have g5 : 1 ≤ r8.v.r.most := by rw [e8]; exact hr8
     have A8 := h_ a8
     clear a7 a8 e8 hm8 hd8 hr8 q7 q8 p10 p13
     obtain ⟨r9,h9,cl9,fu9⟩ := two_ends r8 g1 g2 g3 (by omega) (by omega)
     have HT := any_text A8.out semi2 (by decide)
     rw [h9] at HT
     have hmost : 1 ≤ r9.v.d.most := by
      have hfi := (read_fi (e0_fine KErr) 65535 semi2 (r8,()) A8.out.2.2.2 (by show 3 + 40 * r8.v.fuel.toNat ≤ 4000000; rw [g3]; decide)).1
      rw [h9] at hfi
      exact hfi.1.1.2.2
     have HT := h_ HT
     have CL9 := h_ cl9
     clear h9 g1 g2 g3 g4 g5
     refine HT.out.mono ?_
     rintro e w9 ⟨rfl,Z9,a9,_⟩
     have A9 := h_ a9
     dsimp only at a9
     obtain ⟨q1,q2,⟨ma,mc,q3⟩,q4,q5,q6,_,_,q9⟩ := a9.cells
     rw [CL9.out.comp] at q1
     rw [CL9.out.meth] at q2
     rw [CL9.out.marks] at q3
     have HD := h_ (fv_depth K w9 r9.v q9)
     have HR := h_ (fv_rdepth K w9 r9.v q9)
     rw [CL9.out.d] at HD
     rw [CL9.out.r] at HR
     have HV9 := h_ q9
     clear a9 q9 HT
     dsimp only
     go_wp2_with fail
     refine HD.out.mono ?_
     rintro e w10 ⟨rfl,rfl⟩
     go_wp2_with fail
     refine HR.out.mono ?_
     rintro e w10 ⟨rfl,rfl⟩
     go_wp2_with fail
     obtain ⟨r10,h10,hd10,hm10,ho10⟩ := after_ends r9 CL9.out fu9 hmost
     have HT := any_text A9.out charA (by decide)
     rw [h10] at HT
     have hall : Stk.all r10.v.x.mem r10.v.d = [65] := by
      rw [hm10,hd10]
      exact all_65 r9.v.x.mem r9.v.d CL9.out.d hmost HV9.out.vm.dk.ok.1 HV9.out.ok.d8 HV9.out.ok.dm
     have HO10 := h_ ho10
     have hout9 := HV9.out.ok.out
     clear q1 q2 q3 q4 q5 q6 HD HR HV9 CL9 h10 hd10 hm10 ho10 hmost fu9 A8 A6
     refine HT.mono ?_
     rintro e w11 ⟨rfl,Z11,a11,_⟩
     dsimp only at a11
     have A11 := h_ a11
     obtain ⟨_,_,_,q4,_,q6,_,_,q9⟩ := a11.cells
     have HAL := stk_all w11 K.db K.b K.bb r10.v.d r10.v.x.mem q9.vm.dk q9.vm.sp.mem
     rw [hall] at HAL
     have HAL := h_ HAL
     clear a11 q9 HT hall
     dsimp only
     go_wp2_with fail
     refine HAL.out.mono ?_
     rintro e w12 ⟨sa,sc,rfl,own12,k12⟩
     have m12 := k12.cell q6 id
     have k1 : w12.cell? ⟨K.mb,1,none⟩ = some (.pointer (some ⟨K.db,0,none⟩)) := k12.cell q4 id
     have KA := h_ (A11.out.2.2.1.trans k12)
     have HB := h_ own12.arg
     clear own12 q4 q6 k12 HAL
     dsimp only [List.length_cons,List.length_nil]
     go_wp2_with fail
     have ka := Keeps.alloc (fun _ => False) w12 (.cells #[.int .i64 65] 2)
     have hb : ArgI (w12.alloc (.cells #[.int .i64 65] 2)) (some ⟨w12.heap.size,0,none⟩) [65] := by
      intro i hi
      obtain rfl : i = 0 := by simp at hi; exact hi
      exact ⟨_,0,rfl,cell_of (halloc_at w12 _) rfl⟩
     have hq := eq_rows (w12.alloc (.cells #[.int .i64 65] 2)) sa (some ⟨w12.heap.size,0,none⟩) sc 1 [65] (by decide) (HB.out.keeps ka (fun _ _ => id)) hb
     have m13 := ka.cell m12 id
     have KB := h_ (KA.out.trans ka)
     clear ka hb m12 k1 HB KA
     generalize w12.alloc (.cells #[.int .i64 65] 2) = w13 at hq m13 KB ⊢
     have HQ := h_ hq
     clear hq
     refine HQ.out.mono ?_
     rintro e w14 ⟨rfl,k14⟩
     have m14 := k14.cell m13 id
     have KC := h_ (KB.out.trans k14)
     clear m13 k14 HQ KB
     by_cases hro : ((r9.v.out.length : Nat) : Int) < 65000
     · have e1 : decide (((r9.v.out.length : Nat) : Int) < 65000) = true := decide_eq_true hro
       have ho : r10.v.out = r9.v.out ++ [111,107] := by
        rw [HO10.out,List.take_of_length_le (by show 2 ≤ 65536 - r9.v.out.length; omega)]
       rw [ho] at m14
       have HSX := h_ (suffix_ok w14 r9.v.out (by omega))
       clear ho HO10 hro
       go_wp2_with fail
       refine HSX.out.mono ?_
       rintro e w15 ⟨rfl,rfl⟩
       go_wp2_with fail
       go_ret
       exact ⟨rfl,KC.out⟩
     · have e1 : decide (((r9.v.out.length : Nat) : Int) < 65000) = false := decide_eq_false hro
       clear HO10 hro
       go_wp2_with fail
       go_ret
       exact ⟨rfl,KC.out⟩
end Go.Proofs.Shed
