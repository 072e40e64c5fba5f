/- IfaceKeeps: of any rows of numbers, not too long, it returns true. Conditions: the rows lie in the world, and are no longer than so many. -/
import Derived.Test.YthhfkhhhclmimaaWIface
import Derived.Test.YthhfkhhhclmimaaWLiv
import Derived.Test.YthhfkhhhclmimaaPC
set_option linter.unusedVariables false
set_option linter.unusedSimpArgs false
set_option maxRecDepth 10000
set_option maxHeartbeats 2000000
namespace Go.Proofs.Shed
open Go Go.RowKit Go.Proofs.K

theorem ArgI.get {w : World} {g o : Nat} {L : List Int} (h : ArgI w (some ⟨g, o, none⟩) L) {i : Nat} (hi : i < L.length) : w.cell? ⟨g, o + i, none⟩ = some (.int .i64 L[i]) := by
  obtain ⟨g', o', e, hc⟩ := h i hi
  cases e
  exact hc

theorem eq_nil (w : World) (a b : Option Addr) (ca cb : Nat) : Calls Try.prog 34 #[.slice a 0 ca, .slice b 0 cb] w fun e w' => e = .returned (.bool true) ∧ Keeps (fun _ => False) w w' := by
  go_enter Try.func34, Try.ntmps34
  go_wp2_with fail
  go_loopw [13] (fun i wr => i = .int .i64 0 ∧ Keeps (fun _ => False) w wr) (fun _ _ => 0)
  case atStart => exact ⟨rfl, Keeps.refl _ _⟩
  case round =>
    obtain ⟨rfl, hk⟩ := hrel
    go_wp2_with fail
    go_ret
    exact ⟨rfl, hk⟩
/-- Two rows that are alike. -/
theorem eq_same (w : World) (g o g' o' ca cb : Nat) (L : List Int) (hl : L.length ≤ 1000000) (hA : ArgI w (some ⟨g, o, none⟩) L) (hB : ArgI w (some ⟨g', o', none⟩) L) :
    Calls Try.prog 34 #[.slice (some ⟨g, o, none⟩) L.length ca, .slice (some ⟨g', o', none⟩) L.length cb] w fun e w' => e = .returned (.bool true) ∧ Keeps (fun _ => False) w w' := by
  have HA := Lib.hid hA
  have HB := Lib.hid hB
  clear hA hB
  go_enter Try.func34, Try.ntmps34
  go_wp2_with fail
  go_loopw [13] (fun iv wr => ∃ i : Nat, iv = .int .i64 i ∧ i ≤ L.length ∧ Keeps (fun _ => False) w wr) (fun iv _ => L.length - (intOf iv).toNat)
  case atStart => exact ⟨0, rfl, by omega, Keeps.refl _ _⟩
  case round =>
    obtain ⟨i, rfl, hi, hk⟩ := hrel
    by_cases hlt : i < L.length
    · have c0 := hk.cell (HA.out.get hlt) id
      have c1 := hk.cell (HB.out.get hlt) id
      generalize L[i] = v at c0 c1
      have hi0 : (0 : Int) ≤ (i : Int) := by omega
      have HK := Lib.hid hk
      clear hk
      go_wp2_with fail
      go_quiet (fail)
      go_wp2_with fail
      go_roundw
      case rel => exact ⟨i + 1, by go_num, by omega, HK.out.trans (Keeps.drewN _ _ _)⟩
      case measure => simp [intOf]; omega
    · go_wp2_with fail
      go_ret
      exact ⟨rfl, hk⟩
theorem eq_rows (w : World) (a b : Option Addr) (ca cb : Nat) (L : List Int) (hl : L.length ≤ 1000000) (hA : ArgI w a L) (hB : ArgI w b L) :
    Calls Try.prog 34 #[.slice a L.length ca, .slice b L.length cb] w fun e w' => e = .returned (.bool true) ∧ Keeps (fun _ => False) w w' := by
  cases L with
  | nil => exact eq_nil w a b ca cb
  | cons v L =>
    obtain ⟨g, o, rfl, _⟩ := hA 0 (by simp)
    obtain ⟨g', o', rfl, _⟩ := hB 0 (by simp)
    exact eq_same w g o g' o' ca cb (v :: L) hl hA hB
end Go.Proofs.Shed

set_option maxRecDepth 10000
set_option maxHeartbeats 8000000
namespace Go.Proofs.Shed
open Go Go.RowKit Go.Proofs.K

/-- A row that came in. -/
structure Row where
  a : Option Addr
  c : Nat
  l : List Int
def Row.val (r : Row) : Value := .slice r.a r.l.length r.c
def ArgR (w : World) (a : Option Addr) (R : List Row) : Prop :=
  ∀ i (h : i < R.length), ∃ g o, a = some ⟨g, o, none⟩ ∧ w.cell? ⟨g, o + i, none⟩ = some R[i].val ∧ ArgI w R[i].a R[i].l ∧ R[i].l.length ≤ R[i].c ∧ ∀ n ∈ R[i].l, In64 n
theorem ArgI.keeps0 {w w' : World} {a : Option Addr} {L : List Int} (h : ArgI w a L) (k : Keeps (fun _ => False) w w') : ArgI w' a L := h.keeps k (fun _ _ => id)
theorem ArgI.lt {w : World} {a : Option Addr} {L : List Int} (h : ArgI w a L) (hl : 0 < L.length) : ∀ g, blk a = some g → g < w.heap.size := by
  obtain ⟨g, o, rfl, hc⟩ := h 0 hl
  intro g' e
  have e' : g = g' := Option.some.inj e
  subst e'
  exact World.block_lt_of_cell? _ _ hc
def sum (R : List Row) : Nat := (R.map fun r => 1 + r.l.length).sum
theorem sum_take (R : List Row) (i : Nat) (h : i < R.length) : sum (R.take (i + 1)) = sum (R.take i) + (1 + R[i].l.length) := by
  unfold sum
  rw [List.take_succ_eq_append_getElem h, List.map_append, List.sum_append]
  simp
theorem sum_cons (r : Row) (R : List Row) : sum (r :: R) = 1 + r.l.length + sum R := by simp [sum]
theorem sum_bd (R : List Row) (hR : ∀ r ∈ R, r.l.length ≤ 1048576) : sum R ≤ 1048577 * R.length := by
  induction R with
  | nil => simp [sum]
  | cons r R ih =>
    have h1 := ih (fun r hr => hR r (by simp [hr]))
    have h2 := hR r (by simp)
    rw [sum_cons, List.length_cons, Nat.mul_add]
    omega
theorem sum_le (R : List Row) (i : Nat) (h : i < R.length) : 1 + R[i].l.length ≤ sum R := by
  induction R generalizing i with
  | nil => cases h
  | cons r R ih =>
    rw [sum_cons]
    cases i with
    | zero => simp only [List.getElem_cons_zero]; omega
    | succ i =>
      have := ih i (by simpa using h)
      simp only [List.getElem_cons_succ]
      omega

theorem infoRow : (Try.prog.info? 46).map (fun i => (i.zero, i.size, i.bytes)) = some (some (.slice none 0 0), 1, 24) := by kernel_rfl
/-- What is told to stand there: places, and rows. -/
def Told (B : Nat) (w : World) (aT : Option Addr) (cT : Nat) (aK : Option Addr) (cK : Nat) (P : List (Int × Row)) : Prop :=
  Own w 2 1 aT P.length cT (P.map fun p => .int .i64 p.1) ∧ Own w 46 1 aK P.length cK (P.map fun p => p.2.val) ∧ (∀ g, blk aT = some g → B ≤ g) ∧ (∀ g, blk aK = some g → B ≤ g) ∧ (∀ g, blk aT = some g → blk aK ≠ some g)

theorem Told.nil (B : Nat) (w : World) : Told B w none 0 none 0 [] := ⟨Own.nil _ _ _, Own.nil _ _ _, fun g hg => (by cases hg), fun g hg => (by cases hg), fun g hg => (by cases hg)⟩
theorem Told.keeps {B : Nat} {w w' : World} {aT aK : Option Addr} {cT cK : Nat} {P : List (Int × Row)} (h : Told B w aT cT aK cK P) {S : Nat → Prop} (k : Keeps S w w') (hs : ∀ g, B ≤ g → ¬ S g) : Told B w' aT cT aK cK P :=
  ⟨h.1.keeps k (fun g hg => hs g (h.2.2.1 g hg)), h.2.1.keeps k (fun g hg => hs g (h.2.2.2.1 g hg)), h.2.2⟩
theorem keeps_law (w : World) (a : Option Addr) (c : Nat) (R : List Row) (room : Nat) (hr : room < 65536) (hA : ArgR w a R) (hn : R.length ≤ 1048576) (hR : ∀ r ∈ R, r.l.length ≤ 1048576) :
    Calls Try.prog 6 #[.slice a R.length c, .int .u16 room] w fun e w' => e = .returned (.bool true) ∧ Keeps (fun _ => False) w w' := by
  have HA := Lib.hid hA
  have HR := Lib.hid hR
  clear hA hR
  go_enter Try.func6, Try.ntmps6
  go_wp2_with fail
  go_loopw [5, 7, 37] (fun nv _ iv wr => ∃ i : Nat, iv = .int .i64 i ∧ i ≤ R.length ∧ nv = .int .i64 (sum (R.take i)) ∧ Keeps (fun _ => False) w wr) (fun _ _ iv _ => R.length - (intOf iv).toNat)
  case atStart => exact ⟨0, rfl, by omega, rfl, Keeps.refl _ _⟩
  case round =>
    obtain ⟨i, rfl, hi, rfl, hk⟩ := hrel
    have HK := Lib.hid hk
    clear hk
    by_cases hlt : i < R.length
    · obtain ⟨g, o, rfl, hc, _, _, _⟩ := HA.out i hlt
      have c0 := HK.out.cell hc id
      have hst := sum_take R i hlt
      have hb := sum_bd (R.take (i + 1)) (fun r hr => HR.out r (List.mem_of_mem_take hr))
      rw [List.length_take] at hb
      have hb2 : sum (R.take (i + 1)) ≤ 1100000000000 := by omega
      rw [hst] at hb2
      have HST := Lib.hid hst
      unfold Row.val at c0
      clear hst hb hc
      generalize R[i] = r at c0 hb2 HST
      obtain ⟨ra, rc, rl⟩ := r
      simp only at c0 hb2
      generalize sum (R.take i) = n at HST hb2 ⊢
      have hi0 : (0 : Int) ≤ (i : Int) := by omega
      go_wp2_with fail
      go_roundw
      case rel => exact ⟨i + 1, by go_num, by omega, by rw [HST.out]; go_num, HK.out⟩
      case measure => simp [intOf]; omega
    · have hge : i = R.length := by omega
      subst hge
      rw [List.take_length]
      have HL := Lib.hid (lives12 wr)
      by_cases hs : 1000 < sum R
      · generalize sum R = n at hs ⊢
        go_wp2_with fail
        refine HL.out.mono ?_
        rintro e w1 ⟨rfl, k1⟩
        have HL2 := Lib.hid (lives12 w1)
        have K1 := Lib.hid (HK.out.trans k1)
        clear k1
        go_wp2_with fail
        refine HL2.out.mono ?_
        rintro e w2 ⟨rfl, k2⟩
        have K2 := Lib.hid (K1.out.trans k2)
        clear k2
        go_wp2_with fail
        go_ret
        exact ⟨rfl, K2.out⟩
      · have hs' := sum_le R
        have HS := Lib.hid (show ∀ i (h : i < R.length), 1 + R[i].l.length ≤ 1000 from fun i h => by have := hs' i h; omega)
        clear hs'
        generalize sum R = n at hs ⊢
        have hs2 : n ≤ 1000 := by omega
        go_wp2_with fail
        refine HL.out.mono ?_
        rintro e w1 ⟨rfl, k1⟩
        have K1 := Lib.hid (HK.out.trans k1)
        clear k1
        go_wp2_with fail
        have z0 : 0 ≤ (room : Int) % 4096 / 8 * 8 := by omega
        have z1 : (room : Int) % 4096 / 8 * 8 ≤ 4096 := by omega
        have z8 : ((room : Int) % 4096 / 8 * 8) % 8 = 0 := by omega
        generalize (room : Int) % 4096 / 8 * 8 = size at z0 z1 z8 ⊢
        refine (mem_new w1 size).mono ?_
        intro e w2 hp
        unfold NewPost Mem.newCode at hp
        rw [if_pos (show 0 ≤ size ∧ size ≤ 1048576 ∧ size % 8 = 0 from ⟨by omega, by omega, z8⟩), if_pos rfl] at hp
        obtain ⟨b, bb, rfl, m2, b2, bb2, k2⟩ := hp
        have hz : ((Mem.zero size.toNat).size : Int) = size := by show ((size.toNat : Nat) : Int) = size; omega
        have HSP := Lib.hid (sp_new w2 b bb (Mem.zero size.toNat) 0 size m2)
        have HZ := Lib.hid hz
        have K2 := Lib.hid (K1.out.trans k2)
        have hw1 := K1.out.size
        have hw2 := K2.out.size
        have bl := m2.lt
        clear k2 m2 hz
        go_wp2_with fail
        refine HSP.out.mono ?_
        intro e w3 hp
        unfold SpNewPost Sp.newCode at hp
        rw [if_neg (show ¬ ((0 : Int) < 0 ∨ size < 0 ∨ ((Mem.zero size.toNat).size : Int) < size) by rw [HZ.out]; omega), if_pos rfl] at hp
        obtain ⟨s, rfl, s3, ls, k3⟩ := hp
        have K3 := Lib.hid (K2.out.trans k3)
        have lt3 := s3.lts
        have HW : Iface.Whole ⟨Mem.zero size.toNat, 0, size, 0⟩ size := ⟨⟨⟨by show (0 : Int) ≤ 0; omega, by show (0 : Int) ≤ 0; omega, by show (0 : Int) ≤ size; omega, by show size ≤ ((Mem.zero size.toNat).size : Int); rw [HZ.out]; omega⟩, by show (0 : Int) % 8 = 0; rfl⟩, rfl, rfl, HZ.out⟩
        have S3 := Lib.hid s3
        have W3 := Lib.hid HW
        clear k3 s3 HW
        go_wp2_with fail
        go_loopw [13, 14, 74] (fun tv kv iv wq => ∃ (i : Nat) (x : Sp) (P : List (Int × Row)) (aT aK : Option Addr) (cT cK : Nat), tv = .slice aT P.length cT ∧ kv = .slice aK P.length cK ∧ iv = .int .i64 i ∧ i ≤ R.length ∧ P.length ≤ i ∧
            RSp wq s b bb x ∧ Iface.Whole x size ∧ Told w3.heap.size wq aT cT aK cK P ∧ (∀ p ∈ P, Iface.Stood x (p.1, p.2.l) ∧ ∃ j, ∃ h : j < R.length, p.2 = R[j]) ∧ Keeps (fun _ => False) w wq ∧ w3.heap.size ≤ wq.heap.size) (fun _ _ iv _ => R.length - (intOf iv).toNat)
        case atStart => exact ⟨0, _, [], none, none, 0, 0, rfl, rfl, rfl, by omega, by simp, S3.out, W3.out, Told.nil _ _, fun p hp => (by cases hp), K3.out, Nat.le_refl _⟩
        case round =>
          obtain ⟨i, x, P, aT, aK, cT, cK, rfl, rfl, rfl, hi, hpi, hx, hwx, ht, hst, hk, hle⟩ := hrel
          have HX := Lib.hid hx
          have HWX := Lib.hid hwx
          have HT := Lib.hid ht
          have HST := Lib.hid hst
          have HKq := Lib.hid hk
          clear hx hwx ht hst hk
          by_cases hlt : i < R.length
          · obtain ⟨g, o, rfl, hc, ha, hac, h64⟩ := HA.out i hlt
            have c0 := HKq.out.cell hc id
            have hlen := HS.out i hlt
            have harg := ha.keeps0 HKq.out
            have halt := fun h0 => ha.lt h0
            have HJ := Lib.hid (show ∃ j, ∃ h : j < R.length, R[i] = R[j] from ⟨i, hlt, rfl⟩)
            unfold Row.val at c0
            clear hc ha
            generalize R[i] = r at c0 hlen harg halt h64 HJ hac
            have hl1 : r.l.length ≤ 1024 := by omega
            have hN := Lib.hid (iface_new wr s b bb x r.a r.c r.l HX.out harg hl1 (fun h0 g' e => by have := halt h0 g' e; omega))
            have hi0 : (0 : Int) ≤ (i : Int) := by omega
            clear harg halt
            by_cases hf : x.here + 8 * (r.l.length + 1) ≤ size
            · obtain ⟨y, hy, hwy, hsy, hpy⟩ := HWX.out.fits r.l hl1 h64 hf
              rw [hy] at hN
              go_wp2_with fail
              refine (sp_here _ _ _ _ _ HX.out).mono ?_
              rintro e w4 ⟨rfl, rfl⟩
              go_wp2_with fail
              refine hN.out.mono ?_
              rintro e w5 ⟨rfl, s5, k5⟩
              have S5 := Lib.hid s5
              have hw5 := k5.size
              have T5 := Lib.hid (HT.out.keeps k5 (fun g hg => by omega))
              have K5 := Lib.hid (HKq.out.trans' k5 (fun j hj e => by omega))
              have PST := Lib.hid (show ∀ p ∈ P ++ [(x.here, r)], Iface.Stood y (p.1, p.2.l) ∧ ∃ j, ∃ h : j < R.length, p.2 = R[j] from fun p hp => by
                rcases List.mem_append.1 hp with hp | hp
                · exact ⟨hpy _ (HST.out p hp).1, (HST.out p hp).2⟩
                · rw [List.mem_singleton] at hp
                  subst hp
                  exact ⟨hsy, HJ.out⟩)
              have WY := Lib.hid hwy
              have hxo := HWX.out.1.ok
              have hxt := HWX.out.2.2
              unfold Sp.Ok at hxo
              clear s5 k5 hpy hsy hwy hy hN
              go_wp2_with (first
                | (at_builtin; refine wpList_app rfl _ _ 46 rfl 2 _ 1 8 Try.underlying46 infoInt rfl (by decide) aT P.length cT (P.map fun p => .int .i64 p.1) rfl ?t1 ⟨w5.heap.size, 0, none⟩ 1 1 [.int .i64 x.here] rfl rfl (int_news w5 x.here) (int_one x.here) ?t3 ?t4 ?_))
              case t1 => exact T5.out.1.keeps (Keeps.alloc (fun _ => False) w5 _) (fun _ _ => id)
              case t3 => unfold maxLen; omega
              case t4 => omega
              intro a6 c6 w6 o6 k6 l6
              have ka := Keeps.alloc (fun _ => False) w5 (.cells #[.int .i64 x.here] 2)
              have lT := fun g e => Own.lt T5.out.1 (g := g) e
              have lK := fun g e => Own.lt T5.out.2.1 (g := g) e
              have O6 := Lib.hid o6
              have L6 := Lib.hid l6
              have HS6 := Lib.hid k6.size
              have K6 := Lib.hid ((K5.out.trans ka).trans' k6 (fun j hj e => by have := T5.out.2.2.1 j e; omega))
              have T6 := Lib.hid ((T5.out.2.1.keeps ka (fun _ _ => id)).keeps k6 (fun g hg e => T5.out.2.2.2.2 g e hg))
              have S6 := Lib.hid ((S5.out.keeps ka id id id).keeps k6 (fun e => by have := T5.out.2.2.1 s e; omega) (fun e => by have := T5.out.2.2.1 b e; omega) (fun e => by have := T5.out.2.2.1 bb e; omega))
              clear o6 k6 l6
              go_wp2_with (first
                | (at_builtin; refine wpList_app rfl _ _ 63 rfl 46 _ 1 24 Try.underlying63 infoRow rfl (by decide) aK P.length cK (P.map fun p => p.2.val) rfl ?u1 ⟨w6.heap.size, 0, none⟩ 1 1 [.slice r.a r.l.length r.c] rfl rfl ?u2 ?u5 ?u3 ?u4 ?_))
              case u1 => exact T6.out.keeps (Keeps.alloc (fun _ => False) w6 _) (fun _ _ => id)
              case u2 =>
                intro j u hu
                rw [Addr.add_lit, Nat.zero_add]
                refine cell_of (halloc_at _ _) ?_
                simpa using hu
              case u5 =>
                intro u hu
                simp at hu
                subst hu
                rfl
              case u3 => unfold maxLen; omega
              case u4 => omega
              intro a7 c7 w7 o7 k7 l7
              have kb := Keeps.alloc (fun _ => False) w6 (.cells #[.slice r.a r.l.length r.c] 46)
              have hw0 := HKq.out.size
              have hs7 := k7.size
              have hs6 := HS6.out
              rw [World.size_alloc] at hs6 hs7
              have n6 : ∀ g, blk a6 = some g → w3.heap.size ≤ g ∧ blk aK ≠ some g ∧ g < w6.heap.size := by
                intro g' e
                have hlt6 := Own.lt O6.out (g := g') e
                rcases L6.out with e' | e'
                · exact ⟨T5.out.2.2.1 g' (e' ▸ e), T5.out.2.2.2.2 g' (e' ▸ e), hlt6⟩
                · rw [e'] at e
                  have e2 : w5.heap.size + 1 = g' := Option.some.inj e
                  exact ⟨by omega, fun e3 => by have := lK g' e3; omega, hlt6⟩
              have n7 : ∀ g, blk a7 = some g → w3.heap.size ≤ g ∧ blk a6 ≠ some g := by
                intro g' e
                rcases l7 with e' | e'
                · rw [e'] at e
                  exact ⟨T5.out.2.2.2.1 g' e, fun e3 => (n6 g' e3).2.1 e⟩
                · rw [e'] at e
                  have e2 : w6.heap.size + 1 = g' := Option.some.inj e
                  exact ⟨by omega, fun e3 => by have := (n6 g' e3).2.2; omega⟩
              have T7 : Hid (Told w3.heap.size w7 a6 c6 a7 c7 (P ++ [(x.here, r)])) := by
                refine ⟨?_, ?_, fun g' e => (n6 g' e).1, fun g' e => (n7 g' e).1, fun g' e e2 => (n7 g' e2).2 e⟩
                · rw [List.length_append, List.map_append]
                  exact (Own.keeps O6.out kb (fun _ _ => id)).keeps k7 (fun g' e e2 => (n6 g' e).2.1 e2)
                · rw [List.length_append, List.map_append]
                  exact o7
              have K7 := Lib.hid ((K6.out.trans kb).trans' k7 (fun j hj e => by have := T5.out.2.2.2.1 j e; omega))
              have S7 := Lib.hid ((S6.out.keeps kb id id id).keeps k7 (fun e => by have := T5.out.2.2.2.1 s e; omega) (fun e => by have := T5.out.2.2.2.1 b e; omega) (fun e => by have := T5.out.2.2.2.1 bb e; omega))
              clear o7 k7 l7 kb n6 n7 lT lK ka
              go_wp2_with fail
              go_roundw
              case rel => exact ⟨i + 1, y, P ++ [(x.here, r)], a6, a7, c6, c7, by rw [List.length_append]; rfl, by rw [List.length_append]; rfl, by go_num, by omega, by rw [List.length_append, List.length_singleton]; omega, S7.out, WY.out, T7.out, PST.out, K7.out, by omega⟩
              case measure => simp [intOf]; omega
            · obtain ⟨y, hy, hwy, hyh, hpy⟩ := HWX.out.over r.l hl1 hf
              rw [hy] at hN
              have hxo := HWX.out.1.ok
              have hxt := HWX.out.2.2
              unfold Sp.Ok at hxo
              have hf' : size < x.here + 8 * (r.l.length + 1) := by omega
              go_wp2_with fail
              refine (sp_here _ _ _ _ _ HX.out).mono ?_
              rintro e w4 ⟨rfl, rfl⟩
              go_wp2_with fail
              refine hN.out.mono ?_
              rintro e w5 ⟨rfl, s5, k5⟩
              have S5 := Lib.hid s5
              clear s5
              go_wp2_with fail
              refine (sp_here _ _ _ _ _ S5.out).mono ?_
              rintro e w6 ⟨rfl, rfl⟩
              rw [hyh]
              have hw5 := k5.size
              have T5 := Lib.hid (HT.out.keeps k5 (fun g hg => by omega))
              have K5 := Lib.hid (HKq.out.trans' k5 (fun j hj e => by omega))
              have WY := Lib.hid hwy
              clear k5
              go_wp2_with fail
              go_roundw
              case rel => exact ⟨i + 1, y, P, aT, aK, cT, cK, rfl, rfl, by go_num, by omega, by omega, S5.out, WY.out, T5.out, fun p hp => ⟨hpy _ (HST.out p hp).1, (HST.out p hp).2⟩, K5.out, by omega⟩
              case measure => simp [intOf]; omega
          · have hge : i = R.length := by omega
            subst hge
            have hxz := HX.out.mem
            have HM := Lib.hid hxz
            clear hxz
            go_wp2_with fail
            go_loopw [21, 22, 136] (fun _ _ iv wr' => ∃ k : Nat, iv = .int .i64 k ∧ k ≤ P.length ∧ Keeps (fun _ => False) wr wr') (fun _ _ iv _ => P.length - (intOf iv).toNat)
            case atStart => exact ⟨0, rfl, by omega, Keeps.refl _ _⟩
            case round =>
              obtain ⟨k, rfl, hkp, hk⟩ := hrel
              have HKK := Lib.hid (HKq.out.trans hk)
              have HM4 := Lib.hid (HM.out.keeps hk id id)
              have HT4 := Lib.hid (HT.out.keeps hk (fun _ _ => id))
              have HX4 := Lib.hid (HX.out.keeps hk id id id)
              have HK4 := Lib.hid hk
              clear hk
              by_cases hlt : k < P.length
              · obtain ⟨gT, eT, cT0⟩ : ∃ gT, aT = some ⟨gT, 0, none⟩ ∧ wr.cell? ⟨gT, k, none⟩ = some (.int .i64 P[k].1) := by
                  have ho := HT4.out.1
                  rcases Own.form ho with ⟨_, h0, _⟩ | ⟨g', cur, hx, _⟩
                  · omega
                  · refine ⟨g', hx, ?_⟩
                    rw [hx] at ho
                    refine Own.cell ho ?_
                    rw [List.getElem?_map, List.getElem?_eq_getElem hlt]
                    rfl
                obtain ⟨gK, eK, cK0⟩ : ∃ gK, aK = some ⟨gK, 0, none⟩ ∧ wr.cell? ⟨gK, k, none⟩ = some P[k].2.val := by
                  have ho := HT4.out.2.1
                  rcases Own.form ho with ⟨_, h0, _⟩ | ⟨g', cur, hx, _⟩
                  · omega
                  · refine ⟨g', hx, ?_⟩
                    rw [hx] at ho
                    refine Own.cell ho ?_
                    rw [List.getElem?_map, List.getElem?_eq_getElem hlt]
                    rfl
                subst eT
                subst eK
                obtain ⟨hst, j, hj, hpj⟩ := HST.out P[k] (List.getElem_mem hlt)
                obtain ⟨g5, o5, hae, hce, harg, hac, h64⟩ := HA.out j hj
                clear hae hce hac h64
                have hlen := HS.out j hj
                rw [← hpj] at harg hlen
                clear hpj
                generalize P[k] = p at cT0 cK0 hst harg hlen
                have hN := Lib.hid (iface_sels wr b bb x.mem p.1 HM4.out)
                rw [Iface.Stood.sels hst] at hN
                have hk0 : (0 : Int) ≤ (k : Int) := by omega
                unfold Row.val at cK0
                have HARG := Lib.hid harg
                clear hst harg
                go_wp2_with fail
                refine hN.out.mono ?_
                rintro e w4 ⟨a4, n4, c4, ok, rfl, k4, rfl, rfl, o4⟩
                have cK4 := k4.cell cK0 id
                have hE := Lib.hid (eq_rows w4 a4 p.2.a c4 p.2.c p.2.l (by omega) (fun i hi => o4.arg i hi) (HARG.out.keeps0 (HKK.out.trans k4)))
                have K4 := Lib.hid (HK4.out.trans k4)
                clear o4 k4
                go_wp2_with fail
                refine hE.out.mono ?_
                rintro e w5 ⟨rfl, k5⟩
                have K5 := Lib.hid (K4.out.trans k5)
                clear k5
                go_wp2_with fail
                go_roundw
                case rel => exact ⟨k + 1, by go_num, by omega, K5.out⟩
                case measure => simp [intOf]; omega
              · have hge : k = P.length := by omega
                subst hge
                have hxm := HWX.out.2.2.2
                have hs3 := Lib.hid (iface_sels wr b bb x.mem 3 HM4.out)
                rw [Iface.sels_bad x.mem 3 (by rw [Ne, Mem.at_zero]; omega)] at hs3
                have hsz := Lib.hid fun w (h : RMem w b bb x.mem) => iface_sels w b bb x.mem size h
                rw [Iface.sels_bad x.mem size (by rw [Ne, Mem.at_zero]; omega)] at hsz
                have hmi := Lib.hid fun w (h : RMem w b bb x.mem) => iface_missing w b bb x.mem 3 0 h (by omega) (by omega)
                have hm3 : Iface.missing x.mem 3 0 = (0, -256) := by
                  unfold Iface.missing
                  rw [Iface.sels_bad x.mem 3 (by rw [Ne, Mem.at_zero]; omega)]
                rw [hm3] at hmi
                clear hxm hm3
                go_wp2_with fail
                refine hs3.out.mono ?_
                rintro e w4 ⟨a4, n4, c4, ok, rfl, k4, rfl⟩
                have K4 := Lib.hid k4
                clear k4
                go_wp2_with fail
                refine (hsz.out w4 (HM4.out.keeps K4.out id id)).mono ?_
                rintro e w5 ⟨a5, n5, c5, ok, rfl, k5, rfl⟩
                have K5 := Lib.hid (K4.out.trans k5)
                clear k5
                go_wp2_with fail
                refine (iface_new_nil w5 none 0 0).mono ?_
                rintro e w6 ⟨rfl, rfl⟩
                obtain ⟨i0, hi, hz0, hz1, hz2⟩ := info_parts infoInt
                have hm := fun w => run_make (P := Try.prog) w 46 2 i0 (.int .i64 0) Try.underlying46 hi hz0 .i64 .i64 1025 1025 (by omega) (by omega) (by rw [hz2]; omega) (by omega)
                rw [hz1] at hm
                generalize hv : madeCells (Value.int .i64 0).cells (Int.toNat 1025 * 1) = V at hm
                have h1025 : Int.toNat 1025 = 1025 := rfl
                rw [h1025] at hm
                clear hv h1025
                have KV := Keeps.alloc (fun _ => False) w5 (.cells V 2)
                have hL := Lib.hid (iface_new_long (w5.alloc (.cells V 2)) s (some ⟨w5.heap.size, 0, none⟩) 1025 1025 (by omega))
                have K6 := Lib.hid (K5.out.trans KV)
                clear KV
                go_wp2_with fail
                refine hL.out.mono ?_
                rintro e w6 ⟨rfl, rfl⟩
                go_wp2_with fail
                refine (hmi.out _ (HM4.out.keeps K6.out id id)).mono ?_
                rintro e w7 ⟨rfl, k7⟩
                have K7 := Lib.hid (K6.out.trans k7)
                clear k7
                go_wp2_with fail
                go_ret
                exact ⟨rfl, HKK.out.trans K7.out⟩
end Go.Proofs.Shed
