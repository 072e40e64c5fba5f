/- Layer 5: all blocks of a heap. Conditions: the heap lies in three blocks. -/
import Derived.Test.YthhfkhhhclmimaaWHeap
set_option linter.unusedVariables false
set_option linter.unusedSimpArgs false
set_option maxRecDepth 10000
set_option maxHeartbeats 8000000
namespace Go.Proofs.Shed
open Go Go.RowKit Go.Proofs.K

namespace Heap
theorem blocksN_enough (m : Mem) (hi : Int) (k : Nat) (a : Int) (h : hi - a ≤ k) (j : Nat) (hj : hi - a ≤ j) : blocksN m hi j a = blocksN m hi k a := by
  induction k generalizing a j with
  | zero =>
    cases j with
    | zero => rfl
    | succ j => rw [blocksN, blocksN, if_neg (by omega)]
  | succ k ih =>
    cases j with
    | zero => rw [blocksN, blocksN, if_neg (by omega)]
    | succ j =>
      rw [blocksN, blocksN]
      by_cases h1 : a < hi
      · rw [if_pos h1, if_pos h1]
        by_cases h2 : (m.cell a).2 ≠ 0 ∨ (blk a (m.cell a).1).size < 16 ∨ (blk a (m.cell a).1).size % 8 ≠ 0 ∨ hi - a < (blk a (m.cell a).1).size
        · rw [if_pos h2, if_pos h2]
        · rw [if_neg h2, if_neg h2, ih _ (by omega) j (by omega)]
      · rw [if_neg h1, if_neg h1]
/-- All blocks from a place on. -/
def from_ (m : Mem) (hi a : Int) : Option (List Blk) := blocksN m hi (hi - a).toNat a
theorem from_end (m : Mem) (hi a : Int) (h : ¬ a < hi) : from_ m hi a = some [] := by
  unfold from_
  rw [show (hi - a).toNat = 0 by omega]
  rfl
theorem from_step (m : Mem) (hi a : Int) (h : a < hi) : from_ m hi a = if (m.cell a).2 ≠ 0 ∨ (blk a (m.cell a).1).size < 16 ∨ (blk a (m.cell a).1).size % 8 ≠ 0 ∨ hi - a < (blk a (m.cell a).1).size then none
       else (from_ m hi (a + (blk a (m.cell a).1).size)).map (blk a (m.cell a).1 :: ·) := by
  unfold from_
  obtain ⟨k, hk⟩ : ∃ k, (hi - a).toNat = k + 1 := ⟨(hi - a).toNat - 1, by omega⟩
  rw [hk, blocksN, if_pos h]
  by_cases h2 : (m.cell a).2 ≠ 0 ∨ (blk a (m.cell a).1).size < 16 ∨ (blk a (m.cell a).1).size % 8 ≠ 0 ∨ hi - a < (blk a (m.cell a).1).size
  · rw [if_pos h2, if_pos h2]
  · rw [if_neg h2, if_neg h2, blocksN_enough m hi (hi - (a + (blk a (m.cell a).1).size)).toNat _ (by omega) k (by omega)]
end Heap

theorem infoBlk : (Try.prog.info? 135).map (fun i => (i.zero, i.size, i.bytes)) = some (some (.agg #[.int .i64 0, .int .i64 0, .bool false]), 3, 24) := by kernel_rfl
/-- A slice of blocks, of the call's own. -/
def OwnB (B : Nat) (w : World) (a : Option Addr) (c : Nat) (L : List Blk) : Prop := Own w 135 3 a L.length c (blkV L) ∧ ∀ g, blk a = some g → B ≤ g
theorem OwnB.keeps {B : Nat} {w w' : World} {a : Option Addr} {c : Nat} {L : List Blk} (h : OwnB B w a c L) {S : Nat → Prop} (k : Keeps S w w') (hs : ∀ g, blk a = some g → ¬ S g) : OwnB B w' a c L := ⟨h.1.keeps k hs, h.2⟩
theorem OwnB.more {B : Nat} {w w' : World} {a a' : Option Addr} {c c' : Nat} {L : List Blk} (h : OwnB B w a c L) (x : Blk) (o : Own w' 135 3 a' (L.length + 1) c' (blkV L ++ x.cells)) (k : Nat) (l : blk a' = blk a ∨ blk a' = some k) (hk : B ≤ k) : OwnB B w' a' c' (L ++ [x]) := by
  refine ⟨?_, ?_⟩
  · rw [blkV_app, List.length_append]
    have : blkV [x] = x.cells := by simp [blkV]
    rw [this]
    exact o
  · intro g hg
    rcases l with e | e <;> rw [e] at hg
    · exact h.2 g hg
    · cases hg; exact hk
def BlkPost (r : Option (List Blk)) (w : World) (e : Ending) (w' : World) : Prop :=
  match r with
  | none => e = .returned (.tuple #[.slice none 0 0, .int .i64 (-2052)]) ∧ Keeps (fun _ => False) w w'
  | some L => ∃ a c, e = .returned (.tuple #[.slice a L.length c, .int .i64 0]) ∧ OwnB w.heap.size w' a c L ∧ Keeps (fun _ => False) w w'

theorem blk_news (w : World) (x : Blk) : ∀ j u, x.cells[j]? = some u → (w.alloc (.cells #[.int .i64 x.at_, .int .i64 x.size, .bool x.used] 135)).cell? ((⟨w.heap.size, 0, none⟩ : Addr).add j) = some u := by
  intro j u hu
  rw [Addr.add_lit, Nat.zero_add]
  refine cell_of (halloc_at _ _) ?_
  simpa [Blk.cells] using hu
theorem blk_one (x : Blk) : ∀ u ∈ x.cells, u.oneCell' = true := by
  intro u hu
  simp [Blk.cells] at hu
  rcases hu with rfl | rfl | rfl <;> rfl


theorem heap_blocks (w : World) (h b bb : Nat) (m : Mem) (lo hi : Int) (H0 : RHp w h b bb m lo hi) :
    Calls Try.prog 74 #[.pointer (some ⟨h, 0, none⟩)] w (BlkPost (Heap.blocks m lo hi) w) := by
  have H := Lib.hid H0
  have c1 := H0.c1
  have b0 := H0.lo0
  have b1 := H0.lt
  have b2 := H0.top
  have b3 := H0.mem.le
  clear H0
  have HD : Hid (Heap.blocks m lo hi = Heap.from_ m hi lo) := rfl
  generalize Heap.blocks m lo hi = r at HD ⊢
  go_enter Try.func74, Try.ntmps74
  go_wp2_with fail
  go_loopw [4, 5] (fun ov iv wr => ∃ (P : List Blk) (a : Option Addr) (c : Nat) (i : Int), ov = .slice a P.length c ∧ iv = .int .i64 i ∧ lo ≤ i ∧ i ≤ hi ∧ 16 * P.length ≤ i - lo ∧ OwnB w.heap.size wr a c P ∧ Keeps (fun _ => False) w wr ∧ (Heap.from_ m hi i).map (P ++ ·) = r)
    (fun _ iv _ => (hi - intOf iv).toNat)
  case atStart => exact ⟨[], none, 0, lo, rfl, rfl, by omega, by omega, by simp, ⟨Own.nil _ _ _, fun g hg => (by cases hg)⟩, Keeps.refl _ _, by rw [HD.out]; simp⟩
  case round =>
    obtain ⟨P, a, c, i, rfl, rfl, i0, i1, i2, ho, hk, hf⟩ := hrel
    have HO := Lib.hid ho
    have HK := Lib.hid hk
    have HR := Lib.hid (H.out.keeps hk id id id)
    have c0' := HR.out.c0
    have c2' := HR.out.c2
    clear ho hk
    by_cases hlt : i < hi
    · rw [Heap.from_step m hi i hlt] at hf
      have hc := Lib.hid (mem_cell wr b bb m i HR.out.mem)
      have hcb := m.cell_bd i
      generalize m.cell i = q at hc hcb hf
      obtain ⟨n, e⟩ := q
      simp only at hc hcb hf
      obtain ⟨n0, n1⟩ := hcb
      have e1 := andNot_1 n n0 n1
      have e2 := and_1 n
      have hz : n - n % 2 ≤ 9223372036854775807 ∧ -9223372036854775808 ≤ n - n % 2 := by omega
      have hbk : Heap.blk i n = ⟨i, n - n % 2, decide (n % 2 = 1)⟩ := rfl
      rw [hbk] at hf
      have hu : decide (n % 2 = 1) = (n % 2 == 1) := rfl
      rw [hu] at hf
      clear hbk hu
      generalize n - n % 2 = z at e1 hf hz
      generalize (n % 2) = v at e2 hf
      generalize hv : (v == 1) = u at hf
      have KA := Lib.hid (HK.out.trans (Keeps.alloc (fun _ => False) wr (.cells #[.int .i64 i, .int .i64 z, .bool u] 135)))
      have D0 := cell_of (i := 0) (halloc_at wr (.cells #[.int .i64 i, .int .i64 z, .bool u] 135)) rfl
      have D1 := cell_of (i := 1) (halloc_at wr (.cells #[.int .i64 i, .int .i64 z, .bool u] 135)) rfl
      have D2 := cell_of (i := 2) (halloc_at wr (.cells #[.int .i64 i, .int .i64 z, .bool u] 135)) rfl
      have HA := Lib.hid (HR.out.keeps (Keeps.alloc (fun _ => False) wr (.cells #[.int .i64 i, .int .i64 z, .bool u] 135)) id id id)
      have C2 := HA.out.c2
      have OA := Lib.hid (HO.out.keeps (Keeps.alloc (fun _ => False) wr (.cells #[.int .i64 i, .int .i64 z, .bool u] 135)) (fun _ _ => id))
      dsimp only at hf
      have HF := Lib.hid hf
      clear hf
      by_cases he : e = 0
      · subst he
        by_cases h16 : z < 16
        · have d1 : decide (z < 16) = true := decide_eq_true h16
          have hr := HF.out
          rw [if_pos (by omega)] at hr
          have HR' := Lib.hid (show r = none from hr.symm)
          clear hr
          go_wp2_with fail
          refine hc.out.mono ?_
          rintro e w1 ⟨rfl, rfl⟩
          go_wp2_with fail
          generalize wr.alloc (.cells #[.int .i64 i, .int .i64 z, .bool u] 135) = W1 at KA D0 D1 D2 C2 HA OA ⊢
          go_quiet (fail)
          go_wp2_with fail
          go_ret2
          rw [HR'.out]
          exact ⟨rfl, KA.out.trans (Keeps.drewN _ _ _)⟩
        · have d1 : decide (z < 16) = false := decide_eq_false h16
          have h16' : 0 ≤ z := by omega
          by_cases h8 : z % 8 = 0
          · have d2 : (z % 8 != 0) = false := by simp [h8]
            by_cases hh : hi - i < z
            · have d3 : decide (hi - i < z) = true := decide_eq_true hh
              have hr := HF.out
              rw [if_pos (by omega)] at hr
              have HR' := Lib.hid (show r = none from hr.symm)
              clear hr
              go_wp2_with fail
              refine hc.out.mono ?_
              rintro e w1 ⟨rfl, rfl⟩
              go_wp2_with fail
              generalize wr.alloc (.cells #[.int .i64 i, .int .i64 z, .bool u] 135) = W1 at KA D0 D1 D2 C2 HA OA ⊢
              go_quiet (fail)
              go_wp2_with fail
              go_ret2
              rw [HR'.out]
              exact ⟨rfl, KA.out.trans (Keeps.drewN _ _ _)⟩
            · have d3 : decide (hi - i < z) = false := decide_eq_false hh
              have hr := HF.out
              rw [if_neg (by omega)] at hr
              have HR' := Lib.hid hr
              clear hr
              go_wp2_with fail
              refine hc.out.mono ?_
              rintro e w1 ⟨rfl, rfl⟩
              go_wp2_with fail
              generalize hW1 : wr.alloc (.cells #[.int .i64 i, .int .i64 z, .bool u] 135) = W1 at KA D0 D1 D2 C2 HA OA ⊢
              have hs1 : W1.heap.size = wr.heap.size + 1 := by rw [← hW1, World.size_alloc]
              have hw0 : w.heap.size ≤ wr.heap.size := HK.out.size
              clear hW1
              go_quiet (fail)
              have KB := Lib.hid (KA.out.trans (Keeps.drewN _ W1 nq))
              have OB := Lib.hid (OA.out.keeps (Keeps.drewN (fun _ => False) W1 nq) (fun _ _ => id))
              have E0 : (W1.drewN nq).cell? ⟨wr.heap.size, 0, none⟩ = _ := D0
              have E1 : (W1.drewN nq).cell? ⟨wr.heap.size, 1, none⟩ = _ := D1
              have E2 : (W1.drewN nq).cell? ⟨wr.heap.size, 2, none⟩ = _ := D2
              have hs2 : (W1.drewN nq).heap.size = wr.heap.size + 1 := hs1
              generalize W1.drewN nq = W2 at KB OB E0 E1 E2 hs2 ⊢
              have HS2 := Lib.hid hs2
              clear hs2 hs1
              go_wp2_with (first
                | (at_builtin; refine wpList_app rfl _ _ 139 rfl 135 _ 3 24 Try.underlying139 infoBlk rfl (by decide) a P.length c (blkV P) rfl ?f1 ⟨W2.heap.size, 0, none⟩ 1 1 [.int .i64 i, .int .i64 z, .bool u] rfl rfl (blk_news W2 ⟨i, z, u⟩) (blk_one ⟨i, z, u⟩) ?f3 ?f4 ?_))
              case f1 => exact (OB.out.keeps (Keeps.alloc (fun _ => False) W2 _) (fun _ _ => id)).1
              case f3 => unfold maxLen; omega
              case f4 => omega
              intro a4 c4 w4 o4 k4 l4
              have ka := Keeps.alloc (fun _ => False) W2 (.cells #[.int .i64 i, .int .i64 z, .bool u] 135)
              have hww : w.heap.size ≤ W2.heap.size := by have := HS2.out; omega
              have E1' := k4.cell (ka.cell E1 id) (show ¬ blk a = some wr.heap.size from fun e => absurd (HO.out.1.lt e) (Nat.lt_irrefl _))
              have O4 := Lib.hid ((OB.out.keeps ka (fun _ _ => id)).more ⟨i, z, u⟩ o4 _ l4 (by omega))
              have K4 := Lib.hid ((KB.out.trans ka).trans' k4 (fun i hi e => absurd (OB.out.2 i e) (by omega)))
              clear ka o4 k4 l4
              go_wp2_with fail
              go_roundw
              case rel =>
                refine ⟨P ++ [⟨i, z, u⟩], a4, c4, i + z, by rw [List.length_append]; rfl, by go_num, by omega, by omega, by rw [List.length_append, List.length_singleton]; omega, O4.out, K4.out, ?_⟩
                rw [← HR'.out, Option.map_map]
                congr 1
                funext l
                simp
              case measure => simp [intOf]; omega
          · have d2 : (z % 8 != 0) = true := by simp [h8]
            have hr := HF.out
            rw [if_pos (by omega)] at hr
            have HR' := Lib.hid (show r = none from hr.symm)
            clear hr
            go_wp2_with fail
            refine hc.out.mono ?_
            rintro e w1 ⟨rfl, rfl⟩
            go_wp2_with fail
            generalize wr.alloc (.cells #[.int .i64 i, .int .i64 z, .bool u] 135) = W1 at KA D0 D1 D2 C2 HA OA ⊢
            go_quiet (fail)
            go_wp2_with fail
            go_ret2
            rw [HR'.out]
            exact ⟨rfl, KA.out.trans (Keeps.drewN _ _ _)⟩
      · have he' : (e != 0) = true := by simp [he]
        have hr := HF.out
        rw [if_pos (by omega)] at hr
        have HR' := Lib.hid (show r = none from hr.symm)
        clear hr
        go_wp2_with fail
        refine hc.out.mono ?_
        rintro e w1 ⟨rfl, rfl⟩
        go_wp2_with fail
        generalize wr.alloc (.cells #[.int .i64 i, .int .i64 z, .bool u] 135) = W1 at KA D0 D1 D2 C2 HA OA ⊢
        go_quiet (fail)
        go_wp2_with fail
        go_ret2
        rw [HR'.out]
        exact ⟨rfl, KA.out.trans (Keeps.drewN _ _ _)⟩
    · rw [Heap.from_end m hi i hlt] at hf
      have HF := Lib.hid hf
      clear hf
      go_wp2_with fail
      go_ret2
      rw [← HF.out]
      exact ⟨a, c, by simp, by simpa using HO.out, HK.out⟩
end Go.Proofs.Shed
