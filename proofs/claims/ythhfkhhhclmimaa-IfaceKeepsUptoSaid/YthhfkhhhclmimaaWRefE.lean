/- The document's functions for layer 11: New of no class. No condition. -/
import Derived.Test.YthhfkhhhclmimaaWRefD
set_option linter.unusedVariables false
set_option linter.unusedSimpArgs false
set_option maxRecDepth 10000
set_option maxHeartbeats 2000000
namespace Go.Proofs.Shed
open Go Go.RowKit Go.Proofs.K

theorem RefV.nil (N : Nat → Prop) (w : World) : RefV N w none 0 [] [] :=
  ⟨Own.nil _ _ _, fun g hg => (by cases hg), rfl, fun i h => absurd h (Nat.not_lt_zero _), fun i h => absurd h (Nat.not_lt_zero _)⟩

theorem ref_new_none (N : Nat → Prop) (w : World) (k sl : Int) (hN : ∀ g, w.heap.size ≤ g → N g) (hk0 : -1 ≤ k) (hk1 : k < 0) :
    Calls Try.prog 51 #[.slice none 0 0, .int .i64 k, .int .i64 sl] w (RefPost N (Ref.new [] k sl) w) := by
  have hr : Ref.new [] k sl = [⟨k, 8, sl, []⟩] := by
    unfold Ref.new
    rw [if_neg (by omega)]
    rfl
  rw [hr]
  obtain ⟨sz, hsz⟩ : ∃ sz : Int, sz = 8 := ⟨_, rfl⟩
  rw [← hsz]
  have hT0 := halloc_at w (.cells #[.int .i64 k, .int .i64 8, .int .i64 sl, .slice none 0 0] 84)
  have KW := Keeps.alloc (fun _ => False) w (.cells #[.int .i64 k, .int .i64 8, .int .i64 sl, .slice none 0 0] 84)
  rw [← hsz] at hT0 KW
  have HSZ := Lib.hid hsz
  clear hsz
  go_enter Try.func51, Try.ntmps51
  go_wp2_with fail
  rw [← HSZ.out]
  generalize w.alloc (.cells #[.int .i64 k, .int .i64 sz, .int .i64 sl, .slice none 0 0] 84) = W1 at hT0 KW ⊢
  have hw : w.heap.size ≤ W1.heap.size := KW.size
  have htl : w.heap.size < W1.heap.size := lt_of_heap hT0
  have t0 := cell_of (i := 0) hT0 rfl
  have t1 := cell_of (i := 1) hT0 rfl
  have t2 := cell_of (i := 2) hT0 rfl
  have t3 := cell_of (i := 3) hT0 rfl
  have kB : Keeps (fun _ => False) w (((W1.alloc (.cells #[] 84)).alloc (.cells #[.int .i64 k, .int .i64 sz, .int .i64 sl, .slice none 0 0] 84)).drew) := KW.trans (((Keeps.alloc _ _ _).trans (Keeps.alloc _ _ _)).trans (Keeps.drew _ _))
  have kC : Keeps (fun _ => False) w (((W1.alloc (.cells #[.int .i64 k, .int .i64 sz, .int .i64 sl, .slice none 0 0] 84)).alloc (.cells #[] 84)).drew) := KW.trans (((Keeps.alloc _ _ _).trans (Keeps.alloc _ _ _)).trans (Keeps.drew _ _))
  have ownB : Own (((W1.alloc (.cells #[] 84)).alloc (.cells #[.int .i64 k, .int .i64 sz, .int .i64 sl, .slice none 0 0] 84)).drew) 84 4 (some ⟨W1.heap.size, 0, none⟩) 0 0 [] :=
    Own.keeps (w := W1.alloc (.cells #[] 84)) (World.ownsRow_made W1 _ _ (Nat.zero_le _) (Nat.zero_le _) rfl) ((Keeps.alloc (fun _ => False) _ _).trans (Keeps.drew _ _)) (fun _ _ => id)
  have ownC : Own (((W1.alloc (.cells #[.int .i64 k, .int .i64 sz, .int .i64 sl, .slice none 0 0] 84)).alloc (.cells #[] 84)).drew) 84 4 (some ⟨W1.heap.size + 1, 0, none⟩) 0 0 [] := by
    have h1 : Own (((W1.alloc (.cells #[.int .i64 k, .int .i64 sz, .int .i64 sl, .slice none 0 0] 84)).alloc (.cells #[] 84)).drew) 84 4 (some ⟨(W1.alloc (.cells #[.int .i64 k, .int .i64 sz, .int .i64 sl, .slice none 0 0] 84)).heap.size, 0, none⟩) 0 0 [] := World.ownsRow_made _ _ _ (Nat.zero_le _) (Nat.zero_le _) rfl
    rw [World.size_alloc] at h1
    exact h1
  have newB : ∀ j u, (RC.cells ⟨k, sz, sl, none, 0, 0⟩)[j]? = some u → (((W1.alloc (.cells #[] 84)).alloc (.cells #[.int .i64 k, .int .i64 sz, .int .i64 sl, .slice none 0 0] 84)).drew).cell? ((⟨W1.heap.size + 1, 0, none⟩ : Addr).add j) = some u := by
    have h1 := rc_news (W1.alloc (.cells #[] 84)) ⟨k, sz, sl, none, 0, 0⟩
    rw [World.size_alloc] at h1
    exact h1
  have newC : ∀ j u, (RC.cells ⟨k, sz, sl, none, 0, 0⟩)[j]? = some u → (((W1.alloc (.cells #[.int .i64 k, .int .i64 sz, .int .i64 sl, .slice none 0 0] 84)).alloc (.cells #[] 84)).drew).cell? ((⟨W1.heap.size, 0, none⟩ : Addr).add j) = some u := fun j u hu =>
    (World.cell?_alloc_lt _ _ _ (by rw [Addr.add_lit]; simp)).trans (rc_news W1 ⟨k, sz, sl, none, 0, 0⟩ j u hu)
  have b0 : ∀ i, i < w.heap.size → blk (some (⟨W1.heap.size, 0, none⟩ : Addr)) = some i → False := fun i hi e => absurd (show W1.heap.size = i from Option.some.inj e) (by omega)
  have b1 : ∀ i, i < w.heap.size → blk (some (⟨W1.heap.size + 1, 0, none⟩ : Addr)) = some i → False := fun i hi e => absurd (show W1.heap.size + 1 = i from Option.some.inj e) (by omega)
  have g0 : ∀ g, blk (some (⟨W1.heap.size, 0, none⟩ : Addr)) = some g → w.heap.size ≤ g := fun g e => by have e' : W1.heap.size = g := Option.some.inj e; omega
  have g1 : ∀ g, blk (some (⟨W1.heap.size + 1, 0, none⟩ : Addr)) = some g → w.heap.size ≤ g := fun g e => by have e' : W1.heap.size + 1 = g := Option.some.inj e; omega
  have sB := kB.size
  have sC := kC.size
  have hm5 : 0 + 1 ≤ maxLen := by unfold maxLen; omega
  have hm6 : (0 + 1) * 48 ≤ 140737488355328 := by omega
  go_region_law (
    refine step_app rfl (.tmp 27) (.tmp 29) 47 rfl 84 _ 4 48 Try.underlying47 infoRC rfl (by decide) _ 0 0 [] rfl ?_ ⟨_, 0, none⟩ 1 1 (RC.cells ⟨k, sz, sl, none, 0, 0⟩) rfl rfl ?_ (rc_one _) hm5 hm6 ?_
    (first | with_reducible exact ownB | with_reducible exact ownC)
    (first | with_reducible exact newB | with_reducible exact newC)
    intro a4 c4 w4 o4 k4 l4
    have kw4 : Keeps (fun _ => False) w w4 := by first
      | with_reducible exact kB.trans' k4 b0
      | with_reducible exact kC.trans' k4 b1
    have nb4 : ∀ g, blk a4 = some g → w.heap.size ≤ g := by first
      | with_reducible exact past_new _ g0 sB l4
      | with_reducible exact past_new _ g1 sC l4
    have HP := Lib.hid ((RefV.nil N w).snoc kw4 ⟨k, sz, sl, none, 0, 0⟩ ⟨k, sz, sl, []⟩ (rc_is_nil N w4 k sz sl) o4 nb4 hN rfl)
    have HKP := Lib.hid kw4
    clear o4 k4 l4 kw4 nb4)
  all_goals
    go_wp2_with fail
    go_ret
    exact ⟨a4, c4, rfl, ⟨rfl, [] ++ [⟨k, sz, sl, none, 0, 0⟩], HP.out⟩, HKP.out⟩

theorem ref_new (N : Nat → Prop) (w : World) (a : Option Addr) (n c : Nat) (L : List RCls) (k slots : Int) (h : RefL N w a n c L) (hN : ∀ g, w.heap.size ≤ g → N g) (hk0 : -1 ≤ k) (hk1 : k < L.length) (hl : L.length ≤ 1000000) :
    Calls Try.prog 51 #[.slice a n c, .int .i64 k, .int .i64 slots] w (RefPost N (Ref.new L k slots) w) := by
  obtain ⟨hn, V, hV⟩ := h
  have hvl := hV.len
  cases a with
  | some ad =>
    obtain rfl : n = V.length := by omega
    exact ref_new_some N w ad c V L k slots hV hN hk0 hk1 hl
  | none =>
    rcases hV.own.form with ⟨_, h0, rfl, _⟩ | ⟨g, cur, hx, _⟩
    · obtain rfl : V = [] := List.eq_nil_of_length_eq_zero h0
      obtain rfl : L = [] := List.eq_nil_of_length_eq_zero (by omega)
      obtain rfl : n = 0 := hn
      exact ref_new_none N w k slots hN hk0 hk1
    · cases hx
end Go.Proofs.Shed
