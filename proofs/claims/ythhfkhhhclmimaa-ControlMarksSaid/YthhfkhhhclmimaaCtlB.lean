/- lives of layer 16 returns true; what a round of ControlMarks keeps. No condition. -/
import Derived.Test.YthhfkhhhclmimaaCtlA
namespace Go.Proofs.Ctl
open Go Go.RowKit Go.Proofs.K

set_option maxRecDepth 10000 in
theorem lives_true (w : World) : Calls Try.prog 8 #[] w fun e w' => e = .returned (.bool true) ∧ Keeps (fun _ => False) w w' := by
  have s0 : Stk (w.alloc (.cells #[.slice none 0 0] 25)) w.heap.size none 0 [] := ⟨halloc_at _ _, Own.nil _ _ _, by simp [blk]⟩
  have k0 := Keeps.alloc (fun _ => False) w (.cells #[.slice none 0 0] 25)
  have S0 := Lib.hid s0
  have K0 := Lib.hid k0
  clear s0 k0
  go_enter Try.func8, Try.ntmps8
  go_wp2_with fail
  refine (open_ok _ 0 8 none 0 [] _ S0.out (by omega) (by omega) (by simp)).mono ?_
  rintro e w1 ⟨rfl, h1⟩
  obtain ⟨a1, c1, s1, n1, k1⟩ := h1
  have S1 := Lib.hid s1
  have K1 : Hid (Keeps (fun _ => False) w w1) := K0.out.trans' k1 (by rintro i hi (h | h); omega; simp [blk] at h)
  clear s1 n1 k1 S0 K0
  go_wp2_with fail
  refine (close_bad _ 1 a1 c1 [] 0 8 _ S1.out (by omega) (by simp)).mono ?_
  rintro e w2 ⟨rfl, n, rfl⟩
  go_wp2_with fail
  refine (close_ok _ a1 c1 [] 0 8 _ (S1.out.same ⟨n, rfl⟩) (by simp)).mono ?_
  rintro e w2 ⟨rfl, ⟨c2, s2⟩, k2⟩
  have S2 := Lib.hid s2
  have K2 : Hid (Keeps (fun _ => False) w w2) := K1.out.trans' ((Keeps.drewN _ _ _).trans k2) (by rintro i hi rfl; omega)
  clear s2 k2 S1 K1
  go_wp2_with fail
  refine (closed_any _ a1 c2 [] _ S2.out (by simp)).mono ?_
  rintro e w3 ⟨rfl, rfl⟩
  go_wp2
  go_ret
  exact ⟨rfl, K2.out⟩

theorem closed_same {w w' : World} (h : Same w w') (S : Nat → Prop) : Keeps S w w' := by obtain ⟨n, rfl⟩ := h; exact Keeps.drewN _ _ _

/-- What holds at the head of each round: s stands in block B, want is a slice; both have the marks L. -/
def Rel (W : World) (B : Nat) (L : List (Int × Int)) (a a' : Option Addr) (c c' : Nat) (w : World) : Prop :=
  Stk w B a c L ∧ Own w 28 2 a' L.length c' (mk L) ∧ (∀ g, blk a = some g → W.heap.size ≤ g) ∧ (∀ g, blk a' = some g → W.heap.size ≤ g) ∧ (∀ g, blk a = some g → blk a' ≠ some g) ∧ blk a' ≠ some B ∧ W.heap.size ≤ B ∧ L.length ≤ 100 ∧ Keeps (fun _ => False) W w

theorem Rel.len {W : World} {B : Nat} {L : List (Int × Int)} {a a' : Option Addr} {c c' : Nat} {w : World} (h : Rel W B L a a' c c' w) : L.length ≤ 100 := h.2.2.2.2.2.2.2.1
theorem Rel.stk {W : World} {B : Nat} {L : List (Int × Int)} {a a' : Option Addr} {c c' : Nat} {w : World} (h : Rel W B L a a' c c' w) : Stk w B a c L := h.1
theorem Rel.own {W : World} {B : Nat} {L : List (Int × Int)} {a a' : Option Addr} {c c' : Nat} {w : World} (h : Rel W B L a a' c c' w) : Own w 28 2 a' L.length c' (mk L) := h.2.1
theorem Rel.same {W : World} {B : Nat} {L : List (Int × Int)} {a a' : Option Addr} {c c' : Nat} {w w' : World} (h : Rel W B L a a' c c' w) (e : Same w w') : Rel W B L a a' c c' w' := by
  obtain ⟨n, rfl⟩ := e
  exact ⟨h.1, h.2.1, h.2.2.1, h.2.2.2.1, h.2.2.2.2.1, h.2.2.2.2.2.1, h.2.2.2.2.2.2.1, h.2.2.2.2.2.2.2.1, h.2.2.2.2.2.2.2.2.trans (Keeps.drewN _ _ _)⟩
theorem Rel.alloc {W : World} {B : Nat} {L : List (Int × Int)} {a a' : Option Addr} {c c' : Nat} {w : World} (h : Rel W B L a a' c c' w) (o : Obj) : Rel W B L a a' c c' (w.alloc o) := by
  obtain ⟨⟨h1, h2, h3⟩, h4, h5, h6, h7, h8, h9, h10, h11⟩ := h
  have := lt_of_heap h1
  exact ⟨⟨(halloc_old _ _ this).trans h1, h2.alloc _, h3⟩, h4.alloc _, h5, h6, h7, h8, h9, h10, h11.trans (Keeps.alloc _ _ _)⟩

theorem Rel.closed {W : World} {B : Nat} {L : List (Int × Int)} {a a' : Option Addr} {c c' : Nat} {w w' : World} {p : Int × Int} (h : Rel W B (L ++ [p]) a a' c c' w) (e : ClosePost B a L w w') :
   ∃ c2, Rel W B L a a' c2 c' w' := by
  obtain ⟨⟨h1, h2, h3⟩, h4, h5, h6, h7, h8, h9, h10, h11⟩ := h
  obtain ⟨⟨c2, s2⟩, k2⟩ := e
  refine ⟨c2, s2, ?_, h5, h6, h7, h8, h9, by simp at h10; omega, h11.trans' k2 (by rintro i hi rfl; omega)⟩
  have h4' : Own w' 28 2 a' (L ++ [p]).length c' (mk (L ++ [p])) := h4.keeps k2 (fun g hg e => h8 (by rw [hg, e]))
  rcases h4'.form with ⟨_, h, _⟩ | ⟨g, cur, rfl, hh, i1, i2, i3, i4, i5⟩
  · simp at h
  · refine ⟨by rw [mk_len], .inr ⟨g, c', cur, rfl, Nat.zero_le _, hh, by simp at i1; omega, i2, i3, ?_⟩⟩
    have := congrArg (List.take (L.length * 2)) i4
    obtain ⟨p1, p2⟩ := p
    rw [List.take_take, List.length_append, List.length_singleton, Nat.min_eq_left (by omega), mk_app] at this
    rw [this, ← mk_len, List.take_left]
end Go.Proofs.Ctl
