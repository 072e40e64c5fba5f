/- Layer 6: each function of package space does what SpaceS says. Conditions: the space lies in three blocks. -/
import Derived.Test.YthhfkhhhclmimaaWMemC
import Derived.Test.YthhfkhhhclmimaaSpaceS
set_option linter.unusedVariables false
set_option linter.unusedSimpArgs false
set_option maxRecDepth 10000
namespace Go.Proofs.Shed
open Go Go.RowKit Go.Proofs.K

/-- A space lies in a world: a struct in block s, its memory in b and bb. -/
structure RSp (w : World) (s b bb : Nat) (x : Sp) : Prop where
  head : w.heap[s]? = some (.cells #[.pointer (some ⟨b, 0, none⟩), .int .i64 x.lo, .int .i64 x.to, .int .i64 x.here] 129 (0, 0))
  mem : RMem w b bb x.mem
  ne1 : s ≠ b
  ne2 : s ≠ bb
  ok : x.Ok

theorem RSp.keeps {w w' : World} {s b bb : Nat} {x : Sp} (h : RSp w s b bb x) {S : Nat → Prop} (k : Keeps S w w') (h0 : ¬ S s) (h1 : ¬ S b) (h2 : ¬ S bb) : RSp w' s b bb x :=
  ⟨k.heap h.head h0, h.mem.keeps k h1 h2, h.ne1, h.ne2, h.ok⟩
theorem RSp.c0 {w : World} {s b bb : Nat} {x : Sp} (h : RSp w s b bb x) : w.cell? ⟨s, 0, none⟩ = some (.pointer (some ⟨b, 0, none⟩)) := cell_of h.head rfl
theorem RSp.c1 {w : World} {s b bb : Nat} {x : Sp} (h : RSp w s b bb x) : w.cell? ⟨s, 1, none⟩ = some (.int .i64 x.lo) := cell_of h.head rfl
theorem RSp.c2 {w : World} {s b bb : Nat} {x : Sp} (h : RSp w s b bb x) : w.cell? ⟨s, 2, none⟩ = some (.int .i64 x.to) := cell_of h.head rfl
theorem RSp.c3 {w : World} {s b bb : Nat} {x : Sp} (h : RSp w s b bb x) : w.cell? ⟨s, 3, none⟩ = some (.int .i64 x.here) := cell_of h.head rfl
theorem RSp.f {w : World} {s b bb : Nat} {x : Sp} (h : RSp w s b bb x) (i : Nat) : w.frozen? ⟨s, i, none⟩ = false := free_of h.head
theorem RSp.bd {w : World} {s b bb : Nat} {x : Sp} (h : RSp w s b bb x) : 0 ≤ x.lo ∧ x.lo ≤ x.here ∧ x.here ≤ x.to ∧ x.to ≤ 4194304 := by
  obtain ⟨h1, h2, h3, h4⟩ := h.ok
  have := h.mem.le
  exact ⟨h1, h2, h3, by omega⟩
/-- Its memory is another one. -/
theorem RSp.withMem {w w' : World} {s b bb : Nat} {x : Sp} (h : RSp w s b bb x) {m : Mem} (hm : RMem w' b bb m) (hs : m.size = x.mem.size) (k : Keeps (fun j => j = bb) w w') : RSp w' s b bb { x with mem := m } :=
  ⟨k.heap h.head h.ne2, hm, h.ne1, h.ne2, h.ok.1, h.ok.2.1, h.ok.2.2.1, by show x.to ≤ m.size; rw [hs]; exact h.ok.2.2.2⟩
/-- It ends elsewhere. -/
theorem RSp.withHere {w : World} {s b bb : Nat} {x : Sp} (h : RSp w s b bb x) (n : Int) (h1 : x.lo ≤ n) (h2 : n ≤ x.to) : RSp (w.setCell ⟨s, 3, none⟩ (.int .i64 n)) s b bb { x with here := n } :=
  ⟨hset_same h.head _, h.mem.keeps (Keeps.setCell (S := fun j => j = s) _ _ _ (fun _ => rfl)) (fun e => h.ne1 e.symm) (fun e => h.ne2 e.symm), h.ne1, h.ne2, h.ok.1, h1, h2, h.ok.2.2.2⟩

theorem sp_here (w : World) (s b bb : Nat) (x : Sp) (h : RSp w s b bb x) :
    Calls Try.prog 32 #[.pointer (some ⟨s, 0, none⟩)] w fun e w' => e = .returned (.int .i64 x.here) ∧ w = w' := by
  have h3 := h.c3
  go_enter Try.func32, Try.ntmps32
  go_wp2
  go_ret
  exact ⟨rfl, rfl⟩
theorem sp_here_nil (w : World) :
    Calls Try.prog 32 #[.pointer none] w fun e w' => e = .returned (.int .i64 0) ∧ w = w' := by
  go_enter Try.func32, Try.ntmps32
  go_wp2
  go_ret
  exact ⟨rfl, rfl⟩

/-- What becomes of a world whose space has turned. -/
def SpPost (s b bb : Nat) (r : Sp × Int) (w : World) (e : Ending) (w' : World) : Prop :=
  e = .returned (.int .i64 r.2) ∧ RSp w' s b bb r.1 ∧ Keeps (fun k => k = s ∨ k = bb) w w'

theorem sp_allot (w : World) (s b bb : Nat) (x : Sp) (n : Int) (h : RSp w s b bb x) :
    Calls Try.prog 76 #[.pointer (some ⟨s, 0, none⟩), .int .i64 n] w (SpPost s b bb (x.allot n) w) := by
  have H := Lib.hid h
  have h1 := h.c1
  have h2 := h.c2
  have h3 := h.c3
  have hf := h.f 3
  obtain ⟨b1, b2, b3, b4⟩ := h.bd
  clear h
  have HD : Hid (x.allot n = if n > x.to - x.here ∨ n < x.lo - x.here then (x, -8) else ({ x with here := x.here + n }, 0)) := rfl
  generalize x.allot n = r at HD ⊢
  have w1 : IntKind.i64.wrap (x.to - x.here) = x.to - x.here := IntWalk.i64_in _ (by omega)
  have w2 : IntKind.i64.wrap (x.lo - x.here) = x.lo - x.here := IntWalk.i64_in _ (by omega)
  by_cases hc : n > x.to - x.here ∨ n < x.lo - x.here
  · have hr : r = (x, -8) := by rw [HD.out, if_pos hc]
    subst hr
    clear HD
    have hc' : (x.to - x.here < n) ∨ (n ≤ x.to - x.here ∧ n < x.lo - x.here) := by omega
    clear hc
    rcases hc' with hc | ⟨hc, hd⟩
    · have e1 : decide (x.to - x.here < n) = true := by simpa using hc
      go_enter Try.func76, Try.ntmps76
      go_wp2
      go_quiet (fail)
      go_wp2
      go_ret
      exact ⟨rfl, ⟨H.out.head, ⟨H.out.mem.head, H.out.mem.rest, H.out.mem.ne, H.out.mem.le⟩, H.out.ne1, H.out.ne2, H.out.ok⟩, Keeps.drewN _ _ _⟩
    · have e1 : decide (x.to - x.here < n) = false := by simpa using hc
      have e2 : decide (n < x.lo - x.here) = true := by simpa using hd
      go_enter Try.func76, Try.ntmps76
      go_wp2
      go_quiet (fail)
      go_wp2
      go_ret
      exact ⟨rfl, ⟨H.out.head, ⟨H.out.mem.head, H.out.mem.rest, H.out.mem.ne, H.out.mem.le⟩, H.out.ne1, H.out.ne2, H.out.ok⟩, Keeps.drewN _ _ _⟩
  · have hr : r = ({ x with here := x.here + n }, 0) := by rw [HD.out, if_neg hc]
    subst hr
    clear HD
    have e1 : decide (x.to - x.here < n) = false := by simp; omega
    have e2 : decide (n < x.lo - x.here) = false := by simp; omega
    have g1 : x.lo ≤ x.here + n := by omega
    have g2 : x.here + n ≤ x.to := by omega
    clear hc
    go_enter Try.func76, Try.ntmps76
    go_wp2
    go_quiet (fail)
    go_wp2
    go_ret
    refine ⟨rfl, ?_, ?_⟩
    · have := H.out.withHere (x.here + n) g1 g2
      exact ⟨this.head, ⟨this.mem.head, this.mem.rest, this.mem.ne, this.mem.le⟩, this.ne1, this.ne2, this.ok⟩
    · exact (Keeps.drewN _ _ _).trans (Keeps.setCell _ _ _ (fun _ => .inl rfl))
end Go.Proofs.Shed
