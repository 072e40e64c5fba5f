/- Layer 6: Align, Back, New. -/
import Derived.Test.YthhfkhhhclmimaaWSpaceB
set_option linter.unusedVariables false
set_option linter.unusedSimpArgs false
set_option maxRecDepth 10000
namespace Go.Proofs.Shed
open Go Go.RowKit Go.Proofs.K

theorem SpPost.refl {w : World} {s b bb : Nat} {x : Sp} (h : RSp w s b bb x) (n : Int) : SpPost s b bb (x, n) w (.returned (.int .i64 n)) w := ⟨rfl, h, Keeps.refl _ _⟩

theorem sp_align (w : World) (s b bb : Nat) (x : Sp) (h : RSp w s b bb x) :
    Calls Try.prog 60 #[.pointer (some ⟨s, 0, none⟩)] w (SpPost s b bb x.align w) := by
  go_enter Try.func60, Try.ntmps60
  go_wp2_with fail
  go_loopw [2, 3] (fun _ _ wr => ∃ y : Sp, y.align = x.align ∧ RSp wr s b bb y ∧ Keeps (fun k => k = s ∨ k = bb) w wr)
    (fun _ _ wr => match wr.cell? ⟨s, 3, none⟩ with | some (.int _ n) => ((8 - n % 8) % 8).toNat | _ => 0)
  case atStart => exact ⟨x, rfl, h, Keeps.refl _ _⟩
  case round =>
    obtain ⟨y, hy, hr, hw⟩ := hrel
    have c3 := hr.c3
    obtain ⟨b1, b2, b3, b4⟩ := hr.bd
    have HR := Lib.hid hr
    have HY := Lib.hid hy
    clear hr hy
    go_wp2_with fail
    refine (sp_here _ _ _ _ _ HR.out).mono ?_
    rintro e w1 ⟨rfl, rfl⟩
    by_cases h8 : y.here % 8 = 0
    · have h8' : (y.here % 8 != 0) = false := by simp [h8]
      have hz : y.align = (y, 0) := by unfold Sp.align; rw [Sp.alignN, if_pos h8]
      have HZ := Lib.hid hz
      clear hz
      go_wp2_with fail
      go_ret
      rw [← HY.out, HZ.out]
      exact ⟨rfl, HR.out, hw⟩
    · have h8' : (y.here % 8 != 0) = true := by simp [h8]
      go_wp2_with fail
      refine (sp_char _ _ _ _ _ _ HR.out).mono ?_
      rintro e w2 ⟨rfl, g1, g2⟩
      have hw2 := hw.trans g2
      have G1 := Lib.hid g1
      clear g1 g2 hw
      by_cases he : (y.char 0).2 = 0
      · have he' : ((y.char 0).2 != 0) = false := by simp [he]
        have hst := Sp.align_step y h8 he
        have hh := Sp.char_here 0 he
        have c3' := G1.out.c3
        rw [hh] at c3'
        have HH := Lib.hid hst
        clear hh he hst
        go_wp2_with fail
        go_roundw
        case rel => exact ⟨_, by rw [← HY.out, HH.out], G1.out, hw2⟩
        case measure => simp only [c3, c3']; omega
      · have he' : ((y.char 0).2 != 0) = true := by simp [he]
        have hz : y.align = y.char 0 := by unfold Sp.align; rw [Sp.alignN, if_neg h8, if_pos he]
        have HZ := Lib.hid hz
        clear hz he
        go_wp2_with fail
        go_ret
        rw [← HY.out, HZ.out]
        exact ⟨rfl, G1.out, hw2⟩

theorem sp_back (w : World) (s b bb : Nat) (x : Sp) (n : Int) (h : RSp w s b bb x) :
    Calls Try.prog 62 #[.pointer (some ⟨s, 0, none⟩), .int .i64 n] w (SpPost s b bb (x.back n) w) := by
  have H := Lib.hid h
  have h1 := h.c1
  have h3 := h.c3
  have hf := h.f 3
  have hb := Lib.hid h.bd
  clear h
  have HD : Hid (x.back n = if n < x.lo ∨ x.here < n then (x, -256) else ({ x with here := n }, 0)) := rfl
  generalize x.back n = r at HD ⊢
  by_cases hc : n < x.lo ∨ x.here < n
  · have hr : r = (x, -256) := by rw [HD.out, if_pos hc]
    subst hr
    clear HD
    have hc' : n < x.lo ∨ (x.lo ≤ n ∧ x.here < n) := by omega
    clear hc
    rcases hc' with hc | ⟨hc, hd⟩
    all_goals
      go_enter Try.func62, Try.ntmps62
      go_wp2
      go_ret
      exact SpPost.refl H.out _
  · have hr : r = ({ x with here := n }, 0) := by rw [HD.out, if_neg hc]
    subst hr
    clear HD
    have g1 : x.lo ≤ n := by omega
    have g2 : n ≤ x.here := by omega
    clear hc
    go_enter Try.func62, Try.ntmps62
    go_wp2
    go_ret
    exact ⟨rfl, H.out.withHere n g1 (Int.le_trans g2 hb.out.2.2.1), Keeps.setCell _ _ _ (fun _ => .inl rfl)⟩

theorem sp_back_nil (w : World) (n : Int) : Calls Try.prog 62 #[.pointer none, .int .i64 n] w fun e w' => e = .returned (.int .i64 (-256)) ∧ w = w' := by
  go_enter Try.func62, Try.ntmps62
  go_wp2
  go_ret
  exact ⟨rfl, rfl⟩

/-- New: a space in a new block, on a memory that lies there. -/
def SpNewPost (b bb : Nat) (m : Mem) (lo hi : Int) (w : World) (e : Ending) (w' : World) : Prop :=
  if Sp.newCode m lo hi = 0 then ∃ s, e = .returned (.tuple #[.pointer (some ⟨s, 0, none⟩), .int .i64 0]) ∧ RSp w' s b bb ⟨m, lo, hi, lo⟩ ∧ w.heap.size ≤ s ∧ Keeps (fun _ => False) w w'
  else e = .returned (.tuple #[.pointer none, .int .i64 (-256)]) ∧ w = w'

theorem sp_new (w : World) (b bb : Nat) (m : Mem) (lo hi : Int) (h : RMem w b bb m) :
    Calls Try.prog 31 #[.pointer (some ⟨b, 0, none⟩), .int .i64 lo, .int .i64 hi] w (SpNewPost b bb m lo hi w) := by
  have H := Lib.hid h
  have hl := h.lt
  clear h
  by_cases hc : lo < 0 ∨ hi < lo ∨ m.size < hi
  · have hn : SpNewPost b bb m lo hi w = fun e w' => e = .returned (.tuple #[.pointer none, .int .i64 (-256)]) ∧ w = w' := by
      funext e w'
      unfold SpNewPost Sp.newCode
      rw [if_neg (by rw [if_pos hc]; decide)]
    rw [hn]
    clear hn hl
    have hc' : lo < 0 ∨ (0 ≤ lo ∧ hi < lo) ∨ (0 ≤ lo ∧ lo ≤ hi ∧ m.size < hi) := by omega
    clear hc
    rcases hc' with h | ⟨h1, h2⟩ | ⟨h1, h2, h3⟩
    · go_enter Try.func31, Try.ntmps31
      go_wp2_with fail
      go_ret2
      exact ⟨rfl, rfl⟩
    · go_enter Try.func31, Try.ntmps31
      go_wp2_with fail
      go_ret2
      exact ⟨rfl, rfl⟩
    · go_enter Try.func31, Try.ntmps31
      go_wp2_with fail
      refine (mem_size _ _ _ _ H.out).mono ?_
      rintro e w1 ⟨rfl, rfl⟩
      go_wp2_with fail
      go_ret2
      exact ⟨rfl, rfl⟩
  · have hn : SpNewPost b bb m lo hi w = fun e w' => ∃ s, e = .returned (.tuple #[.pointer (some ⟨s, 0, none⟩), .int .i64 0]) ∧ RSp w' s b bb ⟨m, lo, hi, lo⟩ ∧ w.heap.size ≤ s ∧ Keeps (fun _ => False) w w' := by
      funext e w'
      unfold SpNewPost Sp.newCode
      rw [if_pos (by rw [if_neg hc])]
    rw [hn]
    clear hn
    have h1 : 0 ≤ lo := by omega
    have h2 : lo ≤ hi := by omega
    have h3 : hi ≤ m.size := by omega
    clear hc
    go_enter Try.func31, Try.ntmps31
    go_wp2_with fail
    refine (mem_size _ _ _ _ H.out).mono ?_
    rintro e w1 ⟨rfl, rfl⟩
    go_wp2_with fail
    go_ret2
    exact ⟨w.heap.size, rfl, ⟨halloc_at _ _, H.out.keeps (Keeps.alloc (fun _ => False) _ _) id id, by omega, by omega, h1, Int.le_refl _, h2, h3⟩, Nat.le_refl _, Keeps.alloc _ _ _⟩
theorem sp_new_nil (w : World) (lo hi : Int) : Calls Try.prog 31 #[.pointer none, .int .i64 lo, .int .i64 hi] w fun e w' => e = .returned (.tuple #[.pointer none, .int .i64 (-256)]) ∧ w = w' := by
  go_enter Try.func31, Try.ntmps31
  go_wp2
  go_ret2
  exact ⟨rfl, rfl⟩
end Go.Proofs.Shed
