/- Layer 11: New. Conditions: the space lies in three blocks. -/
import Derived.Test.YthhfkhhhclmimaaWClassF
set_option linter.unusedVariables false
set_option linter.unusedSimpArgs false
set_option maxRecDepth 10000
set_option maxHeartbeats 1000000
namespace Go.Proofs.Shed
open Go Go.RowKit Go.Proofs.K

theorem class_new_nil (w : World) (root parent slots : Int) : Calls Try.prog 50 #[.pointer none, .int .i64 root, .int .i64 parent, .int .i64 slots] w fun e w' => e = .returned (.tuple #[.int .i64 0, .int .i64 (-256)]) ∧ w = w' := by
  go_enter Try.func50, Try.ntmps50
  go_wp2
  go_ret2
  exact ⟨rfl, rfl⟩

theorem class_new (w : World) (s b bb : Nat) (x : Sp) (root parent slots : Int) (h : RSp w s b bb x) (hp0 : -9223372036854775808 ≤ parent) (hp1 : parent ≤ 9223372036854775807) :
    Calls Try.prog 50 #[.pointer (some ⟨s, 0, none⟩), .int .i64 root, .int .i64 parent, .int .i64 slots] w (MkPost s b bb (Class.new x root parent slots) w) := by
  have H := Lib.hid h
  clear h
  have HD : Hid (Class.new x root parent slots = if (Class.make5 x root parent slots).2.2 ≠ 0 then (((Class.make5 x root parent slots).1.back x.here).1, 0, (Class.make5 x root parent slots).2.2)
    else ({ (Class.make5 x root parent slots).1 with mem := ((Class.make5 x root parent slots).1.mem.setCell root (Class.make5 x root parent slots).2.1).1 }, (Class.make5 x root parent slots).2.1, ((Class.make5 x root parent slots).1.mem.setCell root (Class.make5 x root parent slots).2.1).2)) := rfl
  generalize Class.new x root parent slots = r at HD ⊢
  have hN := Lib.hid (class_make5 w s b bb x root parent slots H.out hp0 hp1)
  generalize Class.make5 x root parent slots = q at hN HD
  obtain ⟨y, a, e⟩ := q
  simp only at HD
  unfold MkPost at hN
  simp only at hN
  go_enter Try.func50, Try.ntmps50
  go_wp2_with fail
  refine (sp_here _ _ _ _ _ H.out).mono ?_
  rintro e1 w1 ⟨rfl, rfl⟩
  go_wp2_with fail
  refine hN.out.mono ?_
  rintro e1 w1 ⟨rfl, s1, k1⟩
  have S := Lib.hid s1
  have K := Lib.hid k1
  have c0 := s1.c0
  clear s1 k1
  by_cases he : e = 0
  · have hr := HD.out
    rw [if_neg (by simpa using he)] at hr
    have he' : (e != 0) = false := by simp [he]
    have HR := Lib.hid hr
    clear hr he HD
    go_wp2_with fail
    refine (mem_setCell w1 b bb y.mem root a S.out.mem).mono ?_
    rintro e1 w2 ⟨rfl, m2, k2⟩
    have S2 := Lib.hid (S.out.withMem' m2 (Mem.setCell_size _ _ _) k2)
    have K2 := Lib.hid (K.out.trans (k2.mono (T := fun k => k = s ∨ k = bb) (fun _ _ e => .inr e)))
    clear m2 k2
    go_wp2_with fail
    go_ret2
    exact ⟨by rw [HR.out]; rfl, by rw [HR.out]; exact S2.out, K2.out⟩
  · have hr := HD.out
    rw [if_pos he] at hr
    have he' : (e != 0) = true := by simp [he]
    have HR := Lib.hid hr
    clear hr he HD
    go_wp2_with fail
    refine (sp_back w1 s b bb y x.here S.out).mono ?_
    rintro e1 w2 ⟨rfl, s2, k2⟩
    have S2 := Lib.hid s2
    have K2 := Lib.hid (K.out.trans k2)
    clear s2 k2
    go_wp2_with fail
    go_ret2
    exact ⟨by rw [HR.out]; rfl, by rw [HR.out]; exact S2.out, K2.out⟩
end Go.Proofs.Shed
