/- Layer 6: Comma, Char, Align. -/
import Derived.Test.YthhfkhhhclmimaaWSpace
set_option linter.unusedVariables false
set_option linter.unusedSimpArgs false
set_option maxRecDepth 10000
namespace Go.Proofs.Shed
open Go Go.RowKit Go.Proofs.K

theorem RMem.drew {w : World} {b bb : Nat} {m : Mem} (h : RMem w b bb m) : RMem w.drew b bb m := ⟨h.head, h.rest, h.ne, h.le⟩
theorem RSp.drew {w : World} {s b bb : Nat} {x : Sp} (h : RSp w s b bb x) : RSp w.drew s b bb x := ⟨h.head, h.mem.drew, h.ne1, h.ne2, h.ok⟩
theorem RSp.drewN {w : World} {s b bb : Nat} {x : Sp} (h : RSp w s b bb x) (n : Nat) : RSp (w.drewN n) s b bb x := ⟨h.head, h.mem.drewN n, h.ne1, h.ne2, h.ok⟩
theorem SetPost.drew {b bb : Nat} {r : Mem × Int} {w w' : World} {e : Ending} (h : SetPost b bb r w.drew e w') : SetPost b bb r w e w' := ⟨h.1, h.2.1, (Keeps.drew _ w).trans h.2.2⟩
theorem RSp.allocd {w : World} {s b bb : Nat} {x : Sp} (h : RSp w s b bb x) (o : Obj) : RSp (w.alloc o) s b bb x := h.keeps (Keeps.alloc (fun _ => False) w o) id id id

theorem sp_comma1 (w : World) (s b bb : Nat) (x : Sp) (a : Int) (n : Int) (x0 x1 : Nat) (h : RSp w s b bb x) (c0 : w.cell? ⟨x0, 0, none⟩ = some (.pointer (some ⟨s, 0, none⟩))) (c1 : w.cell? ⟨x1, 0, none⟩ = some (.int .i64 n)) :
    Calls Try.prog 99 #[.int .i64 a, .pointer (some ⟨x0, 0, none⟩), .pointer (some ⟨x1, 0, none⟩)] w (SetPost b bb (x.mem.setCell a n) w) := by
  have h0 := h.c0
  have H := Lib.hid h.mem
  clear h
  go_enter Try.func99, Try.ntmps99
  go_wp2_with fail
  go_still_tail 6, (by kernel_rfl)
  change wpList _ _ _ _ _ w.drew
  go_wp2_with fail
  refine (mem_setCell _ _ _ _ _ _ H.out.drew).mono ?_
  rintro e w' hp
  obtain ⟨rfl, h1, h2⟩ := hp.drew
  have HP := Lib.hid (And.intro h1 h2)
  clear h1 h2 hp
  go_wp2
  go_ret
  exact ⟨rfl, HP.out.1, HP.out.2⟩

theorem sp_put_comma (w : World) (s b bb : Nat) (x : Sp) (n : Int) (x0 x1 : Nat) (h : RSp w s b bb x) (c0 : w.cell? ⟨x0, 0, none⟩ = some (.pointer (some ⟨s, 0, none⟩))) (c1 : w.cell? ⟨x1, 0, none⟩ = some (.int .i64 n)) :
    Calls Try.prog 98 #[.pointer (some ⟨s, 0, none⟩), .int .i64 (8), .func (.func 99) #[] #[.pointer (some ⟨x0, 0, none⟩), .pointer (some ⟨x1, 0, none⟩)]] w (SpPost s b bb (x.comma n) w) := by
  have H := Lib.hid h
  have h2 := h.c2
  obtain ⟨b1, b2, b3, b4⟩ := h.bd
  clear h
  have HD : Hid (x.comma n = if 8 ≤ x.to - x.here then (if (x.mem.setCell x.here n).2 ≠ 0 then ({ x with mem := (x.mem.setCell x.here n).1 }, (x.mem.setCell x.here n).2) else Sp.allot { x with mem := (x.mem.setCell x.here n).1 } (8)) else x.allot (8)) := rfl
  have hsz : (x.mem.setCell x.here n).1.size = x.mem.size := Mem.setCell_size _ _ _
  have hcl := Lib.hid (sp_comma1 w s b bb x x.here n x0 x1 H.out c0 c1)
  generalize x.mem.setCell x.here n = q at HD hsz hcl
  generalize x.comma n = r at HD ⊢
  have HS := Lib.hid hsz
  clear hsz c0 c1
  by_cases hle : 8 ≤ x.to - x.here
  · have hq := HD.out
    rw [if_pos hle] at hq
    have HQ := Lib.hid hq
    clear hq HD
    go_enter Try.func98, Try.ntmps98
    go_wp2_with fail
    refine (sp_here _ _ _ _ _ H.out).mono ?_
    rintro e w1 ⟨rfl, rfl⟩
    go_wp2_with fail
    refine hcl.out.mono ?_
    rintro e w1 ⟨rfl, hm, hk⟩
    have hx := H.out.withMem hm HS.out hk
    have HX := Lib.hid hx
    have HK := Lib.hid (hk.mono (T := fun k => k = s ∨ k = bb) (fun _ _ e => .inr e))
    clear hm hk hx
    by_cases hz : q.2 = 0
    · have hz' : (q.2 != 0) = false := by simp [hz]
      have hq := HQ.out
      rw [if_neg (by simp [hz])] at hq
      subst hq
      go_wp2_with fail
      refine (sp_allot _ _ _ _ _ _ HX.out).mono ?_
      rintro e w2 ⟨rfl, h1, h2⟩
      have HP := Lib.hid (And.intro h1 (HK.out.trans h2))
      clear h1 h2
      go_wp2
      go_ret
      exact ⟨rfl, HP.out.1, HP.out.2⟩
    · have hz' : (q.2 != 0) = true := by simp [hz]
      have hq := HQ.out
      rw [if_pos hz] at hq
      subst hq
      go_wp2
      go_ret
      exact ⟨rfl, HX.out, HK.out⟩
  · have hq := HD.out
    rw [if_neg hle] at hq
    subst hq
    clear HD
    have hle' : x.to - x.here < 8 := by omega
    go_enter Try.func98, Try.ntmps98
    go_wp2_with fail
    refine (sp_here _ _ _ _ _ H.out).mono ?_
    rintro e w1 ⟨rfl, rfl⟩
    go_wp2_with fail
    refine (sp_allot _ _ _ _ _ _ H.out).mono ?_
    rintro e w2 ⟨rfl, h1, h2⟩
    have HP := Lib.hid (And.intro h1 h2)
    clear h1 h2
    go_wp2
    go_ret
    exact ⟨rfl, HP.out.1, HP.out.2⟩

theorem sp_comma (w : World) (s b bb : Nat) (x : Sp) (n : Int) (h : RSp w s b bb x) :
    Calls Try.prog 61 #[.pointer (some ⟨s, 0, none⟩), .int .i64 n] w (SpPost s b bb (x.comma n) w) := by
  have hmf : ∀ (fn : Fn) (first cap : Array Value) (w : World), (Instr.makeFunc fn first cap).run Try.prog w = .ok (.func fn first cap) w := fun _ _ _ _ => rfl
  have hp := sp_put_comma ((w.alloc (.cells #[.pointer (some ⟨s, 0, none⟩)] 45)).alloc (.cells #[.int .i64 n] 2)) s b bb x n w.heap.size (w.heap.size + 1)
    ((h.allocd _).allocd _) (by rw [World.cell?_alloc_lt _ _ _ (by simp)]; exact World.cell?_alloc_new _ _ _ _) (by simp)
  have HP := Lib.hid hp
  have HK : Hid (Keeps (fun k => k = s ∨ k = bb) w ((w.alloc (.cells #[.pointer (some ⟨s, 0, none⟩)] 45)).alloc (.cells #[.int .i64 n] 2))) := (Keeps.alloc _ _ _).trans (Keeps.alloc _ _ _)
  clear hp h
  go_enter Try.func61, Try.ntmps61
  go_wp2_with fail
  refine HP.out.mono ?_
  rintro e w1 ⟨rfl, h1, h2⟩
  have HQ := Lib.hid (And.intro h1 (HK.out.trans h2))
  clear h1 h2
  go_wp2
  go_ret
  exact ⟨rfl, HQ.out.1, HQ.out.2⟩

theorem sp_char1 (w : World) (s b bb : Nat) (x : Sp) (a : Int) (n : Int) (x0 x1 : Nat) (h : RSp w s b bb x) (c0 : w.cell? ⟨x0, 0, none⟩ = some (.pointer (some ⟨s, 0, none⟩))) (c1 : w.cell? ⟨x1, 0, none⟩ = some (.int .i64 n)) :
    Calls Try.prog 111 #[.int .i64 a, .pointer (some ⟨x0, 0, none⟩), .pointer (some ⟨x1, 0, none⟩)] w (SetPost b bb (x.mem.setByte a n) w) := by
  have h0 := h.c0
  have H := Lib.hid h.mem
  clear h
  go_enter Try.func111, Try.ntmps111
  go_wp2_with fail
  go_still_tail 6, (by kernel_rfl)
  change wpList _ _ _ _ _ w.drew
  go_wp2_with fail
  refine (mem_setByte _ _ _ _ _ _ H.out.drew).mono ?_
  rintro e w' hp
  obtain ⟨rfl, h1, h2⟩ := hp.drew
  have HP := Lib.hid (And.intro h1 h2)
  clear h1 h2 hp
  go_wp2
  go_ret
  exact ⟨rfl, HP.out.1, HP.out.2⟩

theorem sp_put_char (w : World) (s b bb : Nat) (x : Sp) (n : Int) (x0 x1 : Nat) (h : RSp w s b bb x) (c0 : w.cell? ⟨x0, 0, none⟩ = some (.pointer (some ⟨s, 0, none⟩))) (c1 : w.cell? ⟨x1, 0, none⟩ = some (.int .i64 n)) :
    Calls Try.prog 98 #[.pointer (some ⟨s, 0, none⟩), .int .i64 (1), .func (.func 111) #[] #[.pointer (some ⟨x0, 0, none⟩), .pointer (some ⟨x1, 0, none⟩)]] w (SpPost s b bb (x.char n) w) := by
  have H := Lib.hid h
  have h2 := h.c2
  obtain ⟨b1, b2, b3, b4⟩ := h.bd
  clear h
  have HD : Hid (x.char n = if 1 ≤ x.to - x.here then (if (x.mem.setByte x.here n).2 ≠ 0 then ({ x with mem := (x.mem.setByte x.here n).1 }, (x.mem.setByte x.here n).2) else Sp.allot { x with mem := (x.mem.setByte x.here n).1 } (1)) else x.allot (1)) := rfl
  have hsz : (x.mem.setByte x.here n).1.size = x.mem.size := Mem.setByte_size _ _ _
  have hcl := Lib.hid (sp_char1 w s b bb x x.here n x0 x1 H.out c0 c1)
  generalize x.mem.setByte x.here n = q at HD hsz hcl
  generalize x.char n = r at HD ⊢
  have HS := Lib.hid hsz
  clear hsz c0 c1
  by_cases hle : 1 ≤ x.to - x.here
  · have hq := HD.out
    rw [if_pos hle] at hq
    have HQ := Lib.hid hq
    clear hq HD
    go_enter Try.func98, Try.ntmps98
    go_wp2_with fail
    refine (sp_here _ _ _ _ _ H.out).mono ?_
    rintro e w1 ⟨rfl, rfl⟩
    go_wp2_with fail
    refine hcl.out.mono ?_
    rintro e w1 ⟨rfl, hm, hk⟩
    have hx := H.out.withMem hm HS.out hk
    have HX := Lib.hid hx
    have HK := Lib.hid (hk.mono (T := fun k => k = s ∨ k = bb) (fun _ _ e => .inr e))
    clear hm hk hx
    by_cases hz : q.2 = 0
    · have hz' : (q.2 != 0) = false := by simp [hz]
      have hq := HQ.out
      rw [if_neg (by simp [hz])] at hq
      subst hq
      go_wp2_with fail
      refine (sp_allot _ _ _ _ _ _ HX.out).mono ?_
      rintro e w2 ⟨rfl, h1, h2⟩
      have HP := Lib.hid (And.intro h1 (HK.out.trans h2))
      clear h1 h2
      go_wp2
      go_ret
      exact ⟨rfl, HP.out.1, HP.out.2⟩
    · have hz' : (q.2 != 0) = true := by simp [hz]
      have hq := HQ.out
      rw [if_pos hz] at hq
      subst hq
      go_wp2
      go_ret
      exact ⟨rfl, HX.out, HK.out⟩
  · have hq := HD.out
    rw [if_neg hle] at hq
    subst hq
    clear HD
    have hle' : x.to - x.here < 1 := by omega
    go_enter Try.func98, Try.ntmps98
    go_wp2_with fail
    refine (sp_here _ _ _ _ _ H.out).mono ?_
    rintro e w1 ⟨rfl, rfl⟩
    go_wp2_with fail
    refine (sp_allot _ _ _ _ _ _ H.out).mono ?_
    rintro e w2 ⟨rfl, h1, h2⟩
    have HP := Lib.hid (And.intro h1 h2)
    clear h1 h2
    go_wp2
    go_ret
    exact ⟨rfl, HP.out.1, HP.out.2⟩

theorem sp_char (w : World) (s b bb : Nat) (x : Sp) (n : Int) (h : RSp w s b bb x) :
    Calls Try.prog 97 #[.pointer (some ⟨s, 0, none⟩), .int .i64 n] w (SpPost s b bb (x.char n) w) := by
  have hmf : ∀ (fn : Fn) (first cap : Array Value) (w : World), (Instr.makeFunc fn first cap).run Try.prog w = .ok (.func fn first cap) w := fun _ _ _ _ => rfl
  have hp := sp_put_char ((w.alloc (.cells #[.pointer (some ⟨s, 0, none⟩)] 45)).alloc (.cells #[.int .i64 n] 2)) s b bb x n w.heap.size (w.heap.size + 1)
    ((h.allocd _).allocd _) (by rw [World.cell?_alloc_lt _ _ _ (by simp)]; exact World.cell?_alloc_new _ _ _ _) (by simp)
  have HP := Lib.hid hp
  have HK : Hid (Keeps (fun k => k = s ∨ k = bb) w ((w.alloc (.cells #[.pointer (some ⟨s, 0, none⟩)] 45)).alloc (.cells #[.int .i64 n] 2))) := (Keeps.alloc _ _ _).trans (Keeps.alloc _ _ _)
  clear hp h
  go_enter Try.func97, Try.ntmps97
  go_wp2_with fail
  refine HP.out.mono ?_
  rintro e w1 ⟨rfl, h1, h2⟩
  have HQ := Lib.hid (And.intro h1 (HK.out.trans h2))
  clear h1 h2
  go_wp2
  go_ret
  exact ⟨rfl, HQ.out.1, HQ.out.2⟩
end Go.Proofs.Shed
