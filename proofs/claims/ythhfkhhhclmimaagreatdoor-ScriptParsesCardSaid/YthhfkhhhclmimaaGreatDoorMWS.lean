/- Layer 6: each function of package space does what SpaceS says. Conditions: the space lies in three blocks. Layer 6: Comma, Char, Align. Layer 6: Align, Back, New. Layer 6: Chars. Condition: on the length. -/
import Derived.Test.YthhfkhhhclmimaaGreatDoorMWM
import Derived.Test.YthhfkhhhclmimaaGreatDoorMPA
set_option linter.unusedVariables false
set_option linter.unusedSimpArgs false
set_option maxRecDepth 10000
namespace Go.Proofs.Shed
open Go Go.RowKit Go.Proofs.K

/-- A space lies in a world: a struct in block s, its memory in b and bb. -/
structure RSp (w : World) (s b bb : Nat) (x : Sp) : Prop where
  head : w.heap[s]? = some (.cells #[.pointer (some ⟨b, 0, none⟩), .int .i64 x.lo, .int .i64 x.to, .int .i64 x.here] 84 (0, 0))
  mem : RMem w b bb x.mem
  ne1 : s ≠ b
  ne2 : s ≠ bb
  ok : x.Ok

theorem RSp.keeps {w w' : World} {s b bb : Nat} {x : Sp} (h : RSp w s b bb x) {S : Nat → Prop} (k : Keeps S w w') (h0 : ¬ S s) (h1 : ¬ S b) (h2 : ¬ S bb) : RSp w' s b bb x :=
  ⟨k.heap h.head h0, h.mem.keeps k h1 h2, h.ne1, h.ne2, h.ok⟩
theorem RSp.c0 {w : World} {s b bb : Nat} {x : Sp} (h : RSp w s b bb x) : w.cell? ⟨s, 0, none⟩ = some (.pointer (some ⟨b, 0, none⟩)) := cell_of h.head rfl
theorem RSp.c1 {w : World} {s b bb : Nat} {x : Sp} (h : RSp w s b bb x) : w.cell? ⟨s, 1, none⟩ = some (.int .i64 x.lo) := cell_of h.head rfl
theorem RSp.c2 {w : World} {s b bb : Nat} {x : Sp} (h : RSp w s b bb x) : w.cell? ⟨s, 2, none⟩ = some (.int .i64 x.to) := cell_of h.head rfl
theorem RSp.c3 {w : World} {s b bb : Nat} {x : Sp} (h : RSp w s b bb x) : w.cell? ⟨s, 3, none⟩ = some (.int .i64 x.here) := cell_of h.head rfl
theorem RSp.f {w : World} {s b bb : Nat} {x : Sp} (h : RSp w s b bb x) (i : Nat) : w.frozen? ⟨s, i, none⟩ = false := free_of h.head
theorem RSp.bd {w : World} {s b bb : Nat} {x : Sp} (h : RSp w s b bb x) : 0 ≤ x.lo ∧ x.lo ≤ x.here ∧ x.here ≤ x.to ∧ x.to ≤ 4194304 := by
  obtain ⟨h1, h2, h3, h4⟩ := h.ok
  have := h.mem.le
  exact ⟨h1, h2, h3, by omega⟩
/-- Its memory is another one. -/
theorem RSp.withMem {w w' : World} {s b bb : Nat} {x : Sp} (h : RSp w s b bb x) {m : Mem} (hm : RMem w' b bb m) (hs : m.size = x.mem.size) (k : Keeps (fun j => j = bb) w w') : RSp w' s b bb { x with mem := m } :=
  ⟨k.heap h.head h.ne2, hm, h.ne1, h.ne2, h.ok.1, h.ok.2.1, h.ok.2.2.1, by show x.to ≤ m.size; rw [hs]; exact h.ok.2.2.2⟩
/-- It ends elsewhere. -/
theorem RSp.withHere {w : World} {s b bb : Nat} {x : Sp} (h : RSp w s b bb x) (n : Int) (h1 : x.lo ≤ n) (h2 : n ≤ x.to) : RSp (w.setCell ⟨s, 3, none⟩ (.int .i64 n)) s b bb { x with here := n } :=
  ⟨hset_same h.head _, h.mem.keeps (Keeps.setCell (S := fun j => j = s) _ _ _ (fun _ => rfl)) (fun e => h.ne1 e.symm) (fun e => h.ne2 e.symm), h.ne1, h.ne2, h.ok.1, h1, h2, h.ok.2.2.2⟩

theorem sp_here (w : World) (s b bb : Nat) (x : Sp) (h : RSp w s b bb x) :
    Calls Tryz.prog 35 #[.pointer (some ⟨s, 0, none⟩)] w fun e w' => e = .returned (.int .i64 x.here) ∧ w = w' := by
  have h3 := h.c3
  go_enter Tryz.func35, Tryz.ntmps35
  go_wp2
  go_ret
  exact ⟨rfl, rfl⟩
theorem sp_here_nil (w : World) :
    Calls Tryz.prog 35 #[.pointer none] w fun e w' => e = .returned (.int .i64 0) ∧ w = w' := by
  go_enter Tryz.func35, Tryz.ntmps35
  go_wp2
  go_ret
  exact ⟨rfl, rfl⟩

/-- What becomes of a world whose space has turned. -/
def SpPost (s b bb : Nat) (r : Sp × Int) (w : World) (e : Ending) (w' : World) : Prop :=
  e = .returned (.int .i64 r.2) ∧ RSp w' s b bb r.1 ∧ Keeps (fun k => k = s ∨ k = bb) w w'

theorem sp_allot (w : World) (s b bb : Nat) (x : Sp) (n : Int) (h : RSp w s b bb x) :
    Calls Tryz.prog 256 #[.pointer (some ⟨s, 0, none⟩), .int .i64 n] w (SpPost s b bb (x.allot n) w) := by
  have H := Lib.hid h
  have h1 := h.c1
  have h2 := h.c2
  have h3 := h.c3
  have hf := h.f 3
  obtain ⟨b1, b2, b3, b4⟩ := h.bd
  clear h
  have HD : Hid (x.allot n = if n > x.to - x.here ∨ n < x.lo - x.here then (x, -8) else ({ x with here := x.here + n }, 0)) := rfl
  generalize x.allot n = r at HD ⊢
  have w1 : IntKind.i64.wrap (x.to - x.here) = x.to - x.here := IntWalk.i64_in _ (by omega)
  have w2 : IntKind.i64.wrap (x.lo - x.here) = x.lo - x.here := IntWalk.i64_in _ (by omega)
  by_cases hc : n > x.to - x.here ∨ n < x.lo - x.here
  · have hr : r = (x, -8) := by rw [HD.out, if_pos hc]
    subst hr
    clear HD
    have hc' : (x.to - x.here < n) ∨ (n ≤ x.to - x.here ∧ n < x.lo - x.here) := by omega
    clear hc
    rcases hc' with hc | ⟨hc, hd⟩
    · have e1 : decide (x.to - x.here < n) = true := by simpa using hc
      go_enter Tryz.func256, Tryz.ntmps256
      go_wp2
      go_quiet (fail)
      go_wp2
      go_ret
      exact ⟨rfl, ⟨H.out.head, ⟨H.out.mem.head, H.out.mem.rest, H.out.mem.ne, H.out.mem.le⟩, H.out.ne1, H.out.ne2, H.out.ok⟩, Keeps.drewN _ _ _⟩
    · have e1 : decide (x.to - x.here < n) = false := by simpa using hc
      have e2 : decide (n < x.lo - x.here) = true := by simpa using hd
      go_enter Tryz.func256, Tryz.ntmps256
      go_wp2
      go_quiet (fail)
      go_wp2
      go_ret
      exact ⟨rfl, ⟨H.out.head, ⟨H.out.mem.head, H.out.mem.rest, H.out.mem.ne, H.out.mem.le⟩, H.out.ne1, H.out.ne2, H.out.ok⟩, Keeps.drewN _ _ _⟩
  · have hr : r = ({ x with here := x.here + n }, 0) := by rw [HD.out, if_neg hc]
    subst hr
    clear HD
    have e1 : decide (x.to - x.here < n) = false := by simp; omega
    have e2 : decide (n < x.lo - x.here) = false := by simp; omega
    have g1 : x.lo ≤ x.here + n := by omega
    have g2 : x.here + n ≤ x.to := by omega
    clear hc
    go_enter Tryz.func256, Tryz.ntmps256
    go_wp2
    go_quiet (fail)
    go_wp2
    go_ret
    refine ⟨rfl, ?_, ?_⟩
    · have := H.out.withHere (x.here + n) g1 g2
      exact ⟨this.head, ⟨this.mem.head, this.mem.rest, this.mem.ne, this.mem.le⟩, this.ne1, this.ne2, this.ok⟩
    · exact (Keeps.drewN _ _ _).trans (Keeps.setCell _ _ _ (fun _ => .inl rfl))
end Go.Proofs.Shed
set_option linter.unusedVariables false
set_option linter.unusedSimpArgs false
set_option maxRecDepth 10000
namespace Go.Proofs.Shed
open Go Go.RowKit Go.Proofs.K

theorem RMem.drew {w : World} {b bb : Nat} {m : Mem} (h : RMem w b bb m) : RMem w.drew b bb m := ⟨h.head, h.rest, h.ne, h.le⟩
theorem RSp.drew {w : World} {s b bb : Nat} {x : Sp} (h : RSp w s b bb x) : RSp w.drew s b bb x := ⟨h.head, h.mem.drew, h.ne1, h.ne2, h.ok⟩
theorem RSp.drewN {w : World} {s b bb : Nat} {x : Sp} (h : RSp w s b bb x) (n : Nat) : RSp (w.drewN n) s b bb x := ⟨h.head, h.mem.drewN n, h.ne1, h.ne2, h.ok⟩
theorem SetPost.drew {b bb : Nat} {r : Mem × Int} {w w' : World} {e : Ending} (h : SetPost b bb r w.drew e w') : SetPost b bb r w e w' := ⟨h.1, h.2.1, (Keeps.drew _ w).trans h.2.2⟩
theorem RSp.allocd {w : World} {s b bb : Nat} {x : Sp} (h : RSp w s b bb x) (o : Obj) : RSp (w.alloc o) s b bb x := h.keeps (Keeps.alloc (fun _ => False) w o) id id id

theorem sp_comma1 (w : World) (s b bb : Nat) (x : Sp) (a : Int) (n : Int) (x0 x1 : Nat) (h : RSp w s b bb x) (c0 : w.cell? ⟨x0, 0, none⟩ = some (.pointer (some ⟨s, 0, none⟩))) (c1 : w.cell? ⟨x1, 0, none⟩ = some (.int .i64 n)) :
    Calls Tryz.prog 155 #[.int .i64 a, .pointer (some ⟨x0, 0, none⟩), .pointer (some ⟨x1, 0, none⟩)] w (SetPost b bb (x.mem.setCell a n) w) := by
  have h0 := h.c0
  have H := Lib.hid h.mem
  clear h
  go_enter Tryz.func155, Tryz.ntmps155
  go_wp2_with fail
  go_still_tail 6, (by kernel_rfl)
  change wpList _ _ _ _ _ w.drew
  go_wp2_with fail
  refine (mem_setCell _ _ _ _ _ _ H.out.drew).mono ?_
  rintro e w' hp
  obtain ⟨rfl, h1, h2⟩ := hp.drew
  have HP := Lib.hid (And.intro h1 h2)
  clear h1 h2 hp
  go_wp2
  go_ret
  exact ⟨rfl, HP.out.1, HP.out.2⟩

theorem sp_put_comma (w : World) (s b bb : Nat) (x : Sp) (n : Int) (x0 x1 : Nat) (h : RSp w s b bb x) (c0 : w.cell? ⟨x0, 0, none⟩ = some (.pointer (some ⟨s, 0, none⟩))) (c1 : w.cell? ⟨x1, 0, none⟩ = some (.int .i64 n)) :
    Calls Tryz.prog 154 #[.pointer (some ⟨s, 0, none⟩), .int .i64 (8), .func (.func 155) #[] #[.pointer (some ⟨x0, 0, none⟩), .pointer (some ⟨x1, 0, none⟩)]] w (SpPost s b bb (x.comma n) w) := by
  have H := Lib.hid h
  have h2 := h.c2
  obtain ⟨b1, b2, b3, b4⟩ := h.bd
  clear h
  have HD : Hid (x.comma n = if 8 ≤ x.to - x.here then (if (x.mem.setCell x.here n).2 ≠ 0 then ({ x with mem := (x.mem.setCell x.here n).1 }, (x.mem.setCell x.here n).2) else Sp.allot { x with mem := (x.mem.setCell x.here n).1 } (8)) else x.allot (8)) := rfl
  have hsz : (x.mem.setCell x.here n).1.size = x.mem.size := Mem.setCell_size _ _ _
  have hcl := Lib.hid (sp_comma1 w s b bb x x.here n x0 x1 H.out c0 c1)
  generalize x.mem.setCell x.here n = q at HD hsz hcl
  generalize x.comma n = r at HD ⊢
  have HS := Lib.hid hsz
  clear hsz c0 c1
  by_cases hle : 8 ≤ x.to - x.here
  · have hq := HD.out
    rw [if_pos hle] at hq
    have HQ := Lib.hid hq
    clear hq HD
    go_enter Tryz.func154, Tryz.ntmps154
    go_wp2_with fail
    refine (sp_here _ _ _ _ _ H.out).mono ?_
    rintro e w1 ⟨rfl, rfl⟩
    go_wp2_with fail
    refine hcl.out.mono ?_
    rintro e w1 ⟨rfl, hm, hk⟩
    have hx := H.out.withMem hm HS.out hk
    have HX := Lib.hid hx
    have HK := Lib.hid (hk.mono (T := fun k => k = s ∨ k = bb) (fun _ _ e => .inr e))
    clear hm hk hx
    by_cases hz : q.2 = 0
    · have hz' : (q.2 != 0) = false := by simp [hz]
      have hq := HQ.out
      rw [if_neg (by simp [hz])] at hq
      subst hq
      go_wp2_with fail
      refine (sp_allot _ _ _ _ _ _ HX.out).mono ?_
      rintro e w2 ⟨rfl, h1, h2⟩
      have HP := Lib.hid (And.intro h1 (HK.out.trans h2))
      clear h1 h2
      go_wp2
      go_ret
      exact ⟨rfl, HP.out.1, HP.out.2⟩
    · have hz' : (q.2 != 0) = true := by simp [hz]
      have hq := HQ.out
      rw [if_pos hz] at hq
      subst hq
      go_wp2
      go_ret
      exact ⟨rfl, HX.out, HK.out⟩
  · have hq := HD.out
    rw [if_neg hle] at hq
    subst hq
    clear HD
    have hle' : x.to - x.here < 8 := by omega
    go_enter Tryz.func154, Tryz.ntmps154
    go_wp2_with fail
    refine (sp_here _ _ _ _ _ H.out).mono ?_
    rintro e w1 ⟨rfl, rfl⟩
    go_wp2_with fail
    refine (sp_allot _ _ _ _ _ _ H.out).mono ?_
    rintro e w2 ⟨rfl, h1, h2⟩
    have HP := Lib.hid (And.intro h1 h2)
    clear h1 h2
    go_wp2
    go_ret
    exact ⟨rfl, HP.out.1, HP.out.2⟩

theorem sp_comma (w : World) (s b bb : Nat) (x : Sp) (n : Int) (h : RSp w s b bb x) :
    Calls Tryz.prog 83 #[.pointer (some ⟨s, 0, none⟩), .int .i64 n] w (SpPost s b bb (x.comma n) w) := by
  have hmf : ∀ (fn : Fn) (first cap : Array Value) (w : World), (Instr.makeFunc fn first cap).run Tryz.prog w = .ok (.func fn first cap) w := fun _ _ _ _ => rfl
  have hp := sp_put_comma ((w.alloc (.cells #[.pointer (some ⟨s, 0, none⟩)] 41)).alloc (.cells #[.int .i64 n] 2)) s b bb x n w.heap.size (w.heap.size + 1)
    ((h.allocd _).allocd _) (by rw [World.cell?_alloc_lt _ _ _ (by simp)]; exact World.cell?_alloc_new _ _ _ _) (by simp)
  have HP := Lib.hid hp
  have HK : Hid (Keeps (fun k => k = s ∨ k = bb) w ((w.alloc (.cells #[.pointer (some ⟨s, 0, none⟩)] 41)).alloc (.cells #[.int .i64 n] 2))) := (Keeps.alloc _ _ _).trans (Keeps.alloc _ _ _)
  clear hp h
  go_enter Tryz.func83, Tryz.ntmps83
  go_wp2_with fail
  refine HP.out.mono ?_
  rintro e w1 ⟨rfl, h1, h2⟩
  have HQ := Lib.hid (And.intro h1 (HK.out.trans h2))
  clear h1 h2
  go_wp2
  go_ret
  exact ⟨rfl, HQ.out.1, HQ.out.2⟩

theorem sp_char1 (w : World) (s b bb : Nat) (x : Sp) (a : Int) (n : Int) (x0 x1 : Nat) (h : RSp w s b bb x) (c0 : w.cell? ⟨x0, 0, none⟩ = some (.pointer (some ⟨s, 0, none⟩))) (c1 : w.cell? ⟨x1, 0, none⟩ = some (.int .i64 n)) :
    Calls Tryz.prog 381 #[.int .i64 a, .pointer (some ⟨x0, 0, none⟩), .pointer (some ⟨x1, 0, none⟩)] w (SetPost b bb (x.mem.setByte a n) w) := by
  have h0 := h.c0
  have H := Lib.hid h.mem
  clear h
  go_enter Tryz.func381, Tryz.ntmps381
  go_wp2_with fail
  go_still_tail 6, (by kernel_rfl)
  change wpList _ _ _ _ _ w.drew
  go_wp2_with fail
  refine (mem_setByte _ _ _ _ _ _ H.out.drew).mono ?_
  rintro e w' hp
  obtain ⟨rfl, h1, h2⟩ := hp.drew
  have HP := Lib.hid (And.intro h1 h2)
  clear h1 h2 hp
  go_wp2
  go_ret
  exact ⟨rfl, HP.out.1, HP.out.2⟩

theorem sp_put_char (w : World) (s b bb : Nat) (x : Sp) (n : Int) (x0 x1 : Nat) (h : RSp w s b bb x) (c0 : w.cell? ⟨x0, 0, none⟩ = some (.pointer (some ⟨s, 0, none⟩))) (c1 : w.cell? ⟨x1, 0, none⟩ = some (.int .i64 n)) :
    Calls Tryz.prog 154 #[.pointer (some ⟨s, 0, none⟩), .int .i64 (1), .func (.func 381) #[] #[.pointer (some ⟨x0, 0, none⟩), .pointer (some ⟨x1, 0, none⟩)]] w (SpPost s b bb (x.char n) w) := by
  have H := Lib.hid h
  have h2 := h.c2
  obtain ⟨b1, b2, b3, b4⟩ := h.bd
  clear h
  have HD : Hid (x.char n = if 1 ≤ x.to - x.here then (if (x.mem.setByte x.here n).2 ≠ 0 then ({ x with mem := (x.mem.setByte x.here n).1 }, (x.mem.setByte x.here n).2) else Sp.allot { x with mem := (x.mem.setByte x.here n).1 } (1)) else x.allot (1)) := rfl
  have hsz : (x.mem.setByte x.here n).1.size = x.mem.size := Mem.setByte_size _ _ _
  have hcl := Lib.hid (sp_char1 w s b bb x x.here n x0 x1 H.out c0 c1)
  generalize x.mem.setByte x.here n = q at HD hsz hcl
  generalize x.char n = r at HD ⊢
  have HS := Lib.hid hsz
  clear hsz c0 c1
  by_cases hle : 1 ≤ x.to - x.here
  · have hq := HD.out
    rw [if_pos hle] at hq
    have HQ := Lib.hid hq
    clear hq HD
    go_enter Tryz.func154, Tryz.ntmps154
    go_wp2_with fail
    refine (sp_here _ _ _ _ _ H.out).mono ?_
    rintro e w1 ⟨rfl, rfl⟩
    go_wp2_with fail
    refine hcl.out.mono ?_
    rintro e w1 ⟨rfl, hm, hk⟩
    have hx := H.out.withMem hm HS.out hk
    have HX := Lib.hid hx
    have HK := Lib.hid (hk.mono (T := fun k => k = s ∨ k = bb) (fun _ _ e => .inr e))
    clear hm hk hx
    by_cases hz : q.2 = 0
    · have hz' : (q.2 != 0) = false := by simp [hz]
      have hq := HQ.out
      rw [if_neg (by simp [hz])] at hq
      subst hq
      go_wp2_with fail
      refine (sp_allot _ _ _ _ _ _ HX.out).mono ?_
      rintro e w2 ⟨rfl, h1, h2⟩
      have HP := Lib.hid (And.intro h1 (HK.out.trans h2))
      clear h1 h2
      go_wp2
      go_ret
      exact ⟨rfl, HP.out.1, HP.out.2⟩
    · have hz' : (q.2 != 0) = true := by simp [hz]
      have hq := HQ.out
      rw [if_pos hz] at hq
      subst hq
      go_wp2
      go_ret
      exact ⟨rfl, HX.out, HK.out⟩
  · have hq := HD.out
    rw [if_neg hle] at hq
    subst hq
    clear HD
    have hle' : x.to - x.here < 1 := by omega
    go_enter Tryz.func154, Tryz.ntmps154
    go_wp2_with fail
    refine (sp_here _ _ _ _ _ H.out).mono ?_
    rintro e w1 ⟨rfl, rfl⟩
    go_wp2_with fail
    refine (sp_allot _ _ _ _ _ _ H.out).mono ?_
    rintro e w2 ⟨rfl, h1, h2⟩
    have HP := Lib.hid (And.intro h1 h2)
    clear h1 h2
    go_wp2
    go_ret
    exact ⟨rfl, HP.out.1, HP.out.2⟩

theorem sp_char (w : World) (s b bb : Nat) (x : Sp) (n : Int) (h : RSp w s b bb x) :
    Calls Tryz.prog 253 #[.pointer (some ⟨s, 0, none⟩), .int .i64 n] w (SpPost s b bb (x.char n) w) := by
  have hmf : ∀ (fn : Fn) (first cap : Array Value) (w : World), (Instr.makeFunc fn first cap).run Tryz.prog w = .ok (.func fn first cap) w := fun _ _ _ _ => rfl
  have hp := sp_put_char ((w.alloc (.cells #[.pointer (some ⟨s, 0, none⟩)] 41)).alloc (.cells #[.int .i64 n] 2)) s b bb x n w.heap.size (w.heap.size + 1)
    ((h.allocd _).allocd _) (by rw [World.cell?_alloc_lt _ _ _ (by simp)]; exact World.cell?_alloc_new _ _ _ _) (by simp)
  have HP := Lib.hid hp
  have HK : Hid (Keeps (fun k => k = s ∨ k = bb) w ((w.alloc (.cells #[.pointer (some ⟨s, 0, none⟩)] 41)).alloc (.cells #[.int .i64 n] 2))) := (Keeps.alloc _ _ _).trans (Keeps.alloc _ _ _)
  clear hp h
  go_enter Tryz.func253, Tryz.ntmps253
  go_wp2_with fail
  refine HP.out.mono ?_
  rintro e w1 ⟨rfl, h1, h2⟩
  have HQ := Lib.hid (And.intro h1 (HK.out.trans h2))
  clear h1 h2
  go_wp2
  go_ret
  exact ⟨rfl, HQ.out.1, HQ.out.2⟩
end Go.Proofs.Shed
set_option linter.unusedVariables false
set_option linter.unusedSimpArgs false
set_option maxRecDepth 10000
namespace Go.Proofs.Shed
open Go Go.RowKit Go.Proofs.K

theorem SpPost.refl {w : World} {s b bb : Nat} {x : Sp} (h : RSp w s b bb x) (n : Int) : SpPost s b bb (x, n) w (.returned (.int .i64 n)) w := ⟨rfl, h, Keeps.refl _ _⟩

theorem sp_align (w : World) (s b bb : Nat) (x : Sp) (h : RSp w s b bb x) :
    Calls Tryz.prog 147 #[.pointer (some ⟨s, 0, none⟩)] w (SpPost s b bb x.align w) := by
  go_enter Tryz.func147, Tryz.ntmps147
  go_wp2_with fail
  go_loopw [2, 3] (fun _ _ wr => ∃ y : Sp, y.align = x.align ∧ RSp wr s b bb y ∧ Keeps (fun k => k = s ∨ k = bb) w wr)
    (fun _ _ wr => match wr.cell? ⟨s, 3, none⟩ with | some (.int _ n) => ((8 - n % 8) % 8).toNat | _ => 0)
  case atStart => exact ⟨x, rfl, h, Keeps.refl _ _⟩
  case round =>
    obtain ⟨y, hy, hr, hw⟩ := hrel
    have c3 := hr.c3
    obtain ⟨b1, b2, b3, b4⟩ := hr.bd
    have HR := Lib.hid hr
    have HY := Lib.hid hy
    clear hr hy
    go_wp2_with fail
    refine (sp_here _ _ _ _ _ HR.out).mono ?_
    rintro e w1 ⟨rfl, rfl⟩
    by_cases h8 : y.here % 8 = 0
    · have h8' : (y.here % 8 != 0) = false := by simp [h8]
      have hz : y.align = (y, 0) := by unfold Sp.align; rw [Sp.alignN, if_pos h8]
      have HZ := Lib.hid hz
      clear hz
      go_wp2_with fail
      go_ret
      rw [← HY.out, HZ.out]
      exact ⟨rfl, HR.out, hw⟩
    · have h8' : (y.here % 8 != 0) = true := by simp [h8]
      go_wp2_with fail
      refine (sp_char _ _ _ _ _ _ HR.out).mono ?_
      rintro e w2 ⟨rfl, g1, g2⟩
      have hw2 := hw.trans g2
      have G1 := Lib.hid g1
      clear g1 g2 hw
      by_cases he : (y.char 0).2 = 0
      · have he' : ((y.char 0).2 != 0) = false := by simp [he]
        have hst := Sp.align_step y h8 he
        have hh := Sp.char_here 0 he
        have c3' := G1.out.c3
        rw [hh] at c3'
        have HH := Lib.hid hst
        clear hh he hst
        go_wp2_with fail
        go_roundw
        case rel => exact ⟨_, by rw [← HY.out, HH.out], G1.out, hw2⟩
        case measure => simp only [c3, c3']; omega
      · have he' : ((y.char 0).2 != 0) = true := by simp [he]
        have hz : y.align = y.char 0 := by unfold Sp.align; rw [Sp.alignN, if_neg h8, if_pos he]
        have HZ := Lib.hid hz
        clear hz he
        go_wp2_with fail
        go_ret
        rw [← HY.out, HZ.out]
        exact ⟨rfl, G1.out, hw2⟩

theorem sp_back (w : World) (s b bb : Nat) (x : Sp) (n : Int) (h : RSp w s b bb x) :
    Calls Tryz.prog 84 #[.pointer (some ⟨s, 0, none⟩), .int .i64 n] w (SpPost s b bb (x.back n) w) := by
  have H := Lib.hid h
  have h1 := h.c1
  have h3 := h.c3
  have hf := h.f 3
  have hb := Lib.hid h.bd
  clear h
  have HD : Hid (x.back n = if n < x.lo ∨ x.here < n then (x, -256) else ({ x with here := n }, 0)) := rfl
  generalize x.back n = r at HD ⊢
  by_cases hc : n < x.lo ∨ x.here < n
  · have hr : r = (x, -256) := by rw [HD.out, if_pos hc]
    subst hr
    clear HD
    have hc' : n < x.lo ∨ (x.lo ≤ n ∧ x.here < n) := by omega
    clear hc
    rcases hc' with hc | ⟨hc, hd⟩
    all_goals
      go_enter Tryz.func84, Tryz.ntmps84
      go_wp2
      go_ret
      exact SpPost.refl H.out _
  · have hr : r = ({ x with here := n }, 0) := by rw [HD.out, if_neg hc]
    subst hr
    clear HD
    have g1 : x.lo ≤ n := by omega
    have g2 : n ≤ x.here := by omega
    clear hc
    go_enter Tryz.func84, Tryz.ntmps84
    go_wp2
    go_ret
    exact ⟨rfl, H.out.withHere n g1 (Int.le_trans g2 hb.out.2.2.1), Keeps.setCell _ _ _ (fun _ => .inl rfl)⟩

theorem sp_back_nil (w : World) (n : Int) : Calls Tryz.prog 84 #[.pointer none, .int .i64 n] w fun e w' => e = .returned (.int .i64 (-256)) ∧ w = w' := by
  go_enter Tryz.func84, Tryz.ntmps84
  go_wp2
  go_ret
  exact ⟨rfl, rfl⟩

/-- New: a space in a new block, on a memory that lies there. -/
def SpNewPost (b bb : Nat) (m : Mem) (lo hi : Int) (w : World) (e : Ending) (w' : World) : Prop :=
  if Sp.newCode m lo hi = 0 then ∃ s, e = .returned (.tuple #[.pointer (some ⟨s, 0, none⟩), .int .i64 0]) ∧ RSp w' s b bb ⟨m, lo, hi, lo⟩ ∧ w.heap.size ≤ s ∧ Keeps (fun _ => False) w w'
  else e = .returned (.tuple #[.pointer none, .int .i64 (-256)]) ∧ w = w'

theorem sp_new (w : World) (b bb : Nat) (m : Mem) (lo hi : Int) (h : RMem w b bb m) :
    Calls Tryz.prog 128 #[.pointer (some ⟨b, 0, none⟩), .int .i64 lo, .int .i64 hi] w (SpNewPost b bb m lo hi w) := by
  have H := Lib.hid h
  have hl := h.lt
  clear h
  by_cases hc : lo < 0 ∨ hi < lo ∨ m.size < hi
  · have hn : SpNewPost b bb m lo hi w = fun e w' => e = .returned (.tuple #[.pointer none, .int .i64 (-256)]) ∧ w = w' := by
      funext e w'
      unfold SpNewPost Sp.newCode
      rw [if_neg (by rw [if_pos hc]; decide)]
    rw [hn]
    clear hn hl
    have hc' : lo < 0 ∨ (0 ≤ lo ∧ hi < lo) ∨ (0 ≤ lo ∧ lo ≤ hi ∧ m.size < hi) := by omega
    clear hc
    rcases hc' with h | ⟨h1, h2⟩ | ⟨h1, h2, h3⟩
    · go_enter Tryz.func128, Tryz.ntmps128
      go_wp2_with fail
      go_ret2
      exact ⟨rfl, rfl⟩
    · go_enter Tryz.func128, Tryz.ntmps128
      go_wp2_with fail
      go_ret2
      exact ⟨rfl, rfl⟩
    · go_enter Tryz.func128, Tryz.ntmps128
      go_wp2_with fail
      refine (mem_size _ _ _ _ H.out).mono ?_
      rintro e w1 ⟨rfl, rfl⟩
      go_wp2_with fail
      go_ret2
      exact ⟨rfl, rfl⟩
  · have hn : SpNewPost b bb m lo hi w = fun e w' => ∃ s, e = .returned (.tuple #[.pointer (some ⟨s, 0, none⟩), .int .i64 0]) ∧ RSp w' s b bb ⟨m, lo, hi, lo⟩ ∧ w.heap.size ≤ s ∧ Keeps (fun _ => False) w w' := by
      funext e w'
      unfold SpNewPost Sp.newCode
      rw [if_pos (by rw [if_neg hc])]
    rw [hn]
    clear hn
    have h1 : 0 ≤ lo := by omega
    have h2 : lo ≤ hi := by omega
    have h3 : hi ≤ m.size := by omega
    clear hc
    go_enter Tryz.func128, Tryz.ntmps128
    go_wp2_with fail
    refine (mem_size _ _ _ _ H.out).mono ?_
    rintro e w1 ⟨rfl, rfl⟩
    go_wp2_with fail
    go_ret2
    exact ⟨w.heap.size, rfl, ⟨halloc_at _ _, H.out.keeps (Keeps.alloc (fun _ => False) _ _) id id, by omega, by omega, h1, Int.le_refl _, h2, h3⟩, Nat.le_refl _, Keeps.alloc _ _ _⟩
theorem sp_new_nil (w : World) (lo hi : Int) : Calls Tryz.prog 128 #[.pointer none, .int .i64 lo, .int .i64 hi] w fun e w' => e = .returned (.tuple #[.pointer none, .int .i64 (-256)]) ∧ w = w' := by
  go_enter Tryz.func128, Tryz.ntmps128
  go_wp2
  go_ret2
  exact ⟨rfl, rfl⟩
end Go.Proofs.Shed
set_option linter.unusedVariables false
set_option linter.unusedSimpArgs false
set_option maxRecDepth 10000
namespace Go.Proofs.Shed
open Go Go.RowKit Go.Proofs.K
theorem sp_chars1 (w : World) (s b bb : Nat) (x : Sp) (a : Int) (t : List UInt8) (ht : t.length ≤ 4611686018427387904) (x0 x1 : Nat) (h : RSp w s b bb x) (c0 : w.cell? ⟨x0, 0, none⟩ = some (.pointer (some ⟨s, 0, none⟩))) (c1 : w.cell? ⟨x1, 0, none⟩ = some (.string ⟨t.toArray⟩)) :
    Calls Tryz.prog 254 #[.int .i64 a, .pointer (some ⟨x0, 0, none⟩), .pointer (some ⟨x1, 0, none⟩)] w (SetPost b bb (x.mem.setText a t) w) := by
  have h0 := h.c0
  have H := Lib.hid h.mem
  clear h
  go_enter Tryz.func254, Tryz.ntmps254
  go_wp2_with fail
  go_still_tail 6, (by kernel_rfl)
  change wpList _ _ _ _ _ w.drew
  go_wp2_with fail
  refine (mem_setText _ _ _ _ _ t H.out.drew (by omega)).mono ?_
  rintro e w' hp
  obtain ⟨rfl, h1, h2⟩ := hp.drew
  have HP := Lib.hid (And.intro h1 h2)
  clear h1 h2 hp
  go_wp2
  go_ret
  exact ⟨rfl, HP.out.1, HP.out.2⟩

theorem sp_put_chars (w : World) (s b bb : Nat) (x : Sp) (t : List UInt8) (ht : t.length ≤ 4611686018427387904) (x0 x1 : Nat) (h : RSp w s b bb x) (c0 : w.cell? ⟨x0, 0, none⟩ = some (.pointer (some ⟨s, 0, none⟩))) (c1 : w.cell? ⟨x1, 0, none⟩ = some (.string ⟨t.toArray⟩)) :
    Calls Tryz.prog 154 #[.pointer (some ⟨s, 0, none⟩), .int .i64 (t.length : Int), .func (.func 254) #[] #[.pointer (some ⟨x0, 0, none⟩), .pointer (some ⟨x1, 0, none⟩)]] w (SpPost s b bb (x.chars t) w) := by
  have H := Lib.hid h
  have h2 := h.c2
  obtain ⟨b1, b2, b3, b4⟩ := h.bd
  clear h
  have HD : Hid (x.chars t = if (t.length : Int) ≤ x.to - x.here then (if (x.mem.setText x.here t).2 ≠ 0 then ({ x with mem := (x.mem.setText x.here t).1 }, (x.mem.setText x.here t).2) else Sp.allot { x with mem := (x.mem.setText x.here t).1 } t.length) else x.allot t.length) := rfl
  have hsz : (x.mem.setText x.here t).1.size = x.mem.size := Mem.setText_size _ _ _
  have hcl := Lib.hid (sp_chars1 w s b bb x x.here t ht x0 x1 H.out c0 c1)
  generalize x.mem.setText x.here t = q at HD hsz hcl
  generalize x.chars t = r at HD ⊢
  have HS := Lib.hid hsz
  clear hsz c0 c1
  by_cases hle : (t.length : Int) ≤ x.to - x.here
  · have hq := HD.out
    rw [if_pos hle] at hq
    have HQ := Lib.hid hq
    clear hq HD
    go_enter Tryz.func154, Tryz.ntmps154
    go_wp2_with fail
    refine (sp_here _ _ _ _ _ H.out).mono ?_
    rintro e w1 ⟨rfl, rfl⟩
    go_wp2_with fail
    refine hcl.out.mono ?_
    rintro e w1 ⟨rfl, hm, hk⟩
    have hx := H.out.withMem hm HS.out hk
    have HX := Lib.hid hx
    have HK := Lib.hid (hk.mono (T := fun k => k = s ∨ k = bb) (fun _ _ e => .inr e))
    clear hm hk hx
    by_cases hz : q.2 = 0
    · have hz' : (q.2 != 0) = false := by simp [hz]
      have hq := HQ.out
      rw [if_neg (by simp [hz])] at hq
      subst hq
      go_wp2_with fail
      refine (sp_allot _ _ _ _ _ _ HX.out).mono ?_
      rintro e w2 ⟨rfl, h1, h2⟩
      have HP := Lib.hid (And.intro h1 (HK.out.trans h2))
      clear h1 h2
      go_wp2
      go_ret
      exact ⟨rfl, HP.out.1, HP.out.2⟩
    · have hz' : (q.2 != 0) = true := by simp [hz]
      have hq := HQ.out
      rw [if_pos hz] at hq
      subst hq
      go_wp2
      go_ret
      exact ⟨rfl, HX.out, HK.out⟩
  · have hq := HD.out
    rw [if_neg hle] at hq
    subst hq
    clear HD
    have hle' : x.to - x.here < (t.length : Int) := by omega
    go_enter Tryz.func154, Tryz.ntmps154
    go_wp2_with fail
    refine (sp_here _ _ _ _ _ H.out).mono ?_
    rintro e w1 ⟨rfl, rfl⟩
    go_wp2_with fail
    refine (sp_allot _ _ _ _ _ _ H.out).mono ?_
    rintro e w2 ⟨rfl, h1, h2⟩
    have HP := Lib.hid (And.intro h1 h2)
    clear h1 h2
    go_wp2
    go_ret
    exact ⟨rfl, HP.out.1, HP.out.2⟩

theorem sp_chars (w : World) (s b bb : Nat) (x : Sp) (t : List UInt8) (ht : t.length ≤ 4611686018427387904) (h : RSp w s b bb x) :
    Calls Tryz.prog 151 #[.pointer (some ⟨s, 0, none⟩), .string ⟨t.toArray⟩] w (SpPost s b bb (x.chars t) w) := by
  have hmf : ∀ (fn : Fn) (first cap : Array Value) (w : World), (Instr.makeFunc fn first cap).run Tryz.prog w = .ok (.func fn first cap) w := fun _ _ _ _ => rfl
  have hp := sp_put_chars ((w.alloc (.cells #[.pointer (some ⟨s, 0, none⟩)] 41)).alloc (.cells #[.string ⟨t.toArray⟩] 9)) s b bb x t ht w.heap.size (w.heap.size + 1)
    ((h.allocd _).allocd _) (by rw [World.cell?_alloc_lt _ _ _ (by simp)]; exact World.cell?_alloc_new _ _ _ _) (by simp)
  have HP := Lib.hid hp
  have HK : Hid (Keeps (fun k => k = s ∨ k = bb) w ((w.alloc (.cells #[.pointer (some ⟨s, 0, none⟩)] 41)).alloc (.cells #[.string ⟨t.toArray⟩] 9))) := (Keeps.alloc _ _ _).trans (Keeps.alloc _ _ _)
  clear hp h
  go_enter Tryz.func151, Tryz.ntmps151
  go_wp2_with fail
  refine HP.out.mono ?_
  rintro e w1 ⟨rfl, h1, h2⟩
  have HQ := Lib.hid (And.intro h1 (HK.out.trans h2))
  clear h1 h2
  go_wp2
  go_ret
  exact ⟨rfl, HQ.out.1, HQ.out.2⟩
end Go.Proofs.Shed
