/- Contracts of control.Stack's methods, of slices.Clone and slices.Equal on marks. Conditions: at most 1000 marks. -/
import Derived.Test.YthhfkhhhclmimaaProg
import Derived.Test.YthhfkhhhclmimaaKit
namespace Go.Proofs.Ctl
open Go Go.RowKit Go.Proofs.K

def mk (l : List (Int × Int)) : List Value := l.flatMap fun p => [.int .i64 p.1, .int .i64 p.2]
theorem mk_app (l : List (Int × Int)) (k at_ : Int) : mk (l ++ [(k, at_)]) = mk l ++ [.int .i64 k, .int .i64 at_] := by simp [mk]
theorem mk_len (l : List (Int × Int)) : (mk l).length = l.length * 2 := by induction l with | nil => rfl | cons a l ih => simp [mk] at *; omega
theorem info28 : (Try.prog.info? 28).map (fun i => (i.zero, i.size, i.bytes)) = some (some (.agg #[.int .i64 0, .int .i64 0]), 2, 16) := by kernel_rfl

/-- A stack of marks: the cell b holds a slice that owns them. -/
def Stk (w : World) (b : Nat) (a : Option Addr) (c : Nat) (l : List (Int × Int)) : Prop :=
  w.heap[b]? = some (.cells #[.slice a l.length c] 25 (0, 0)) ∧ Own w 28 2 a l.length c (mk l) ∧ blk a ≠ some b

def OpenPost (b : Nat) (a : Option Addr) (l : List (Int × Int)) (w w' : World) : Prop :=
  ∃ a' c', Stk w' b a' c' l ∧ (blk a' = blk a ∨ ∃ k, blk a' = some k ∧ w.heap.size ≤ k) ∧ Keeps (fun j => j = b ∨ blk a = some j) w w'

theorem Stk.next {w w1 : World} {b : Nat} {a a' : Option Addr} {c c' : Nat} {l l' : List (Int × Int)} (h : Stk w b a c l) (x y : Value)
   (hown' : Own w1 28 2 a' l'.length c' (mk l'))
   (hkeep : Keeps (fun k => blk a = some k) (w.alloc (.cells #[x, y] 28)) w1) (hloc : blk a' = blk a ∨ blk a' = some (w.heap.size + 1)) :
   OpenPost b a l' w (w1.setCell ⟨b, 0, none⟩ (.slice a' l'.length c')) := by
  have hb := lt_of_heap h.1
  have hne : blk a' ≠ some b := by
    rcases hloc with e | e
    · rw [e]; exact h.2.2
    · rw [e]; simp; omega
  have hk : Keeps (fun j => j = b ∨ blk a = some j) w w1 := (Keeps.alloc _ _ _).trans' hkeep (fun i _ h => .inr h)
  have h1 : w1.heap[b]? = some (.cells #[.slice a l.length c] 25 (0, 0)) := 
    hkeep.heap ((halloc_old _ _ hb).trans h.1) h.2.2
  refine ⟨a', c', ⟨hset_same h1 _, ?_, hne⟩, ?_, ?_⟩
  · refine hown'.keeps (Keeps.setCell (S := fun j => j = b) w1 _ _ (fun _ => rfl)) (fun g hg e => hne (by rw [hg, e]))
  · exact hloc.imp id fun e => ⟨_, e, by omega⟩
  · exact hk.trans' (Keeps.setCell (S := fun j => j = b) w1 _ _ (fun _ => rfl)) (fun _ _ h => .inl h)

set_option maxRecDepth 10000 in
theorem open_ok (b : Nat) (k at_ : Int) (a : Option Addr) (c : Nat) (l : List (Int × Int)) (w : World) (h : Stk w b a c l) (hk0 : 0 ≤ k) (hk1 : k ≤ 3) (hl : l.length < 100) :
   Calls Try.prog 10 #[.pointer (some ⟨b,0,none⟩), .int .i64 k, .int .i64 at_] w fun e w' => e = .returned (.int .i64 0) ∧ OpenPost b a (l ++ [(k,at_)]) w w' := by
  have h0 : w.cell? ⟨b, 0, none⟩ = some (.slice a l.length c) := cell_of h.1 rfl
  have hf : w.frozen? ⟨b, 0, none⟩ = false := free_of h.1
  have hown := h.2.1
  have hbl : b < w.heap.size := lt_of_heap h.1
  have H := Lib.hid h
  clear h
  go_enter Try.func10, Try.ntmps10
  go_wp2_with (first
    | (at_builtin; refine wpList_app rfl _ _ 25 rfl 28 _ 2 16 Try.underlying25 info28 rfl (by decide) _ _ _ _ rfl (hown.alloc _) ⟨w.heap.size, 0, none⟩ 1 1 [.int .i64 k, .int .i64 at_] rfl rfl (cell_two_new _ _ _ _) ?c2 ?c3 ?c4 ?_))
  case c2 => intro u hu; simp at hu; rcases hu with rfl | rfl <;> rfl
  case c3 => unfold maxLen; omega
  case c4 => omega
  intro a' c' w1 hown1 hkeep hloc
  have hc1 : w1.cell? ⟨b, 0, none⟩ = some (.slice a l.length c) := hkeep.cell (by rw [World.cell?_alloc_lt _ _ _ hbl]; exact h0) H.out.2.2
  have hf1 : w1.frozen? ⟨b, 0, none⟩ = false := hkeep.frozen (by rw [World.frozen?_alloc_past _ _ _ hbl]; exact hf) (by simp; omega) H.out.2.2
  have HR := Lib.hid (H.out.next (l' := l ++ [(k, at_)]) _ _ (by rw [mk_app]; simpa using hown1) hkeep (by simpa using hloc))
  clear hown1 hkeep hloc hown h0 hf
  go_wp2
  go_ret
  refine ⟨rfl, ?_⟩
  have := HR.out
  simpa using this
set_option maxRecDepth 10000 in
theorem open_bad (b : Nat) (k at_ : Int) (a : Option Addr) (c : Nat) (l : List (Int × Int)) (w : World) (h : Stk w b a c l) (hk0 : k < 0 ∨ 3 < k ∨ 100 ≤ l.length) (hl : l.length ≤ 1000) :
   Calls Try.prog 10 #[.pointer (some ⟨b,0,none⟩), .int .i64 k, .int .i64 at_] w fun e w' => e = .returned (.int .i64 (-22)) ∧ w = w' := by
  have h0 : w.cell? ⟨b, 0, none⟩ = some (.slice a l.length c) := cell_of h.1 rfl
  clear h
  have hA : k < 0 ∨ (0 ≤ k ∧ 3 < k) ∨ (0 ≤ k ∧ k ≤ 3 ∧ 100 ≤ (l.length : Int)) := by omega
  clear hk0
  rcases hA with hk0 | ⟨hk, hk0⟩ | ⟨hk, hk1, hk0⟩
  all_goals
    go_enter Try.func10, Try.ntmps10
    go_wp2
    go_ret
    exact ⟨rfl, rfl⟩

set_option maxRecDepth 10000 in
theorem open_nil (k at_ : Int) (w : World)  :
   Calls Try.prog 10 #[.pointer none, .int .i64 k, .int .i64 at_] w fun e w' => e = .returned (.int .i64 (-22)) ∧ w = w' := by
  go_enter Try.func10, Try.ntmps10
  go_wp2
  go_ret
  exact ⟨rfl, rfl⟩

theorem closed_any (b : Nat) (a : Option Addr) (c : Nat) (l : List (Int × Int)) (w : World) (h : Stk w b a c l) (hl : l.length ≤ 1000) :
    Calls Try.prog 12 #[.pointer (some ⟨b,0,none⟩)] w fun e w' => e = .returned (.bool l.isEmpty) ∧ w = w' := by
  have h0 : w.cell? ⟨b, 0, none⟩ = some (.slice a l.length c) := cell_of h.1 rfl
  clear h
  go_enter Try.func12, Try.ntmps12
  go_wp2
  go_ret
  refine ⟨?_, rfl⟩
  cases l <;> simp
  omega
theorem closed_nil (w : World) :
    Calls Try.prog 12 #[.pointer none] w fun e w' => e = .returned (.bool true) ∧ w = w' := by
  go_enter Try.func12, Try.ntmps12
  go_wp2
  go_ret
  exact ⟨rfl, rfl⟩

def Same (w w' : World) : Prop := ∃ n, w' = w.drewN n

set_option maxRecDepth 10000 in
theorem close_nil (k : Int) (w : World)  :
   Calls Try.prog 9 #[.pointer none, .int .i64 k] w fun e w' => e = .returned (.tuple #[.int .i64 0, .int .i64 (-22)]) ∧ Same w w' := by
  go_enter Try.func9, Try.ntmps9
  go_wp2
  go_quiet (fail)
  go_wp2
  go_ret2
  exact ⟨rfl, _, rfl⟩

set_option maxRecDepth 10000 in
theorem close_empty (b : Nat) (k : Int) (a : Option Addr) (c : Nat) (w : World) (h : Stk w b a c []) :
   Calls Try.prog 9 #[.pointer (some ⟨b,0,none⟩), .int .i64 k] w fun e w' => e = .returned (.tuple #[.int .i64 0, .int .i64 (-22)]) ∧ Same w w' := by
  have h0 : w.cell? ⟨b, 0, none⟩ = some (.slice a 0 c) := cell_of h.1 rfl
  clear h
  go_enter Try.func9, Try.ntmps9
  go_wp2
  go_quiet (fail)
  go_wp2
  go_ret2
  exact ⟨rfl, _, rfl⟩

set_option maxRecDepth 10000 in
theorem close_bad (b : Nat) (k : Int) (a : Option Addr) (c : Nat) (l : List (Int × Int)) (k' at' : Int) (w : World) (h : Stk w b a c (l ++ [(k', at')])) (hk : k' ≠ k) (hl : l.length ≤ 1000):
   Calls Try.prog 9 #[.pointer (some ⟨b,0,none⟩), .int .i64 k] w fun e w' => e = .returned (.tuple #[.int .i64 0, .int .i64 (-22)]) ∧ Same w w' := by
  have h0 : w.cell? ⟨b, 0, none⟩ = some (.slice a (l.length + 1) c) := by have := cell_of h.1 (i := 0) rfl; simpa using this
  have hown := h.2.1
  rw [mk_app] at hown
  obtain ⟨g, rfl⟩ : ∃ g, a = some ⟨g, 0, none⟩ := by
    rcases hown.form with ⟨_, h, _⟩ | ⟨g, _, h, _⟩
    · simp at h
    · exact ⟨_, h⟩
  have hc : w.cell? ⟨g, l.length * 2, none⟩ = some (.int .i64 k') := hown.cell (by rw [← mk_len]; simp)
  have hw : IntKind.i64.wrap (l.length : Int) = l.length := IntWalk.i64_in _ (by omega)
  have hg : ((l.length : Int) + 1 == 0) = false := by simp; omega
  have hg2 : (0 : Int) ≤ l.length := by omega
  have hg3 : (l.length : Int) < l.length + 1 := by omega
  have hg4 : (k' == k) = false := by simpa using hk
  clear h hown hk
  go_enter Try.func9, Try.ntmps9
  go_wp2
  go_quiet (fail)
  go_wp2
  go_ret2
  exact ⟨rfl, _, rfl⟩

def ClosePost (b : Nat) (a : Option Addr) (l : List (Int × Int)) (w w' : World) : Prop :=
  (∃ c', Stk w' b a c' l) ∧ Keeps (fun j => j = b) w w'
theorem Stk.same {w w' : World} {b c : Nat} {a : Option Addr} {l : List (Int × Int)} (h : Stk w b a c l) (e : Same w w') : Stk w' b a c l := by
  obtain ⟨n, rfl⟩ := e
  exact h
theorem close_post {w : World} {b c g : Nat} {l : List (Int × Int)} {k at' : Int} (h : Stk w b (some ⟨g, 0, none⟩) c (l ++ [(k, at')])) (hc : l.length + 1 ≤ c) (n : Nat) :
    ClosePost b (some ⟨g, 0, none⟩) l w ((w.drewN n).setCell ⟨b, 0, none⟩ (.slice (some ⟨g, 0, none⟩) l.length c)) := by
  have hk : Keeps (fun j => j = b) w ((w.drewN n).setCell ⟨b, 0, none⟩ (.slice (some ⟨g, 0, none⟩) l.length c)) :=
    (Keeps.drewN _ w n).trans (Keeps.setCell _ _ _ (fun _ => rfl))
  refine ⟨⟨c, hset_same (w := w.drewN n) h.1 _, ?_, h.2.2⟩, hk⟩
  have hown := h.2.1
  rcases hown.form with ⟨_, h, _⟩ | ⟨g', cur, hv, hh, h1, h2, h3, h4, h5⟩
  · simp at h
  · cases hv
    refine Own.keeps (w := w) ⟨by rw [mk_len], .inr ⟨g, c, cur, rfl, Nat.zero_le _, hh, by omega, h2, h3, ?_⟩⟩ hk (fun g' hg' e => ?_)
    · rw [mk_app] at h4
      have := congrArg (List.take (l.length * 2)) h4
      rw [List.take_take] at this
      rw [List.length_append, List.length_singleton, Nat.min_eq_left (by omega)] at this
      rw [this, ← mk_len, List.take_left]
    · exact h.2.2 (by rw [hg', e])
set_option maxRecDepth 10000 in
theorem close_ok (b : Nat) (a : Option Addr) (c : Nat) (l : List (Int × Int)) (k at' : Int) (w : World) (h : Stk w b a c (l ++ [(k, at')])) (hl : l.length ≤ 1000):
   Calls Try.prog 9 #[.pointer (some ⟨b,0,none⟩), .int .i64 k] w fun e w' => e = .returned (.tuple #[.int .i64 at', .int .i64 0]) ∧ ClosePost b a l w w' := by
  have h0 : w.cell? ⟨b, 0, none⟩ = some (.slice a (l.length + 1) c) := by have := cell_of h.1 (i := 0) rfl; simpa using this
  have hf : w.frozen? ⟨b, 0, none⟩ = false := free_of h.1
  have hown := h.2.1
  rw [mk_app] at hown
  obtain ⟨g, rfl⟩ : ∃ g, a = some ⟨g, 0, none⟩ := by
    rcases hown.form with ⟨_, h, _⟩ | ⟨g, _, h, _⟩
    · simp at h
    · exact ⟨_, h⟩
  have hcap : l.length + 1 ≤ c := by
    rcases hown.form with ⟨_, h, _⟩ | ⟨g, _, h, _, h', _⟩
    · simp at h
    · simpa using h'
  have hc : w.cell? ⟨g, l.length * 2, none⟩ = some (.int .i64 k) := hown.cell (by rw [← mk_len]; simp)
  have hc2 : w.cell? ⟨g, l.length * 2 + 1, none⟩ = some (.int .i64 at') := hown.cell (by rw [← mk_len]; simp)
  have hw : IntKind.i64.wrap (l.length : Int) = l.length := IntWalk.i64_in _ (by omega)
  have hg : ((l.length : Int) + 1 == 0) = false := by simp; omega
  have hg2 : (0 : Int) ≤ l.length := by omega
  have hg3 : (l.length : Int) < l.length + 1 := by omega
  have H := Lib.hid h
  clear h hown
  go_enter Try.func9, Try.ntmps9
  go_wp2
  go_quiet (fail)
  go_wp2
  go_quiet (fail)
  go_wp2
  go_region
  go_wp2
  go_ret2
  exact ⟨rfl, close_post H.out hcap _⟩

theorem mk_get (l : List (Int × Int)) (i : Nat) (h : i < l.length) : (mk l)[i * 2]? = some (.int .i64 l[i].1) ∧ (mk l)[i * 2 + 1]? = some (.int .i64 l[i].2) := by
  induction l generalizing i with
  | nil => simp at h
  | cons p l ih =>
    cases i with
    | zero => exact ⟨rfl, rfl⟩
    | succ i =>
      have := ih i (by simpa using h)
      have e : mk (p :: l) = [.int .i64 p.1, .int .i64 p.2] ++ mk l := rfl
      rw [e, show (i + 1) * 2 = i * 2 + 1 + 1 by omega]
      simpa using this

theorem Own.at_head {w : World} {e : TypeId} {size : Nat} {a : Option Addr} {n c : Nat} {xs : List Value} (h : Own w e size a n c xs) (hn : 0 < n) : ∃ g, a = some ⟨g, 0, none⟩ := by
  rcases h.form with ⟨_, h, _⟩ | ⟨g, _, h, _⟩
  · omega
  · exact ⟨_, h⟩

set_option maxRecDepth 10000 in
theorem equal_true (a a' : Option Addr) (c c' : Nat) (l : List (Int × Int)) (w : World) (h : Own w 28 2 a l.length c (mk l)) (h' : Own w 28 2 a' l.length c' (mk l)) (hl : l.length ≤ 1000) :
   Calls Try.prog 13 #[.slice a l.length c, .slice a' l.length c'] w fun e w' => e = .returned (.bool true) ∧ Same w w' := by
  have hg : ((l.length : Int) != l.length) = false := by simp
  go_enter Try.func13, Try.ntmps13
  go_wp2
  go_loopw [13] (fun i wr => ∃ k : Nat, k ≤ l.length ∧ i = .int .i64 k ∧ Same w wr) (fun i _ => l.length - (intOf i).toNat)
  case atStart => exact ⟨0, Nat.zero_le _, rfl, 0, rfl⟩
  case round =>
    obtain ⟨k, hk, rfl, n, rfl⟩ := hrel
    by_cases hlt : k < l.length
    · obtain ⟨g, rfl⟩ := Own.at_head h (by omega)
      obtain ⟨g', rfl⟩ := Own.at_head h' (by omega)
      have c1 : w.cell? ⟨g, k * 2, none⟩ = some (.int .i64 l[k].1) := h.cell (mk_get l k hlt).1
      have c2 : w.cell? ⟨g, k * 2 + 1, none⟩ = some (.int .i64 l[k].2) := h.cell (mk_get l k hlt).2
      have c3 : w.cell? ⟨g', k * 2, none⟩ = some (.int .i64 l[k].1) := h'.cell (mk_get l k hlt).1
      have c4 : w.cell? ⟨g', k * 2 + 1, none⟩ = some (.int .i64 l[k].2) := h'.cell (mk_get l k hlt).2
      have b1 : (k : Int) < l.length := by omega
      have b2 : (0 : Int) ≤ k := by omega
      go_wp2
      go_quiet (fail)
      go_wp2
      go_roundw
      case rel => exact ⟨k + 1, by omega, by go_num, _, rfl⟩
      case measure => simp [intOf]; omega
    · go_wp2
      go_ret
      exact ⟨rfl, _, rfl⟩

def ClonePost (l : List (Int × Int)) (w : World) (e : Ending) (w' : World) : Prop :=
  ∃ a' c', e = .returned (.slice a' l.length c') ∧ Own w' 28 2 a' l.length c' (mk l) ∧ (∀ g, blk a' = some g → w.heap.size ≤ g) ∧ Keeps (fun _ => False) w w'

set_option maxRecDepth 10000 in
theorem clone_any (a : Option Addr) (c : Nat) (l : List (Int × Int)) (w : World) (h : Own w 28 2 a l.length c (mk l)) (hl : l.length ≤ 1000) :
   Calls Try.prog 11 #[.slice a l.length c] w (ClonePost l w) := by
  have qT : ∀ (w : World) (a : Option Addr) (n c n' c' : Nat), (binOp .eql 22 (.slice a n c) (.slice none n' c')).run Try.prog w = .ok (.bool a.isNone) w := fun w a n c n' c' => Lib.run_eql_slice_nil w _ _ a n c n' c' Try.underlying22
  rcases h.form with ⟨rfl, h1, rfl, h2⟩ | ⟨g, cur, rfl, hh, h1, h2, h3, h4, h5⟩
  · rw [h1]
    go_enter Try.func11, Try.ntmps11
    go_wp2
    go_ret
    exact ⟨none, 0, by rw [h1]; rfl, by rw [h1, h2]; exact Own.nil _ _ _, by simp [blk], Keeps.refl _ _⟩
  · go_enter Try.func11, Try.ntmps11
    have hcells : ∀ (j : Nat) (u : Value), (mk l)[j]? = some u → (w.alloc (.cells #[] 28)).cell? ((⟨g, 0, none⟩ : Addr).add j) = some u := by
      intro j u hu
      have := h.alloc (.cells #[] 28)
      rw [Addr.add_lit, Nat.zero_add]
      exact Own.cell this hu
    go_wp2_with (first
    | (at_builtin; refine wpList_app rfl _ _ 22 rfl 28 _ 2 16 Try.underlying22 info28 rfl (by decide) (some ⟨w.heap.size, 0, none⟩) 0 0 [] rfl ?own ⟨g, 0, none⟩ l.length c (mk l) rfl (mk_len l) hcells ?c2 ?c3 ?c4 ?_))
    case own => exact World.ownsRow_made _ _ _ (Nat.zero_le _) (Nat.zero_le _) rfl
    case c2 => intro u hu; simp [mk] at hu; rcases hu with ⟨_, _, _, rfl | rfl⟩ <;> rfl
    case c3 => unfold maxLen; omega
    case c4 => omega
    intro a' c' w1 hown1 hkeep hloc
    have H : Hid (ClonePost l w (.returned (.slice a' l.length c')) w1) := by
      refine ⟨a', c', rfl, by simpa using hown1, ?_, (Keeps.alloc _ _ _).trans' hkeep (fun i hi e => by simp [blk] at e; omega)⟩
      intro k hk
      rcases hloc with e | e <;> rw [e] at hk <;> simp [blk] at hk <;> omega
    clear hown1 hkeep hloc qT hcells
    go_wp2
    go_ret
    exact H.out
end Go.Proofs.Ctl
