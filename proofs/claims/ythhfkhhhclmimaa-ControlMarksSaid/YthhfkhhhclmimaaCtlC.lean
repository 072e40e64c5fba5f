/- The walk of ControlMarks: it returns true, whatever marks and bools come in. Conditions: the arguments lie in memory as marks and bools. -/
import Derived.Test.YthhfkhhhclmimaaCtlB
namespace Go.Proofs.Ctl
open Go Go.RowKit Go.Proofs.K

theorem OpenPost.keep {b : Nat} {a : Option Addr} {l : List (Int × Int)} {w w' : World} (h : OpenPost b a l w w') : Keeps (fun j => j = b ∨ blk a = some j) w w' := by
  obtain ⟨_, _, _, _, h⟩ := h
  exact h
theorem Rel.fresh_ne {W : World} {B : Nat} {L : List (Int × Int)} {a a' : Option Addr} {c c' : Nat} {w : World} (h : Rel W B L a a' c c' w) {k : Nat} (hk : k = w.heap.size) : ¬ (k = B ∨ blk a = some k) := by
  have := lt_of_heap h.stk.1
  rintro (e | e)
  · omega
  · have := h.stk.2.1.lt e; omega
theorem cells_two {w : World} {b : Nat} {x y : Value} (h1 : w.cell? ⟨b, 0, none⟩ = some x) (h2 : w.cell? ⟨b, 1, none⟩ = some y) : ∀ j u, [x, y][j]? = some u → w.cell? ((⟨b, 0, none⟩ : Addr).add j) = some u := by
  intro j u hu
  match j, hu with
  | 0, hu => simp at hu; subst hu; simpa [Addr.add] using h1
  | 1, hu => simp at hu; subst hu; simpa [Addr.add] using h2
theorem two_one (x y : Int) : ∀ u ∈ [Value.int .i64 x, Value.int .i64 y], u.oneCell' = true := by
  intro u hu
  simp at hu
  rcases hu with rfl | rfl <;> rfl
/-- s has the new mark p, want not yet. -/
def Half (W : World) (B : Nat) (L : List (Int × Int)) (p : Int × Int) (a a' : Option Addr) (c c' : Nat) (w : World) : Prop :=
  Stk w B a c (L ++ [p]) ∧ Own w 28 2 a' L.length c' (mk L) ∧ (∀ g, blk a = some g → W.heap.size ≤ g) ∧ (∀ g, blk a' = some g → W.heap.size ≤ g) ∧ (∀ g, blk a = some g → blk a' ≠ some g) ∧ blk a' ≠ some B ∧ W.heap.size ≤ B ∧ L.length < 100 ∧ Keeps (fun _ => False) W w
theorem Rel.opened {W : World} {B : Nat} {L : List (Int × Int)} {a a' : Option Addr} {c c' : Nat} {w w' : World} {p : Int × Int} (h : Rel W B L a a' c c' w) (hl : L.length < 100) (e : OpenPost B a (L ++ [p]) w w') :
   ∃ a2 c2, Half W B L p a2 a' c2 c' w' := by
  obtain ⟨⟨h1, h2, h3⟩, h4, h5, h6, h7, h8, h9, h10, h11⟩ := h
  obtain ⟨a2, c2, s2, n2, k2⟩ := e
  have hB := lt_of_heap h1
  have n2' : ∀ g, blk a2 = some g → blk a = some g ∨ w.heap.size ≤ g := by
    intro g hg
    rcases n2 with e | ⟨k, e, hk⟩
    · exact .inl (by rw [← e, hg])
    · rw [hg] at e; cases e; exact .inr hk
  refine ⟨a2, c2, s2, ?_, ?_, h6, ?_, h8, h9, hl, ?_⟩
  · refine h4.keeps k2 (fun g hg e => ?_)
    rcases e with rfl | e
    · exact h8 hg
    · exact h7 g e hg
  · intro g hg
    rcases n2' g hg with e | e
    · exact h5 g e
    · exact Nat.le_trans h11.size e
  · intro g hg e
    rcases n2' g hg with e' | e'
    · exact h7 g e' e
    · have := h4.lt e; omega
  · exact h11.trans' k2 (fun i hi e => by
    rcases e with rfl | e
    · omega
    · have := h5 i e; omega)
theorem Half.done {W : World} {B : Nat} {L : List (Int × Int)} {p : Int × Int} {a a' a3 a4 : Option Addr} {c c' c4 : Nat} {w w3 w4 : World} (h : Half W B L p a a' c c' w) (k3 : Keeps (fun _ => False) w w3)
   (n3 : ∀ g, blk a3 = some g → w.heap.size ≤ g) (o4 : Own w4 28 2 a4 (L.length + 1) c4 (mk L ++ [.int .i64 p.1, .int .i64 p.2])) (k4 : Keeps (fun k => blk a3 = some k) w3 w4) (l4 : blk a4 = blk a3 ∨ blk a4 = some w3.heap.size) :
   Rel W B (L ++ [p]) a a4 c c4 w4 := by
  obtain ⟨⟨h1, h2, h3⟩, h4, h5, h6, h7, h8, h9, h10, h11⟩ := h
  have hB := lt_of_heap h1
  have k5 : Keeps (fun _ => False) w w4 := k3.trans' k4 (fun i hi e => by have := n3 i e; omega)
  have l5 : ∀ g, blk a4 = some g → w.heap.size ≤ g := by
    intro g hg
    rcases l4 with e | e <;> rw [e] at hg
    · exact n3 g hg
    · simp at hg; have := k3.size; omega
  refine ⟨⟨k5.heap h1 (fun h => h), h2.keeps k5 (fun _ _ h => h), h3⟩, ?_, h5, fun g hg => Nat.le_trans h11.size (l5 g hg), ?_, ?_, h9, by simp; omega, h11.trans k5⟩
  · obtain ⟨p1, p2⟩ := p
    rw [mk_app]
    simpa using o4
  · intro g hg e
    have := h2.lt hg
    have := l5 g e
    omega
  · intro e
    have := l5 B e
    omega
/-- The arguments: l's marks and closes' bools, as they lie. -/
def ArgL (w : World) (a : Option Addr) (ms : List (Int × Int)) : Prop :=
  ∀ i (h : i < ms.length), ∃ ab ao : Nat, a = some ⟨ab, ao, none⟩ ∧ w.cell? ⟨ab, ao + i * 2, none⟩ = some (.int .i64 ms[i].1) ∧ w.cell? ⟨ab, ao + i * 2 + 1, none⟩ = some (.int .i64 ms[i].2)
def ArgC (w : World) (a : Option Addr) (cs : List Bool) : Prop :=
  ∀ i (h : i < cs.length), ∃ ab ao : Nat, a = some ⟨ab, ao, none⟩ ∧ w.cell? ⟨ab, ao + i, none⟩ = some (.bool cs[i])

theorem equal_n (a a' : Option Addr) (n c c' : Nat) (l : List (Int × Int)) (w : World) (hn : l.length = n) (h : Own w 28 2 a l.length c (mk l)) (h' : Own w 28 2 a' l.length c' (mk l)) (hl : l.length ≤ 1000) :
   Calls Try.prog 13 #[.slice a n c, .slice a' n c'] w fun e w' => e = .returned (.bool true) ∧ Same w w' := by
  subst hn
  exact equal_true a a' c c' l w h h' hl
theorem snoc_or (L : List (Int × Int)) : L = [] ∨ ∃ L' p1 p2, L = L' ++ [(p1, p2)] := by
  rcases List.eq_nil_or_concat L with rfl | ⟨L', ⟨p1, p2⟩, rfl⟩
  · exact .inl rfl
  · exact .inr ⟨L', p1, p2, by simp⟩
def LawPost (W : World) (e : Ending) (w' : World) : Prop := e = .returned (.bool true) ∧ Keeps (fun _ => False) W w'

set_option maxRecDepth 10000 in
theorem law_long (W : World) (la lb : Option Addr) (cla clb : Nat) (n m : Nat) (hn : 300 < n) :
    Calls Try.prog 3 #[.slice la n cla, .slice lb m clb] W (LawPost W) := by
  have hb : decide (300 < (n : Int)) = true := by simp; omega
  go_enter Try.func3, Try.ntmps3
  go_wp2_with fail
  refine (lives_true _).mono ?_
  rintro e w1 ⟨rfl, k1⟩
  have K1 := Lib.hid k1
  clear k1
  go_wp2_with fail
  refine (lives_true _).mono ?_
  rintro e w2 ⟨rfl, k2⟩
  have K2 := Lib.hid (K1.out.trans k2)
  clear k2
  go_wp2
  go_ret
  exact ⟨rfl, K2.out⟩

set_option maxRecDepth 10000 in
set_option maxHeartbeats 4000000 in
theorem law_short (W : World) (la lb : Option Addr) (cla clb : Nat) (ms : List (Int × Int)) (cs : List Bool) (hl : ms.length ≤ 300) (hL : ArgL W la ms) (hC : ArgC W lb cs) :
    Calls Try.prog 3 #[.slice la ms.length cla, .slice lb cs.length clb] W (LawPost W) := by
  have hb : decide (300 < (ms.length : Int)) = false := by simp; omega
  have HL := Lib.hid hL
  have HC := Lib.hid hC
  clear hL hC
  go_enter Try.func3, Try.ntmps3
  go_wp2_with fail
  refine (lives_true _).mono ?_
  rintro e w1 ⟨rfl, k1⟩
  have R0 : Hid (Rel W w1.heap.size [] none none 0 0 (w1.alloc (.cells #[.slice none 0 0] 25))) := by
    refine ⟨⟨halloc_at _ _, Own.nil _ _ _, by simp [blk]⟩, Own.nil _ _ _, by simp [blk], by simp [blk], by simp [blk], by simp [blk], k1.size, by simp, k1.trans (Keeps.alloc _ _ _)⟩
  clear k1
  have Hb := Lib.hid hb
  clear hb
  go_wp2_with fail
  go_loopw [6, 27] (fun v i wr => ∃ (k : Nat) (L : List (Int × Int)) (a a' : Option Addr) (c c' : Nat), k ≤ ms.length ∧ i = .int .i64 k ∧ v = .slice a' L.length c' ∧ Rel W w1.heap.size L a a' c c' wr)
    (fun _ i _ => ms.length - (intOf i).toNat)
  case atStart => exact ⟨0, [], none, none, 0, 0, Nat.zero_le _, rfl, rfl, R0.out⟩
  case round =>
    obtain ⟨k, L, a, a', c, c', hk, rfl, rfl, hR⟩ := hrel
    have hLl := hR.len
    have HR := Lib.hid hR
    clear hR R0
    by_cases hlt : k < ms.length
    · obtain ⟨ab, ao, rfl, m1, m2⟩ := HL.out k hlt
      have b1 : (k : Int) < ms.length := by omega
      have b2 : (0 : Int) ≤ k := by omega
      have c1 := HR.out.2.2.2.2.2.2.2.2.cell m1 (by simp)
      have c2 := HR.out.2.2.2.2.2.2.2.2.cell m2 (by simp)
      clear m1 m2
      generalize hm : ms[k] = m at *
      obtain ⟨mk', ma⟩ := m
      have HM := Lib.hid hm
      clear hm
      by_cases hcl : k < cs.length ∧ cs[k]! = true
      · obtain ⟨hcl1, hcl2⟩ := hcl
        obtain ⟨cb, co, rfl, m3⟩ := HC.out k hcl1
        have c3 := HR.out.2.2.2.2.2.2.2.2.cell m3 (by simp)
        rw [show cs[k] = true by simpa [hcl1] using hcl2] at c3
        have hcb : cb < wr.heap.size := World.block_lt_of_cell? _ _ c3
        clear m3 hcl2
        have b3 : (k : Int) < cs.length := by omega
        rcases snoc_or L with rfl | ⟨L', p1, p2, rfl⟩
        · have HRA := Lib.hid (HR.out.alloc (.cells #[.int .i64 mk', .int .i64 ma] 28))
          go_wp2_with fail
          refine (close_empty _ _ _ _ _ HRA.out.stk).mono ?_
          rintro e w2 ⟨rfl, hs⟩
          have HR2 := Lib.hid (HRA.out.same hs)
          have d1 : w2.cell? ⟨wr.heap.size, 0, none⟩ = some (.int .i64 mk') := (closed_same hs (fun _ => False)).cell (by simp) (by simp)
          have d2 : w2.cell? ⟨w1.heap.size, 0, none⟩ = some (.slice a 0 c) := cell_of HR2.out.stk.1 rfl
          clear HRA HR hs
          go_wp2_with fail
          go_quiet (fail)
          go_wp2_with fail
          refine (closed_any _ _ _ _ _ (HR2.out.same ⟨_, rfl⟩).stk (by simp)).mono ?_
          rintro e w3 ⟨rfl, rfl⟩
          go_wp2_with fail
          refine (equal_true a a' c c' [] _ (HR2.out.same ⟨_, rfl⟩).stk.2.1 (HR2.out.same ⟨_, rfl⟩).own (by simp)).mono ?_
          rintro e w3 ⟨rfl, hs3⟩
          have HR3 := Lib.hid ((HR2.out.same ⟨nq, rfl⟩).same hs3)
          clear HR2 hs3
          go_wp2_with fail
          go_roundw
          case rel => exact ⟨k + 1, [], a, a', c, c', by omega, by go_num, rfl, HR3.out⟩
          case measure => simp [intOf]; omega
        · have hLl' : L'.length + 1 ≤ 100 := by simpa using hLl
          clear hLl
          obtain ⟨g', rfl⟩ := Own.at_head HR.out.own (by simp)
          have hw : IntKind.i64.wrap (L'.length : Int) = L'.length := IntWalk.i64_in _ (by omega)
          have hg : ((L'.length : Int) + 1 == 0) = false := by simp; omega
          have hg2 : (0 : Int) ≤ L'.length := by omega
          have hg3 : (L'.length : Int) < L'.length + 1 := by omega
          have hLen : (L' ++ [(p1, p2)]).length = L'.length + 1 := by simp
          rw [hLen]
          have HRA := Lib.hid (HR.out.alloc (.cells #[.int .i64 mk', .int .i64 ma] 28))
          have hem : (L' ++ [(p1, p2)]).isEmpty = false := by simp
          by_cases hp : p1 = mk'
          · subst hp
            have hcap : L'.length + 1 ≤ c' := by
              rcases HR.out.own.form with ⟨_, h, _⟩ | ⟨_, _, _, _, h, _⟩
              · simp at h
              · simpa using h
            have hcap2 : (L'.length : Int) ≤ c' := by omega
            go_wp2_with fail
            refine (close_ok _ _ _ _ _ _ _ HRA.out.stk (by omega)).mono ?_
            rintro e w2 ⟨rfl, hs⟩
            have e2 : Hid (∃ c2, Rel W w1.heap.size L' a (some ⟨g', 0, none⟩) c2 c' w2) := HRA.out.closed hs
            have d3 : w2.cell? ⟨g', L'.length * 2, none⟩ = some (.int .i64 p1) := hs.2.cell (HRA.out.own.cell (by rw [mk_app, ← mk_len]; simp)) (fun e => HR.out.2.2.2.2.2.1 (by simp at e; simp [blk, e]))
            have d4 : w2.cell? ⟨g', L'.length * 2 + 1, none⟩ = some (.int .i64 p2) := hs.2.cell (HRA.out.own.cell (by rw [mk_app, ← mk_len]; simp)) (fun e => HR.out.2.2.2.2.2.1 (by simp at e; simp [blk, e]))
            have d1 : w2.cell? ⟨wr.heap.size, 0, none⟩ = some (.int .i64 p1) := hs.2.cell (by simp) (fun e => by have := lt_of_heap HR.out.stk.1; simp at e; omega)
            obtain ⟨c2, HR2⟩ := e2.out
            have HR2 := Lib.hid HR2
            have d2 : w2.cell? ⟨w1.heap.size, 0, none⟩ = some (.slice a L'.length c2) := cell_of HR2.out.stk.1 rfl
            clear HRA HR hs e2
            go_wp2_with fail
            go_quiet (fail)
            go_wp2_with fail
            refine (closed_any _ _ _ _ _ (HR2.out.same ⟨_, rfl⟩).stk (by omega)).mono ?_
            rintro e w3 ⟨rfl, rfl⟩
            have hie : L'.isEmpty = ((L'.length : Int) == 0) := by cases L' <;> simp; omega
            rw [hie]
            go_wp2_with fail
            refine (equal_n a (some ⟨g', 0, none⟩) L'.length c2 c' L' _ rfl (HR2.out.same ⟨_, rfl⟩).stk.2.1 (HR2.out.same ⟨_, rfl⟩).own (by omega)).mono ?_
            rintro e w3 ⟨rfl, hs3⟩
            have HR3 := Lib.hid ((HR2.out.same ⟨nq, rfl⟩).same hs3)
            clear HR2 hs3
            go_wp2_with fail
            go_roundw
            case rel => exact ⟨k + 1, L', a, some ⟨g', 0, none⟩, c2, c', by omega, by go_num, by simp, HR3.out⟩
            case measure => simp [intOf]; omega
          · have hp' : (p1 == mk') = false := by simpa using hp
            go_wp2_with fail
            refine (close_bad _ _ _ _ _ _ _ _ HRA.out.stk hp (by omega)).mono ?_
            rintro e w2 ⟨rfl, hs⟩
            have HR2 := Lib.hid (HRA.out.same hs)
            have d1 : w2.cell? ⟨wr.heap.size, 0, none⟩ = some (.int .i64 mk') := (closed_same hs (fun _ => False)).cell (by simp) (by simp)
            have d2 : w2.cell? ⟨w1.heap.size, 0, none⟩ = some (.slice a (L'.length + 1) c) := by have := cell_of HR2.out.stk.1 (i := 0) rfl; rwa [hLen] at this
            have d3 : w2.cell? ⟨g', L'.length * 2, none⟩ = some (.int .i64 p1) := HR2.out.own.cell (by rw [mk_app, ← mk_len]; simp)
            clear HRA HR hs
            go_wp2_with fail
            go_quiet (fail)
            go_wp2_with fail
            refine (closed_any _ _ _ _ _ (HR2.out.same ⟨_, rfl⟩).stk (by simp; omega)).mono ?_
            rintro e w3 ⟨rfl, rfl⟩
            rw [hem]
            go_wp2_with fail
            refine (equal_n a (some ⟨g', 0, none⟩) (L'.length + 1) c c' (L' ++ [(p1, p2)]) _ (by simp) (HR2.out.same ⟨_, rfl⟩).stk.2.1 (HR2.out.same ⟨_, rfl⟩).own (by simp; omega)).mono ?_
            rintro e w3 ⟨rfl, hs3⟩
            have HR3 := Lib.hid ((HR2.out.same ⟨nq, rfl⟩).same hs3)
            clear HR2 hs3
            go_wp2_with fail
            go_roundw
            case rel => exact ⟨k + 1, L' ++ [(p1, p2)], a, some ⟨g', 0, none⟩, c, c', by omega, by go_num, by simp, HR3.out⟩
            case measure => simp [intOf]; omega
      · have hAB : (cs.length ≤ k) ∨ (k < cs.length ∧ ∃ cb co, lb = some ⟨cb, co, none⟩ ∧ wr.cell? ⟨cb, co + k, none⟩ = some (.bool false)) := by
          rcases Nat.lt_or_ge k cs.length with h | h
          · obtain ⟨cb, co, e, m3⟩ := HC.out k h
            refine .inr ⟨h, cb, co, e, ?_⟩
            have : cs[k] = false := by
              cases hv : cs[k] with
              | false => rfl
              | true => exact absurd ⟨h, by simp [h, hv]⟩ hcl
            rw [← this]
            exact HR.out.2.2.2.2.2.2.2.2.cell m3 (by simp)
          · exact .inl h
        clear hcl
        have hO : (0 ≤ mk' ∧ mk' ≤ 3 ∧ L.length < 100) ∨ (mk' < 0 ∨ 3 < mk' ∨ 100 ≤ L.length) := by omega
        have HRA := Lib.hid (HR.out.alloc (.cells #[.int .i64 mk', .int .i64 ma] 28))
        rcases hO with ⟨o1, o2, o3⟩ | hO
        · rcases hAB with hk2 | ⟨hk2, cb, co, rfl, m3⟩
          case' inr => have hcb : cb < wr.heap.size := World.block_lt_of_cell? _ _ m3
          all_goals
            go_wp2_with fail
            refine (open_ok _ _ _ a c L _ HRA.out.stk o1 o2 o3).mono ?_
            rintro e w2 ⟨rfl, hs⟩
            obtain ⟨a2, c2, hh⟩ := HRA.out.opened o3 hs
            have HH := Lib.hid hh
            have d1 : w2.cell? ⟨wr.heap.size, 0, none⟩ = some (.int .i64 mk') := hs.keep.cell (World.cell?_alloc_new _ _ _ _) (HR.out.fresh_ne rfl)
            have d2 : w2.cell? ⟨wr.heap.size, 1, none⟩ = some (.int .i64 ma) := hs.keep.cell (World.cell?_alloc_new _ _ _ _) (HR.out.fresh_ne rfl)
            clear hh hs HRA HR
            go_wp2_with fail
            have hL1000 : L.length ≤ 1000 := by omega
            have hL2 : L.length + 1 ≤ maxLen := by unfold maxLen; omega
            have hL3 : (L.length + 1) * 16 ≤ 140737488355328 := by omega
            have hlt2 : wr.heap.size < w2.heap.size := World.block_lt_of_cell? _ _ d1
            have hoA : Own w2.drew 28 2 a' L.length c' (mk L) := HH.out.2.1
            have hoB : ∀ o, Own (w2.drew.alloc o) 28 2 a' L.length c' (mk L) := fun o => hoA.alloc o
            have d1B : ∀ o, (w2.drew.alloc o).cell? ⟨wr.heap.size, 0, none⟩ = some (.int .i64 mk') := fun o => (World.cell?_alloc_lt _ _ _ hlt2).trans d1
            have d2B : ∀ o, (w2.drew.alloc o).cell? ⟨wr.heap.size, 1, none⟩ = some (.int .i64 ma) := fun o => (World.cell?_alloc_lt _ _ _ hlt2).trans d2
            have d1A : w2.drew.cell? ⟨wr.heap.size, 0, none⟩ = some (.int .i64 mk') := d1
            have d2A : w2.drew.cell? ⟨wr.heap.size, 1, none⟩ = some (.int .i64 ma) := d2
            have n1 : (w2.drew.alloc (.cells #[.int .i64 mk', .int .i64 ma] 28)).cell? ⟨w2.heap.size, 0, none⟩ = some (.int .i64 mk') := World.cell?_alloc_new w2.drew _ _ _
            have n2 : (w2.drew.alloc (.cells #[.int .i64 mk', .int .i64 ma] 28)).cell? ⟨w2.heap.size, 1, none⟩ = some (.int .i64 ma) := World.cell?_alloc_new w2.drew _ _ _
            go_region_law (first
              | (go_simp; go_at_call 11; refine (clone_any a' c' L _ ?_ hL1000).mono ?_; (first | exact hoA | exact hoB _); rintro e w3 ⟨a3, c3, rfl, o3, n3, k3⟩
                 have f1 : w3.cell? ⟨wr.heap.size, 0, none⟩ = some (.int .i64 mk') := by first | exact k3.cell d1A (fun h => h) | exact k3.cell (d1B _) (fun h => h)
                 have f2 : w3.cell? ⟨wr.heap.size, 1, none⟩ = some (.int .i64 ma) := by first | exact k3.cell d2A (fun h => h) | exact k3.cell (d2B _) (fun h => h)
                 first
                   | (have e3 : w3.cell? ⟨w2.heap.size, 0, none⟩ = some (.int .i64 mk') := k3.cell n1 (fun h => h)
                      have e4 : w3.cell? ⟨w2.heap.size, 1, none⟩ = some (.int .i64 ma) := k3.cell n2 (fun h => h))
                   | skip)
              | (refine step_app rfl (.tmp 116) (.tmp 118) 22 rfl 28 _ 2 16 Try.underlying22 info28 rfl (by decide) _ _ _ (mk L) rfl ?_ ⟨_, 0, none⟩ 1 1 [.int .i64 mk', .int .i64 ma] rfl rfl ?_ (two_one _ _) hL2 hL3 ?_
                 (first | exact o3 | exact o3.alloc _)
                 (first | exact cell_two_new _ _ _ _ | exact cells_two e3 e4)
                 intro a4 c4 w4 o4 k4 l4
                 have HR4 : Hid (Rel W w1.heap.size (L ++ [(mk', ma)]) a2 a4 c2 c4 w4) := by
                   first
                     | exact HH.out.done ((Keeps.drew _ w2).trans k3) n3 o4 k4 l4
                     | exact HH.out.done (((Keeps.drew _ w2).trans k3).trans (Keeps.alloc _ _ _)) n3 o4 k4 l4
                     | exact HH.out.done (((Keeps.drew _ w2).trans (Keeps.alloc _ _ _)).trans k3) (fun g hg => Nat.le_trans (Keeps.alloc (fun _ => False) w2.drew _).size (n3 g hg)) o4 k4 l4
                     | exact HH.out.done ((((Keeps.drew _ w2).trans (Keeps.alloc _ _ _)).trans k3).trans (Keeps.alloc _ _ _)) (fun g hg => Nat.le_trans (Keeps.alloc (fun _ => False) w2.drew _).size (n3 g hg)) o4 k4 l4
                 clear o4 k4 l4 o3 n3 k3))
            all_goals
              have hLen : (L ++ [(mk', ma)]).length = L.length + 1 := by simp
              have hem : (L ++ [(mk', ma)]).isEmpty = false := by simp
              have hg : ((L.length : Int) + 1 == 0) = false := by simp; omega
              have d4 : w4.cell? ⟨w1.heap.size, 0, none⟩ = some (.slice a2 (L.length + 1) c2) := by have := cell_of HR4.out.stk.1 (i := 0) rfl; rwa [hLen] at this
              go_wp2_with fail
              refine (closed_any _ _ _ _ _ HR4.out.stk (by simp; omega)).mono ?_
              rintro e w5 ⟨rfl, rfl⟩
              rw [hem]
              go_wp2_with fail
              refine (equal_n a2 a4 (L.length + 1) c2 c4 (L ++ [(mk', ma)]) _ (by simp) HR4.out.stk.2.1 HR4.out.own (by simp; omega)).mono ?_
              rintro e w5 ⟨rfl, hs3⟩
              have HR5 := Lib.hid (HR4.out.same hs3)
              clear HR4 hs3
              go_wp2_with fail
              go_roundw
              case rel => exact ⟨k + 1, L ++ [(mk', ma)], a2, a4, c2, c4, by omega, by go_num, by simp, HR5.out⟩
              case measure => simp [intOf]; omega
        · have hO' := Lib.hid hO
          clear hO
          rcases hAB with hk2 | ⟨hk2, cb, co, rfl, m3⟩
          case' inr => have hcb : cb < wr.heap.size := World.block_lt_of_cell? _ _ m3
          all_goals
            go_wp2_with fail
            all_goals
              refine (open_bad _ _ _ a c L _ HRA.out.stk hO'.out (by omega)).mono ?_
              rintro e w2 ⟨rfl, rfl⟩
              have d2 : (wr.alloc (.cells #[.int .i64 mk', .int .i64 ma] 28)).cell? ⟨w1.heap.size, 0, none⟩ = some (.slice a L.length c) := cell_of HRA.out.stk.1 rfl
              go_wp2_with fail
              all_goals first
                | (exfalso; have := hO'.out; omega)
                | (refine (closed_any _ _ _ _ _ HRA.out.stk (by omega)).mono ?_
                   rintro e w3 ⟨rfl, rfl⟩
                   have hie : L.isEmpty = ((L.length : Int) == 0) := by cases L <;> simp; omega
                   rw [hie]
                   go_wp2_with fail
                   refine (equal_n a a' L.length c c' L _ rfl HRA.out.stk.2.1 HRA.out.own (by omega)).mono ?_
                   rintro e w3 ⟨rfl, hs3⟩
                   have HR3 := Lib.hid (HRA.out.same hs3)
                   clear HRA hs3
                   go_wp2_with fail
                   go_roundw
                   case rel => exact ⟨k + 1, L, a, a', c, c', by omega, by go_num, by simp, HR3.out⟩
                   case measure => simp [intOf]; omega)
    · go_wp2_with fail
      refine (close_nil _ _).mono ?_
      rintro e w2 ⟨rfl, n2, rfl⟩
      go_wp2_with fail
      refine (open_nil _ _ _).mono ?_
      rintro e w3 ⟨rfl, rfl⟩
      go_wp2_with fail
      refine (closed_nil _).mono ?_
      rintro e w3 ⟨rfl, rfl⟩
      go_wp2
      go_ret
      exact ⟨rfl, HR.out.2.2.2.2.2.2.2.2.trans (Keeps.drewN _ _ _)⟩
end Go.Proofs.Ctl
