/- Layer 11: Lookup, Grow. Conditions: the memory lies in two blocks. -/
import Derived.Test.YthhfkhhhclmimaaWClassD
set_option linter.unusedVariables false
set_option linter.unusedSimpArgs false
set_option maxRecDepth 10000
set_option maxHeartbeats 1000000
namespace Go.Proofs.Shed
open Go Go.RowKit Go.Proofs.K

theorem class_lookup (w : World) (b bb : Nat) (m : Mem) (a sel : Int) (h : RMem w b bb m) (ha0 : -9223372036854775808 ≤ a) (ha1 : a ≤ 9223372036854775807) :
    Calls Try.prog 64 #[.pointer (some ⟨b, 0, none⟩), .int .i64 a, .int .i64 sel] w fun e w' => e = getV (Class.lookup m a sel) ∧ Keeps (fun _ => False) w w' := by
  have H := Lib.hid h
  clear h
  have HP := Lib.hid fun w H => class_read w b bb m a H ha0 ha1
  have HD : Hid (Class.lookup m a sel = if (Class.read m a).2 = false then (⟨0, 0, 0⟩, 0, false) else Tab.get m (Class.read m a).1.table sel) := rfl
  generalize Class.lookup m a sel = r at HD ⊢
  generalize Class.read m a = q at HP HD
  obtain ⟨x, ok⟩ := q
  simp only at HD
  unfold readV Cls.val at HP
  cases ok with
  | false =>
    have hr := HD.out
    rw [if_pos rfl] at hr
    subst hr
    clear HD
    go_enter Try.func64, Try.ntmps64
    go_wp2_with fail
    refine (HP.out _ (by exact H.out.allocd _)).mono ?_
    rintro e w1 ⟨rfl, k1⟩
    have hB : w1.heap[w.heap.size]? = some (.cells #[.int .i64 0, .int .i64 0, .int .i64 0] 118 (0, 0)) := k1.heap (halloc_at _ _) id
    have hlt : w.heap.size < w1.heap.size := lt_of_heap hB
    have c0 := cell_of (i := 0) hB rfl
    have c1 := cell_of (i := 1) hB rfl
    have c2 := cell_of (i := 2) hB rfl
    have f0 := free_of (i := 0) hB
    have f1 := free_of (i := 1) hB
    have f2 := free_of (i := 2) hB
    have hB2 := hset3 hB (.int .i64 0) (.int .i64 0) (.int .i64 0)
    have d0 := cell_of (i := 0) hB2 rfl
    have d1 := cell_of (i := 1) hB2 rfl
    have d2 := cell_of (i := 2) hB2 rfl
    have HK := Lib.hid ((((((Keeps.alloc (fun _ => False) w _).trans k1).setNew ⟨w.heap.size, 0, none⟩ (.int .i64 0) (Nat.le_refl _)).setNew ⟨w.heap.size, 1, none⟩ (.int .i64 0) (Nat.le_refl _)).setNew ⟨w.heap.size, 2, none⟩ (.int .i64 0) (Nat.le_refl _)).trans (Keeps.alloc (fun _ => False) _ (.cells #[.int .i64 x.at_, .int .i64 x.parent, .int .i64 x.size, .int .i64 x.table, .int .i64 x.prev] 114)))
    clear hB hB2 k1
    go_wp2_with fail
    exact bodyPost_ret (v := .tuple #[.agg #[.int .i64 0, .int .i64 0, .int .i64 0], .int .i64 0, .bool false]) (by simp [results, Try.results64, go_sem, d0, d1, d2, hlt]) rfl ⟨rfl, HK.out⟩
  | true =>
    have hr := HD.out
    rw [if_neg (by simp)] at hr
    have hg := Lib.hid fun w H => tab_get w b bb m x.table sel H
    generalize Tab.get m x.table sel = q at hr hg
    subst hr
    obtain ⟨⟨y1, y2, y3⟩, n, is⟩ := r
    clear HD
    unfold getV Ent.val at hg
    simp only at hg
    go_enter Try.func64, Try.ntmps64
    go_wp2_with fail
    refine (HP.out _ (by exact H.out.allocd _)).mono ?_
    rintro e w1 ⟨rfl, k1⟩
    have hB0 : w1.heap[w.heap.size]? = some (.cells #[.int .i64 0, .int .i64 0, .int .i64 0] 118 (0, 0)) := k1.heap (halloc_at _ _) id
    have K1 := (Keeps.alloc (fun _ => False) w (.cells #[.int .i64 0, .int .i64 0, .int .i64 0] 118)).trans k1
    have hB1 := (halloc_old w1 (.cells #[.int .i64 x.at_, .int .i64 x.parent, .int .i64 x.size, .int .i64 x.table, .int .i64 x.prev] 114) (lt_of_heap hB0)).trans hB0
    have K2 := K1.trans (Keeps.alloc (fun _ => False) w1 (.cells #[.int .i64 x.at_, .int .i64 x.parent, .int .i64 x.size, .int .i64 x.table, .int .i64 x.prev] 114))
    have HB1 := Lib.hid hB1
    have HK2 := Lib.hid K2
    clear hB0 hB1 K1 K2 k1
    go_wp2_with fail
    refine (hg.out _ (by exact H.out.keeps HK2.out id id)).mono ?_
    rintro e w2 ⟨rfl, k2⟩
    have hB := k2.heap HB1.out id
    have HK0 := HK2.out.trans k2
    have c0 := cell_of (i := 0) hB rfl
    have c1 := cell_of (i := 1) hB rfl
    have c2 := cell_of (i := 2) hB rfl
    have f0 := free_of (i := 0) hB
    have f1 := free_of (i := 1) hB
    have f2 := free_of (i := 2) hB
    have hB2 := hset3 hB (.int .i64 y1) (.int .i64 y2) (.int .i64 y3)
    have d0 := cell_of (i := 0) hB2 rfl
    have d1 := cell_of (i := 1) hB2 rfl
    have d2 := cell_of (i := 2) hB2 rfl
    have HK := Lib.hid (((HK0.setNew ⟨w.heap.size, 0, none⟩ (.int .i64 y1) (Nat.le_refl _)).setNew ⟨w.heap.size, 1, none⟩ (.int .i64 y2) (Nat.le_refl _)).setNew ⟨w.heap.size, 2, none⟩ (.int .i64 y3) (Nat.le_refl _))
    clear hB hB2 HK0 k2
    go_wp2_with fail
    exact bodyPost_ret (v := .tuple #[.agg #[.int .i64 y1, .int .i64 y2, .int .i64 y3], .int .i64 n, .bool is]) (by simp [results, Try.results64, go_sem, d0, d1, d2]) rfl ⟨rfl, HK.out⟩
end Go.Proofs.Shed
