/- Layer 11: slices.IndexFunc, ContainsFunc on classes; Is. Conditions: the slice owns its row; the closure's contract. Layer 11: Lookup, Grow. Conditions: the memory lies in two blocks. Layer 11: make5. Conditions: the space lies in three blocks. PRINTED by wip/tools/gen_make5.py Layer 11: New. Conditions: the space lies in three blocks. -/
import Derived.Test.YthhfkhhhclmimaaGreatDoorMWCA
set_option linter.unusedVariables false
set_option linter.unusedSimpArgs false
set_option maxRecDepth 10000
set_option maxHeartbeats 1000000
namespace Go.Proofs.Shed
open Go Go.RowKit Go.Proofs.K

theorem OwnCls.get {W w : World} {a : Option Addr} {c : Nat} {L : List Cls} (h : OwnCls W w a c L) {k : Nat} (hk : k < L.length) :
    ∃ g, a = some ⟨g, 0, none⟩ ∧ L.length ≤ c ∧ ∀ f, f < 5 → w.cell? ⟨g, k * 5 + f, none⟩ = some (.int .i64 (L[k].fld f)) := by
  rcases h.1.form with ⟨rfl, hn, rfl, hx⟩ | ⟨g, cur, rfl, hh, hnc, hcm, hcs, htk, hxl⟩
  · omega
  · exact ⟨g, rfl, hnc, fun f hf => h.1.cell (clsV_get L k f hk hf)⟩

theorem idx_func (W w : World) (a : Option Addr) (c : Nat) (L : List Cls) (k : Nat) (cap : Array Value) (p : Cls → Bool) (h : OwnCls W w a c L) (hb : L.length ≤ 10000000)
    (hen : ∀ (args : Array Value) (w : World), (callFunc k args).run Tryz.prog w = .ok (.enter k args) w)
    (hf : ∀ w', Keeps (fun _ => False) w w' → ∀ x ∈ L, Calls Tryz.prog k (#[x.val] ++ cap) w' fun e w'' => e = .returned (.bool (p x)) ∧ Keeps (fun _ => False) w' w'') :
    Calls Tryz.prog 393 #[.slice a L.length c, .func (.func k) #[] cap] w fun e w' => (∃ i, e = .returned (.int .i64 i) ∧ decide (0 ≤ i) = L.any p) ∧ Keeps (fun _ => False) w w' := by
  have HO := Lib.hid h
  have HF := Lib.hid hf
  clear h hf
  go_enter Tryz.func393, Tryz.ntmps393
  go_wp2_with fail
  go_loopw [8] (fun iv wr => ∃ (j : Nat), iv = .int .i64 j ∧ j ≤ L.length ∧ (∀ (i : Nat) (hi : i < L.length), i < j → p L[i] = false) ∧ Keeps (fun _ => False) w wr)
      (fun iv _ => L.length - (intOf iv).toNat)
  case atStart => exact ⟨0, rfl, by omega, fun i hi h => by omega, Keeps.refl _ _⟩
  case round =>
    obtain ⟨j, rfl, hj, hp, hk⟩ := hrel
    have HP := Lib.hid hp
    have HK := Lib.hid hk
    clear hp hk
    by_cases hlt : j < L.length
    · have hO := HO.out.keeps HK.out (fun _ _ => id)
      obtain ⟨g, rfl, hnc, F⟩ := hO.get hlt
      have F0 := F 0 (by omega)
      have F1 := F 1 (by omega)
      have F2 := F 2 (by omega)
      have F3 := F 3 (by omega)
      have F4 := F 4 (by omega)
      have hcl := HF.out wr HK.out L[j] (List.getElem_mem hlt)
      obtain ⟨r, hr⟩ : ∃ r, p L[j] = r := ⟨_, rfl⟩
      rw [hr] at hcl
      have hpj' := Lib.hid hr
      clear hr
      generalize L[j] = x at F0 F1 F2 F3 F4 hcl
      unfold Cls.val at hcl
      simp only [Cls.fld, Nat.add_zero] at F0 F1 F2 F3 F4
      have HC := Lib.hid hcl
      clear hcl F hO
      go_wp2_with fail
      refine HC.out.mono ?_
      rintro e w2 ⟨rfl, k2⟩
      have K2 := Lib.hid (HK.out.trans k2)
      clear k2
      cases r with
      | true =>
        go_wp2_with fail
        go_ret
        refine ⟨⟨j, rfl, ?_⟩, K2.out⟩
        have : L.any p = true := List.any_eq_true.2 ⟨L[j], List.getElem_mem hlt, hpj'.out⟩
        rw [this]
        simp
      | false =>
        go_wp2_with fail
        go_roundw
        case rel =>
          refine ⟨j + 1, by go_num, by omega, fun i hi hij => ?_, K2.out⟩
          by_cases e : i = j
          · subst e; exact hpj'.out
          · exact HP.out i hi (by omega)
        case measure => simp [intOf]; omega
    · have hge : j = L.length := by omega
      subst hge
      have hall : L.any p = false := by
        rw [List.any_eq_false]
        intro x hx
        obtain ⟨i, hi, rfl⟩ := List.getElem_of_mem hx
        rw [HP.out i hi hi]
        simp
      have HA := Lib.hid hall
      clear hall
      go_wp2_with fail
      go_ret
      exact ⟨⟨-1, rfl, by rw [HA.out]; rfl⟩, HK.out⟩

theorem cont_func (W w : World) (a : Option Addr) (c : Nat) (L : List Cls) (k : Nat) (cap : Array Value) (p : Cls → Bool) (h : OwnCls W w a c L) (hb : L.length ≤ 10000000)
    (hen : ∀ (args : Array Value) (w : World), (callFunc k args).run Tryz.prog w = .ok (.enter k args) w)
    (hf : ∀ w', Keeps (fun _ => False) w w' → ∀ x ∈ L, Calls Tryz.prog k (#[x.val] ++ cap) w' fun e w'' => e = .returned (.bool (p x)) ∧ Keeps (fun _ => False) w' w'') :
    Calls Tryz.prog 280 #[.slice a L.length c, .func (.func k) #[] cap] w fun e w' => e = .returned (.bool (L.any p)) ∧ Keeps (fun _ => False) w w' := by
  have HI := Lib.hid (idx_func W w a c L k cap p h hb hen hf)
  clear h hen hf
  generalize L.any p = r at HI ⊢
  go_enter Tryz.func280, Tryz.ntmps280
  go_wp2_with fail
  refine HI.out.mono ?_
  rintro e w1 ⟨⟨i, rfl, hi⟩, k1⟩
  have K1 := Lib.hid k1
  have HD := Lib.hid hi
  clear k1 hi
  go_wp2_with fail
  go_ret
  exact ⟨by rw [← HD.out]; rfl, K1.out⟩

theorem app1 (x y : Value) : (#[x] ++ #[y] : Array Value) = #[x, y] := rfl
theorem app2 (x y z : Value) : (#[x] ++ #[y, z] : Array Value) = #[x, y, z] := rfl

theorem class_is1 (w : World) (x : Cls) (a : Int) (x0 : Nat) (c0 : w.cell? ⟨x0, 0, none⟩ = some (.int .i64 a)) :
    Calls Tryz.prog 281 #[x.val, .pointer (some ⟨x0, 0, none⟩)] w fun e w' => e = .returned (.bool (decide (x.at_ = a))) ∧ Keeps (fun _ => False) w w' := by
  unfold Cls.val
  have hb := World.block_lt_of_cell? _ _ c0
  go_enter Tryz.func281, Tryz.ntmps281
  go_wp2_with fail
  go_ret
  exact ⟨rfl, Keeps.alloc _ _ _⟩

theorem class_is (w : World) (b bb : Nat) (m : Mem) (root a : Int) (h : RMem w b bb m) :
    Calls Tryz.prog 178 #[.pointer (some ⟨b, 0, none⟩), .int .i64 root, .int .i64 a] w fun e w' => e = .returned (.bool (Class.is m root a)) ∧ Keeps (fun _ => False) w w' := by
  have hmf : ∀ (fn : Fn) (first cap : Array Value) (w : World), (Instr.makeFunc fn first cap).run Tryz.prog w = .ok (.func fn first cap) w := fun _ _ _ _ => rfl
  have hA := Lib.hid (class_all (w.alloc (.cells #[.int .i64 a] 2)) b bb m root (h.allocd _))
  have hlen := Class.all_len m root
  have hle := h.le
  have HD : Hid (Class.is m root a = (Class.all m root).any fun c => decide (c.at_ = a)) := rfl
  generalize Class.is m root a = r at HD ⊢
  generalize Class.all m root = L at hA HD hlen
  have c0 := World.cell?_alloc_new w #[.int .i64 a] 2 0
  have C0 := Lib.hid c0
  clear h c0
  go_enter Tryz.func178, Tryz.ntmps178
  go_wp2_with fail
  refine hA.out.mono ?_
  rintro e w1 ⟨s, c, rfl, ho, hk⟩
  have HC := Lib.hid (cont_func w w1 s c L 281 #[.pointer (some ⟨w.heap.size, 0, none⟩)] (fun c => decide (c.at_ = a)) ⟨ho.1, fun g hg => Nat.le_trans (by simp) (ho.2 g hg)⟩ (by omega) Tryz.call281 (fun w' k' x _ => by
    rw [app1]
    exact class_is1 w' x a w.heap.size ((hk.trans k').cell C0.out id)))
  have HK := Lib.hid ((Keeps.alloc (fun _ => False) w (.cells #[.int .i64 a] 2)).trans hk)
  clear ho hk
  go_wp2_with fail
  refine HC.out.mono ?_
  rintro e w2 ⟨rfl, k2⟩
  have K2 := Lib.hid (HK.out.trans k2)
  clear k2
  go_wp2_with fail
  go_ret
  exact ⟨by rw [HD.out]; rfl, K2.out⟩
end Go.Proofs.Shed
set_option linter.unusedVariables false
set_option linter.unusedSimpArgs false
set_option maxRecDepth 10000
set_option maxHeartbeats 1000000
namespace Go.Proofs.Shed
open Go Go.RowKit Go.Proofs.K

theorem class_lookup (w : World) (b bb : Nat) (m : Mem) (a sel : Int) (h : RMem w b bb m) (ha0 : -9223372036854775808 ≤ a) (ha1 : a ≤ 9223372036854775807) :
    Calls Tryz.prog 275 #[.pointer (some ⟨b, 0, none⟩), .int .i64 a, .int .i64 sel] w fun e w' => e = getV (Class.lookup m a sel) ∧ Keeps (fun _ => False) w w' := by
  have H := Lib.hid h
  clear h
  have HP := Lib.hid fun w H => class_read w b bb m a H ha0 ha1
  have HD : Hid (Class.lookup m a sel = if (Class.read m a).2 = false then (⟨0, 0, 0⟩, 0, false) else Tab.get m (Class.read m a).1.table sel) := rfl
  generalize Class.lookup m a sel = r at HD ⊢
  generalize Class.read m a = q at HP HD
  obtain ⟨x, ok⟩ := q
  simp only at HD
  unfold readV Cls.val at HP
  cases ok with
  | false =>
    have hr := HD.out
    rw [if_pos rfl] at hr
    subst hr
    clear HD
    go_enter Tryz.func275, Tryz.ntmps275
    go_wp2_with fail
    refine (HP.out _ (by exact H.out.allocd _)).mono ?_
    rintro e w1 ⟨rfl, k1⟩
    have hB : w1.heap[w.heap.size]? = some (.cells #[.int .i64 0, .int .i64 0, .int .i64 0] 279 (0, 0)) := k1.heap (halloc_at _ _) id
    have hlt : w.heap.size < w1.heap.size := lt_of_heap hB
    have c0 := cell_of (i := 0) hB rfl
    have c1 := cell_of (i := 1) hB rfl
    have c2 := cell_of (i := 2) hB rfl
    have f0 := free_of (i := 0) hB
    have f1 := free_of (i := 1) hB
    have f2 := free_of (i := 2) hB
    have hB2 := hset3 hB (.int .i64 0) (.int .i64 0) (.int .i64 0)
    have d0 := cell_of (i := 0) hB2 rfl
    have d1 := cell_of (i := 1) hB2 rfl
    have d2 := cell_of (i := 2) hB2 rfl
    have HK := Lib.hid ((((((Keeps.alloc (fun _ => False) w _).trans k1).setNew ⟨w.heap.size, 0, none⟩ (.int .i64 0) (Nat.le_refl _)).setNew ⟨w.heap.size, 1, none⟩ (.int .i64 0) (Nat.le_refl _)).setNew ⟨w.heap.size, 2, none⟩ (.int .i64 0) (Nat.le_refl _)).trans (Keeps.alloc (fun _ => False) _ (.cells #[.int .i64 x.at_, .int .i64 x.parent, .int .i64 x.size, .int .i64 x.table, .int .i64 x.prev] 214)))
    clear hB hB2 k1
    go_wp2_with fail
    exact bodyPost_ret (v := .tuple #[.agg #[.int .i64 0, .int .i64 0, .int .i64 0], .int .i64 0, .bool false]) (by simp [results, Tryz.results275, go_sem, d0, d1, d2, hlt]) rfl ⟨rfl, HK.out⟩
  | true =>
    have hr := HD.out
    rw [if_neg (by simp)] at hr
    have hg := Lib.hid fun w H => tab_get w b bb m x.table sel H
    generalize Tab.get m x.table sel = q at hr hg
    subst hr
    obtain ⟨⟨y1, y2, y3⟩, n, is⟩ := r
    clear HD
    unfold getV Ent.val at hg
    simp only at hg
    go_enter Tryz.func275, Tryz.ntmps275
    go_wp2_with fail
    refine (HP.out _ (by exact H.out.allocd _)).mono ?_
    rintro e w1 ⟨rfl, k1⟩
    have hB0 : w1.heap[w.heap.size]? = some (.cells #[.int .i64 0, .int .i64 0, .int .i64 0] 279 (0, 0)) := k1.heap (halloc_at _ _) id
    have K1 := (Keeps.alloc (fun _ => False) w (.cells #[.int .i64 0, .int .i64 0, .int .i64 0] 279)).trans k1
    have hB1 := (halloc_old w1 (.cells #[.int .i64 x.at_, .int .i64 x.parent, .int .i64 x.size, .int .i64 x.table, .int .i64 x.prev] 214) (lt_of_heap hB0)).trans hB0
    have K2 := K1.trans (Keeps.alloc (fun _ => False) w1 (.cells #[.int .i64 x.at_, .int .i64 x.parent, .int .i64 x.size, .int .i64 x.table, .int .i64 x.prev] 214))
    have HB1 := Lib.hid hB1
    have HK2 := Lib.hid K2
    clear hB0 hB1 K1 K2 k1
    go_wp2_with fail
    refine (hg.out _ (by exact H.out.keeps HK2.out id id)).mono ?_
    rintro e w2 ⟨rfl, k2⟩
    have hB := k2.heap HB1.out id
    have HK0 := HK2.out.trans k2
    have c0 := cell_of (i := 0) hB rfl
    have c1 := cell_of (i := 1) hB rfl
    have c2 := cell_of (i := 2) hB rfl
    have f0 := free_of (i := 0) hB
    have f1 := free_of (i := 1) hB
    have f2 := free_of (i := 2) hB
    have hB2 := hset3 hB (.int .i64 y1) (.int .i64 y2) (.int .i64 y3)
    have d0 := cell_of (i := 0) hB2 rfl
    have d1 := cell_of (i := 1) hB2 rfl
    have d2 := cell_of (i := 2) hB2 rfl
    have HK := Lib.hid (((HK0.setNew ⟨w.heap.size, 0, none⟩ (.int .i64 y1) (Nat.le_refl _)).setNew ⟨w.heap.size, 1, none⟩ (.int .i64 y2) (Nat.le_refl _)).setNew ⟨w.heap.size, 2, none⟩ (.int .i64 y3) (Nat.le_refl _))
    clear hB hB2 HK0 k2
    go_wp2_with fail
    exact bodyPost_ret (v := .tuple #[.agg #[.int .i64 y1, .int .i64 y2, .int .i64 y3], .int .i64 n, .bool is]) (by simp [results, Tryz.results275, go_sem, d0, d1, d2]) rfl ⟨rfl, HK.out⟩
end Go.Proofs.Shed
set_option linter.unusedVariables false
set_option linter.unusedSimpArgs false
set_option maxRecDepth 10000
set_option maxHeartbeats 4000000
namespace Go.Proofs.Shed
open Go Go.RowKit Go.Proofs.K


theorem index5_0 (a b c d e : Value) (w : World) : (Instr.index 345 (.agg #[a, b, c, d, e]) (.int .i64 0)).run Tryz.prog w = .ok a w := by rfl
theorem index5_1 (a b c d e : Value) (w : World) : (Instr.index 345 (.agg #[a, b, c, d, e]) (.int .i64 1)).run Tryz.prog w = .ok b w := by rfl
theorem index5_2 (a b c d e : Value) (w : World) : (Instr.index 345 (.agg #[a, b, c, d, e]) (.int .i64 2)).run Tryz.prog w = .ok c w := by rfl
theorem index5_3 (a b c d e : Value) (w : World) : (Instr.index 345 (.agg #[a, b, c, d, e]) (.int .i64 3)).run Tryz.prog w = .ok d w := by rfl
theorem index5_4 (a b c d e : Value) (w : World) : (Instr.index 345 (.agg #[a, b, c, d, e]) (.int .i64 4)).run Tryz.prog w = .ok e w := by rfl

theorem class_make5 (w : World) (s b bb : Nat) (x : Sp) (root parent slots : Int) (h : RSp w s b bb x) (hp0 : -9223372036854775808 ≤ parent) (hp1 : parent ≤ 9223372036854775807) :
    Calls Tryz.prog 384 #[.pointer (some ⟨s, 0, none⟩), .int .i64 root, .int .i64 parent, .int .i64 slots] w (MkPost s b bb (Class.make5 x root parent slots) w) := by
  have H := Lib.hid h
  have h0 := h.c0
  clear h
  have HD : Hid (Class.make5 x root parent slots = if (x.mem.cell root).2 ≠ 0 then (x, 0, (x.mem.cell root).2)
    else if parent = 0 then (if (Tab.new x slots).2.2 ≠ 0 then ((Tab.new x slots).1, 0, (Tab.new x slots).2.2) else Class.make5.cells (Tab.new x slots).1 [357694784579, parent, 8, (Tab.new x slots).2.1, (x.mem.cell root).1] (Tab.new x slots).1.here)
    else if Class.is x.mem root parent = false then (x, 0, -2048)
    else (if (Tab.copy x (Class.read x.mem parent).1.table).2.2 ≠ 0 then ((Tab.copy x (Class.read x.mem parent).1.table).1, 0, (Tab.copy x (Class.read x.mem parent).1.table).2.2) else Class.make5.cells (Tab.copy x (Class.read x.mem parent).1.table).1 [357694784579, parent, (Class.read x.mem parent).1.size, (Tab.copy x (Class.read x.mem parent).1.table).2.1, (x.mem.cell root).1] (Tab.copy x (Class.read x.mem parent).1.table).1.here)) := rfl
  generalize Class.make5 x root parent slots = r at HD ⊢
  have hc := Lib.hid (mem_cell w b bb x.mem root H.out.mem)
  generalize x.mem.cell root = q at hc HD
  obtain ⟨prev, e0⟩ := q
  simp only at HD hc
  have ix0 := index5_0
  have ix1 := index5_1
  have ix2 := index5_2
  have ix3 := index5_3
  have ix4 := index5_4
  go_enter Tryz.func384, Tryz.ntmps384
  go_wp2_with fail
  refine hc.out.mono ?_
  rintro e1 w1 ⟨rfl, rfl⟩
  by_cases he0 : e0 = 0
  · have hr := HD.out
    rw [if_neg (by simpa using he0)] at hr
    have he0' : (e0 != 0) = false := by simp [he0]
    clear he0
    by_cases hp : parent = 0
    · rw [if_pos hp] at hr
      have hp' : (parent == 0) = true := by simp [hp]
      clear HD hp hp0 hp1
      have hN := Lib.hid (tab_new w s b bb x slots H.out)
      generalize Tab.new x slots = q at hN hr
      obtain ⟨y, u, e⟩ := q
      simp only at hr
      unfold MkPost at hN
      simp only at hN
      obtain ⟨sz, hsz⟩ : ∃ sz : Int, sz = 8 := ⟨_, rfl⟩
      rw [← hsz] at hr
      have HR := Lib.hid hr
      have HZ := Lib.hid hsz
      clear hr hsz
      go_wp2_with fail
      refine hN.out.mono ?_
      rintro e1 w1 ⟨rfl, s1, k1⟩
      have S := Lib.hid s1
      have K := Lib.hid k1
      clear s1 k1 h0
      by_cases he : e = 0
      · have hr := HR.out
        rw [if_neg (by simpa using he)] at hr
        have he' : (e != 0) = false := by simp [he]
        clear HR
        have HR := Lib.hid hr
        clear hr he
        go_wp2_with fail
        rw [← HZ.out]
        refine (sp_here _ _ _ _ _ S.out).mono ?_
        rintro e1 w1 ⟨rfl, rfl⟩
        go_wp2_with fail
        refine wp_loop_rounds 6 ?_
        rw [rounds_succ]
        go_wp2_with fail
        have hc := sp_comma _ s b bb _ (357694784579) S.out
        have hr := HR.out
        rw [Class.make5.cells] at hr
        generalize Sp.comma _ (357694784579) = qq at hc hr
        obtain ⟨y, e⟩ := qq
        have HC := Lib.hid hc
        clear hc HR
        simp only at hr
        refine HC.out.mono ?_
        rintro e1 w1 ⟨rfl, s1, k1⟩
        have K1 := Lib.hid (K.out.trans k1)
        clear K
        have K := K1
        have S := Lib.hid s1
        clear s1 k1 K1 HC
        by_cases he : e = 0
        · rw [if_neg (by simpa using he)] at hr
          have he' : (e != 0) = false := by simp [he]
          have HR := Lib.hid hr
          clear hr he
          go_wp2_with fail
          rw [rounds_succ]
          go_wp2_with fail
          have hc := sp_comma _ s b bb _ (parent) S.out
          have hr := HR.out
          rw [Class.make5.cells] at hr
          generalize Sp.comma _ (parent) = qq at hc hr
          obtain ⟨y, e⟩ := qq
          have HC := Lib.hid hc
          clear hc HR
          simp only at hr
          refine HC.out.mono ?_
          rintro e1 w1 ⟨rfl, s1, k1⟩
          have K1 := Lib.hid (K.out.trans k1)
          clear K
          have K := K1
          have S := Lib.hid s1
          clear s1 k1 K1 HC
          by_cases he : e = 0
          · rw [if_neg (by simpa using he)] at hr
            have he' : (e != 0) = false := by simp [he]
            have HR := Lib.hid hr
            clear hr he
            go_wp2_with fail
            rw [rounds_succ]
            go_wp2_with fail
            have hc := sp_comma _ s b bb _ (sz) S.out
            have hr := HR.out
            rw [Class.make5.cells] at hr
            generalize Sp.comma _ (sz) = qq at hc hr
            obtain ⟨y, e⟩ := qq
            have HC := Lib.hid hc
            clear hc HR
            simp only at hr
            refine HC.out.mono ?_
            rintro e1 w1 ⟨rfl, s1, k1⟩
            have K1 := Lib.hid (K.out.trans k1)
            clear K
            have K := K1
            have S := Lib.hid s1
            clear s1 k1 K1 HC
            by_cases he : e = 0
            · rw [if_neg (by simpa using he)] at hr
              have he' : (e != 0) = false := by simp [he]
              have HR := Lib.hid hr
              clear hr he
              go_wp2_with fail
              rw [rounds_succ]
              go_wp2_with fail
              have hc := sp_comma _ s b bb _ (u) S.out
              have hr := HR.out
              rw [Class.make5.cells] at hr
              generalize Sp.comma _ (u) = qq at hc hr
              obtain ⟨y, e⟩ := qq
              have HC := Lib.hid hc
              clear hc HR
              simp only at hr
              refine HC.out.mono ?_
              rintro e1 w1 ⟨rfl, s1, k1⟩
              have K1 := Lib.hid (K.out.trans k1)
              clear K
              have K := K1
              have S := Lib.hid s1
              clear s1 k1 K1 HC
              by_cases he : e = 0
              · rw [if_neg (by simpa using he)] at hr
                have he' : (e != 0) = false := by simp [he]
                have HR := Lib.hid hr
                clear hr he
                go_wp2_with fail
                rw [rounds_succ]
                go_wp2_with fail
                have hc := sp_comma _ s b bb _ (prev) S.out
                have hr := HR.out
                rw [Class.make5.cells] at hr
                generalize Sp.comma _ (prev) = qq at hc hr
                obtain ⟨y, e⟩ := qq
                have HC := Lib.hid hc
                clear hc HR
                simp only at hr
                refine HC.out.mono ?_
                rintro e1 w1 ⟨rfl, s1, k1⟩
                have K1 := Lib.hid (K.out.trans k1)
                clear K
                have K := K1
                have S := Lib.hid s1
                clear s1 k1 K1 HC
                by_cases he : e = 0
                · rw [if_neg (by simpa using he)] at hr
                  have he' : (e != 0) = false := by simp [he]
                  have HR := Lib.hid hr
                  clear hr he
                  go_wp2_with fail
                  rw [rounds_succ]
                  go_wp2_with fail
                  go_ret2
                  refine ⟨?_, ?_, K.out⟩
                  · rw [HR.out]; rfl
                  · rw [HR.out]; exact S.out
                · rw [if_pos he] at hr
                  have he' : (e != 0) = true := by simp [he]
                  have HR := Lib.hid hr
                  clear hr he
                  go_wp2_with fail
                  go_ret2
                  refine ⟨?_, ?_, K.out⟩
                  · rw [HR.out]; rfl
                  · rw [HR.out]; exact S.out
              · rw [if_pos he] at hr
                have he' : (e != 0) = true := by simp [he]
                have HR := Lib.hid hr
                clear hr he
                go_wp2_with fail
                go_ret2
                refine ⟨?_, ?_, K.out⟩
                · rw [HR.out]; rfl
                · rw [HR.out]; exact S.out
            · rw [if_pos he] at hr
              have he' : (e != 0) = true := by simp [he]
              have HR := Lib.hid hr
              clear hr he
              go_wp2_with fail
              go_ret2
              refine ⟨?_, ?_, K.out⟩
              · rw [HR.out]; rfl
              · rw [HR.out]; exact S.out
          · rw [if_pos he] at hr
            have he' : (e != 0) = true := by simp [he]
            have HR := Lib.hid hr
            clear hr he
            go_wp2_with fail
            go_ret2
            refine ⟨?_, ?_, K.out⟩
            · rw [HR.out]; rfl
            · rw [HR.out]; exact S.out
        · rw [if_pos he] at hr
          have he' : (e != 0) = true := by simp [he]
          have HR := Lib.hid hr
          clear hr he
          go_wp2_with fail
          go_ret2
          refine ⟨?_, ?_, K.out⟩
          · rw [HR.out]; rfl
          · rw [HR.out]; exact S.out
      · have hr := HR.out
        rw [if_pos he] at hr
        have he' : (e != 0) = true := by simp [he]
        clear HR
        have HR := Lib.hid hr
        clear hr he
        go_wp2_with fail
        go_ret2
        refine ⟨?_, ?_, K.out⟩
        · rw [HR.out]; rfl
        · rw [HR.out]; exact S.out
    · rw [if_neg hp] at hr
      have hp' : (parent == 0) = false := by simp [hp]
      clear HD hp
      have hI := Lib.hid (class_is w b bb x.mem root parent H.out.mem)
      cases hi : Class.is x.mem root parent with
      | false =>
        rw [hi] at hI
        rw [if_pos hi] at hr
        have HR := Lib.hid hr
        clear hr hi
        go_wp2_with fail
        refine hI.out.mono ?_
        rintro e1 w1 ⟨rfl, k1⟩
        have S := Lib.hid (H.out.keeps k1 id id id)
        have K := Lib.hid (k1.mono (T := fun k => k = s ∨ k = bb) (fun _ _ => False.elim))
        clear k1
        go_wp2_with fail
        go_ret2
        refine ⟨?_, ?_, K.out⟩
        · rw [HR.out]; rfl
        · rw [HR.out]; exact S.out
      | true =>
        rw [hi] at hI
        rw [if_neg (by rw [hi]; simp)] at hr
        clear hi
        have hrd := Lib.hid fun w H => class_read w b bb x.mem parent H hp0 hp1
        generalize Class.read x.mem parent = q at hrd hr
        obtain ⟨c, ok⟩ := q
        unfold readV Cls.val at hrd
        simp only at hrd hr
        have hN := Lib.hid fun w H => tab_copy w s b bb x c.table H
        generalize Tab.copy x c.table = q at hN hr
        obtain ⟨y, u, e⟩ := q
        simp only at hr
        unfold MkPost at hN
        simp only at hN
        have HR := Lib.hid hr
        clear hr
        go_wp2_with fail
        refine hI.out.mono ?_
        rintro e1 w1 ⟨rfl, k1⟩
        have S1 := Lib.hid (H.out.keeps k1 id id id)
        have c1 := k1.cell h0 id
        have KA := Lib.hid k1
        clear k1 h0
        go_wp2_with fail
        refine (hrd.out w1 S1.out.mem).mono ?_
        rintro e1 w2 ⟨rfl, k2⟩
        obtain ⟨sz, hsz⟩ : ∃ sz : Int, sz = c.size := ⟨_, rfl⟩
        have k3 := k2.trans (Keeps.alloc (fun _ => False) w2 (.cells #[.int .i64 c.at_, .int .i64 c.parent, .int .i64 c.size, .int .i64 c.table, .int .i64 c.prev] 214))
        have S2 := Lib.hid (S1.out.keeps k3 id id id)
        have KB := Lib.hid (KA.out.trans k3)
        clear k2 k3 c1
        go_wp2_with fail
        refine (hN.out _ S2.out).mono ?_
        rintro e1 w1 ⟨rfl, s1, k1⟩
        have S := Lib.hid s1
        have K := Lib.hid ((KB.out.mono (T := fun k => k = s ∨ k = bb) (fun _ _ => False.elim)).trans k1)
        clear s1 k1
        rw [← hsz] at HR
        have HZ := Lib.hid hsz
        clear hsz
        by_cases he : e = 0
        · have hr := HR.out
          rw [if_neg (by simpa using he)] at hr
          have he' : (e != 0) = false := by simp [he]
          clear HR
          have HR := Lib.hid hr
          clear hr he
          go_wp2_with fail
          rw [← HZ.out]
          refine (sp_here _ _ _ _ _ S.out).mono ?_
          rintro e1 w1 ⟨rfl, rfl⟩
          go_wp2_with fail
          refine wp_loop_rounds 6 ?_
          rw [rounds_succ]
          go_wp2_with fail
          have hc := sp_comma _ s b bb _ (357694784579) S.out
          have hr := HR.out
          rw [Class.make5.cells] at hr
          generalize Sp.comma _ (357694784579) = qq at hc hr
          obtain ⟨y, e⟩ := qq
          have HC := Lib.hid hc
          clear hc HR
          simp only at hr
          refine HC.out.mono ?_
          rintro e1 w1 ⟨rfl, s1, k1⟩
          have K1 := Lib.hid (K.out.trans k1)
          clear K
          have K := K1
          have S := Lib.hid s1
          clear s1 k1 K1 HC
          by_cases he : e = 0
          · rw [if_neg (by simpa using he)] at hr
            have he' : (e != 0) = false := by simp [he]
            have HR := Lib.hid hr
            clear hr he
            go_wp2_with fail
            rw [rounds_succ]
            go_wp2_with fail
            have hc := sp_comma _ s b bb _ (parent) S.out
            have hr := HR.out
            rw [Class.make5.cells] at hr
            generalize Sp.comma _ (parent) = qq at hc hr
            obtain ⟨y, e⟩ := qq
            have HC := Lib.hid hc
            clear hc HR
            simp only at hr
            refine HC.out.mono ?_
            rintro e1 w1 ⟨rfl, s1, k1⟩
            have K1 := Lib.hid (K.out.trans k1)
            clear K
            have K := K1
            have S := Lib.hid s1
            clear s1 k1 K1 HC
            by_cases he : e = 0
            · rw [if_neg (by simpa using he)] at hr
              have he' : (e != 0) = false := by simp [he]
              have HR := Lib.hid hr
              clear hr he
              go_wp2_with fail
              rw [rounds_succ]
              go_wp2_with fail
              have hc := sp_comma _ s b bb _ (sz) S.out
              have hr := HR.out
              rw [Class.make5.cells] at hr
              generalize Sp.comma _ (sz) = qq at hc hr
              obtain ⟨y, e⟩ := qq
              have HC := Lib.hid hc
              clear hc HR
              simp only at hr
              refine HC.out.mono ?_
              rintro e1 w1 ⟨rfl, s1, k1⟩
              have K1 := Lib.hid (K.out.trans k1)
              clear K
              have K := K1
              have S := Lib.hid s1
              clear s1 k1 K1 HC
              by_cases he : e = 0
              · rw [if_neg (by simpa using he)] at hr
                have he' : (e != 0) = false := by simp [he]
                have HR := Lib.hid hr
                clear hr he
                go_wp2_with fail
                rw [rounds_succ]
                go_wp2_with fail
                have hc := sp_comma _ s b bb _ (u) S.out
                have hr := HR.out
                rw [Class.make5.cells] at hr
                generalize Sp.comma _ (u) = qq at hc hr
                obtain ⟨y, e⟩ := qq
                have HC := Lib.hid hc
                clear hc HR
                simp only at hr
                refine HC.out.mono ?_
                rintro e1 w1 ⟨rfl, s1, k1⟩
                have K1 := Lib.hid (K.out.trans k1)
                clear K
                have K := K1
                have S := Lib.hid s1
                clear s1 k1 K1 HC
                by_cases he : e = 0
                · rw [if_neg (by simpa using he)] at hr
                  have he' : (e != 0) = false := by simp [he]
                  have HR := Lib.hid hr
                  clear hr he
                  go_wp2_with fail
                  rw [rounds_succ]
                  go_wp2_with fail
                  have hc := sp_comma _ s b bb _ (prev) S.out
                  have hr := HR.out
                  rw [Class.make5.cells] at hr
                  generalize Sp.comma _ (prev) = qq at hc hr
                  obtain ⟨y, e⟩ := qq
                  have HC := Lib.hid hc
                  clear hc HR
                  simp only at hr
                  refine HC.out.mono ?_
                  rintro e1 w1 ⟨rfl, s1, k1⟩
                  have K1 := Lib.hid (K.out.trans k1)
                  clear K
                  have K := K1
                  have S := Lib.hid s1
                  clear s1 k1 K1 HC
                  by_cases he : e = 0
                  · rw [if_neg (by simpa using he)] at hr
                    have he' : (e != 0) = false := by simp [he]
                    have HR := Lib.hid hr
                    clear hr he
                    go_wp2_with fail
                    rw [rounds_succ]
                    go_wp2_with fail
                    go_ret2
                    refine ⟨?_, ?_, K.out⟩
                    · rw [HR.out]; rfl
                    · rw [HR.out]; exact S.out
                  · rw [if_pos he] at hr
                    have he' : (e != 0) = true := by simp [he]
                    have HR := Lib.hid hr
                    clear hr he
                    go_wp2_with fail
                    go_ret2
                    refine ⟨?_, ?_, K.out⟩
                    · rw [HR.out]; rfl
                    · rw [HR.out]; exact S.out
                · rw [if_pos he] at hr
                  have he' : (e != 0) = true := by simp [he]
                  have HR := Lib.hid hr
                  clear hr he
                  go_wp2_with fail
                  go_ret2
                  refine ⟨?_, ?_, K.out⟩
                  · rw [HR.out]; rfl
                  · rw [HR.out]; exact S.out
              · rw [if_pos he] at hr
                have he' : (e != 0) = true := by simp [he]
                have HR := Lib.hid hr
                clear hr he
                go_wp2_with fail
                go_ret2
                refine ⟨?_, ?_, K.out⟩
                · rw [HR.out]; rfl
                · rw [HR.out]; exact S.out
            · rw [if_pos he] at hr
              have he' : (e != 0) = true := by simp [he]
              have HR := Lib.hid hr
              clear hr he
              go_wp2_with fail
              go_ret2
              refine ⟨?_, ?_, K.out⟩
              · rw [HR.out]; rfl
              · rw [HR.out]; exact S.out
          · rw [if_pos he] at hr
            have he' : (e != 0) = true := by simp [he]
            have HR := Lib.hid hr
            clear hr he
            go_wp2_with fail
            go_ret2
            refine ⟨?_, ?_, K.out⟩
            · rw [HR.out]; rfl
            · rw [HR.out]; exact S.out
        · have hr := HR.out
          rw [if_pos he] at hr
          have he' : (e != 0) = true := by simp [he]
          clear HR
          have HR := Lib.hid hr
          clear hr he
          go_wp2_with fail
          go_ret2
          refine ⟨?_, ?_, K.out⟩
          · rw [HR.out]; rfl
          · rw [HR.out]; exact S.out
  · have hr := HD.out
    rw [if_pos he0] at hr
    have he0' : (e0 != 0) = true := by simp [he0]
    have HR := Lib.hid hr
    clear hr he0 HD
    go_wp2_with fail
    go_ret2
    refine ⟨?_, ?_, Keeps.refl _ _⟩
    · rw [HR.out]; rfl
    · rw [HR.out]; exact H.out
end Go.Proofs.Shed
set_option linter.unusedVariables false
set_option linter.unusedSimpArgs false
set_option maxRecDepth 10000
set_option maxHeartbeats 1000000
namespace Go.Proofs.Shed
open Go Go.RowKit Go.Proofs.K

theorem class_new_nil (w : World) (root parent slots : Int) : Calls Tryz.prog 261 #[.pointer none, .int .i64 root, .int .i64 parent, .int .i64 slots] w fun e w' => e = .returned (.tuple #[.int .i64 0, .int .i64 (-256)]) ∧ w = w' := by
  go_enter Tryz.func261, Tryz.ntmps261
  go_wp2
  go_ret2
  exact ⟨rfl, rfl⟩

theorem class_new (w : World) (s b bb : Nat) (x : Sp) (root parent slots : Int) (h : RSp w s b bb x) (hp0 : -9223372036854775808 ≤ parent) (hp1 : parent ≤ 9223372036854775807) :
    Calls Tryz.prog 261 #[.pointer (some ⟨s, 0, none⟩), .int .i64 root, .int .i64 parent, .int .i64 slots] w (MkPost s b bb (Class.new x root parent slots) w) := by
  have H := Lib.hid h
  clear h
  have HD : Hid (Class.new x root parent slots = if (Class.make5 x root parent slots).2.2 ≠ 0 then (((Class.make5 x root parent slots).1.back x.here).1, 0, (Class.make5 x root parent slots).2.2)
    else ({ (Class.make5 x root parent slots).1 with mem := ((Class.make5 x root parent slots).1.mem.setCell root (Class.make5 x root parent slots).2.1).1 }, (Class.make5 x root parent slots).2.1, ((Class.make5 x root parent slots).1.mem.setCell root (Class.make5 x root parent slots).2.1).2)) := rfl
  generalize Class.new x root parent slots = r at HD ⊢
  have hN := Lib.hid (class_make5 w s b bb x root parent slots H.out hp0 hp1)
  generalize Class.make5 x root parent slots = q at hN HD
  obtain ⟨y, a, e⟩ := q
  simp only at HD
  unfold MkPost at hN
  simp only at hN
  go_enter Tryz.func261, Tryz.ntmps261
  go_wp2_with fail
  refine (sp_here _ _ _ _ _ H.out).mono ?_
  rintro e1 w1 ⟨rfl, rfl⟩
  go_wp2_with fail
  refine hN.out.mono ?_
  rintro e1 w1 ⟨rfl, s1, k1⟩
  have S := Lib.hid s1
  have K := Lib.hid k1
  have c0 := s1.c0
  clear s1 k1
  by_cases he : e = 0
  · have hr := HD.out
    rw [if_neg (by simpa using he)] at hr
    have he' : (e != 0) = false := by simp [he]
    have HR := Lib.hid hr
    clear hr he HD
    go_wp2_with fail
    refine (mem_setCell w1 b bb y.mem root a S.out.mem).mono ?_
    rintro e1 w2 ⟨rfl, m2, k2⟩
    have S2 := Lib.hid (S.out.withMem' m2 (Mem.setCell_size _ _ _) k2)
    have K2 := Lib.hid (K.out.trans (k2.mono (T := fun k => k = s ∨ k = bb) (fun _ _ e => .inr e)))
    clear m2 k2
    go_wp2_with fail
    go_ret2
    exact ⟨by rw [HR.out]; rfl, by rw [HR.out]; exact S2.out, K2.out⟩
  · have hr := HD.out
    rw [if_pos he] at hr
    have he' : (e != 0) = true := by simp [he]
    have HR := Lib.hid hr
    clear hr he HD
    go_wp2_with fail
    refine (sp_back w1 s b bb y x.here S.out).mono ?_
    rintro e1 w2 ⟨rfl, s2, k2⟩
    have S2 := Lib.hid s2
    have K2 := Lib.hid (K.out.trans k2)
    clear s2 k2
    go_wp2_with fail
    go_ret2
    exact ⟨by rw [HR.out]; rfl, by rw [HR.out]; exact S2.out, K2.out⟩
end Go.Proofs.Shed
