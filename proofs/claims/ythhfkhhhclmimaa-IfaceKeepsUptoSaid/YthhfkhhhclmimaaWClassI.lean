/- Layer 11: Set. Conditions: the memory lies in two blocks. -/
import Derived.Test.YthhfkhhhclmimaaWClassH
set_option linter.unusedVariables false
set_option linter.unusedSimpArgs false
set_option maxRecDepth 10000
set_option maxHeartbeats 2000000
namespace Go.Proofs.Shed
open Go Go.RowKit Go.Proofs.K

theorem class_set1 (w : World) (b bb : Nat) (m : Mem) (x : Cls) (sel : Int) (x0 x1 : Nat) (h : RMem w b bb m) (c0 : w.cell? ⟨x0, 0, none⟩ = some (.pointer (some ⟨b, 0, none⟩))) (c1 : w.cell? ⟨x1, 0, none⟩ = some (.int .i64 sel)) :
    Calls Try.prog 57 #[x.val, .pointer (some ⟨x0, 0, none⟩), .pointer (some ⟨x1, 0, none⟩)] w fun e w' => e = .returned (.bool (!Tab.may m x.table sel)) ∧ Keeps (fun _ => False) w w' := by
  unfold Cls.val
  have hb0 := World.block_lt_of_cell? _ _ c0
  have hb1 := World.block_lt_of_cell? _ _ c1
  have HM := Lib.hid (tab_may _ b bb m x.table sel (h.allocd (.cells #[.int .i64 x.at_, .int .i64 x.parent, .int .i64 x.size, .int .i64 x.table, .int .i64 x.prev] 114)))
  have K0 := Lib.hid (Keeps.alloc (fun _ => False) w (.cells #[.int .i64 x.at_, .int .i64 x.parent, .int .i64 x.size, .int .i64 x.table, .int .i64 x.prev] 114))
  clear h
  generalize Tab.may m x.table sel = r at HM ⊢
  go_enter Try.func57, Try.ntmps57
  go_wp2_with fail
  refine HM.out.mono ?_
  rintro e w1 ⟨rfl, k1⟩
  have K1 := Lib.hid (K0.out.trans k1)
  clear k1
  go_wp2_with fail
  go_ret
  exact ⟨rfl, K1.out⟩

theorem heirsL_len (m : Mem) (a sel : Int) (L : List Cls) (seen : List Int) : (Class.heirsL m a sel L seen).length ≤ L.length := by
  induction L generalizing seen with
  | nil => simp [Class.heirsL]
  | cons c L ih =>
    rw [Class.heirsL]
    split
    · have := ih (c.at_ :: seen); simp; omega
    · have := ih seen; simp; omega

theorem class_set (w : World) (b bb : Nat) (m : Mem) (root a sel xt : Int) (h : RMem w b bb m) :
    Calls Try.prog 26 #[.pointer (some ⟨b, 0, none⟩), .int .i64 root, .int .i64 a, .int .i64 sel, .int .i64 xt] w (SetPost b bb (Class.set m root a sel xt) w) := by
  have hmf : ∀ (fn : Fn) (first cap : Array Value) (w : World), (Instr.makeFunc fn first cap).run Try.prog w = .ok (.func fn first cap) w := fun _ _ _ _ => rfl
  have H := Lib.hid h
  have hle := h.le
  have hbbw := h.lt.2
  have hlen : (Class.heirs m root a sel).length ≤ m.size := Nat.le_trans (heirsL_len m a sel _ _) (Class.all_len m root)
  have HD : Hid (Class.set m root a sel xt = if Class.heirs m root a sel = [] then (m, -2048)
    else if sel < 1 then (m, -256)
    else if (Class.heirs m root a sel).any (fun c => !Tab.may m c.table sel) then (m, -2051)
    else Class.putL m ⟨sel, xt, a⟩ (Class.heirs m root a sel)) := rfl
  generalize Class.set m root a sel xt = r at HD ⊢
  have hA := Lib.hid (class_heirs ((w.alloc (.cells #[.pointer (some ⟨b, 0, none⟩)] 44)).alloc (.cells #[.int .i64 sel] 2)) b bb m root a sel ((h.allocd _).allocd _))
  generalize Class.heirs m root a sel = L at HD hA hlen
  have hs0 : ((w.alloc (.cells #[.pointer (some ⟨b, 0, none⟩)] 44)).alloc (.cells #[.int .i64 sel] 2)).heap[w.heap.size]? = some (.cells #[.pointer (some ⟨b, 0, none⟩)] 44 (0, 0)) := (halloc_old _ _ (by simp)).trans (halloc_at _ _)
  have hs1 : ((w.alloc (.cells #[.pointer (some ⟨b, 0, none⟩)] 44)).alloc (.cells #[.int .i64 sel] 2)).heap[w.heap.size + 1]? = some (.cells #[.int .i64 sel] 2 (0, 0)) := by
    have := halloc_at (w.alloc (.cells #[.pointer (some ⟨b, 0, none⟩)] 44)) (.cells #[.int .i64 sel] 2)
    rw [World.size_alloc] at this
    exact this
  have HS0 := Lib.hid (cell_of (i := 0) hs0 rfl)
  have HS1 := Lib.hid (cell_of (i := 0) hs1 rfl)
  have HK0 := Lib.hid ((Keeps.alloc (fun _ => False) w (.cells #[.pointer (some ⟨b, 0, none⟩)] 44)).trans (Keeps.alloc (fun _ => False) _ (.cells #[.int .i64 sel] 2)))
  clear h hs0 hs1
  go_enter Try.func26, Try.ntmps26
  go_wp2_with fail
  refine hA.out.mono ?_
  rintro e w1 ⟨sa, ca, rfl, oa, ka⟩
  have OA := Lib.hid oa
  have c0 := ka.cell HS0.out id
  have c1 := ka.cell HS1.out id
  have C0 := Lib.hid c0
  have C1 := Lib.hid c1
  have M1 := Lib.hid ((H.out.keeps HK0.out id id).keeps ka id id)
  have K1 := Lib.hid (HK0.out.trans ka)
  clear oa ka
  by_cases e1 : L = []
  · have hr := HD.out
    rw [if_pos e1] at hr
    have HR := Lib.hid hr
    clear hr HD
    subst e1
    go_wp2_with fail
    go_ret
    exact ⟨by rw [HR.out]; rfl, by rw [HR.out]; exact M1.out, K1.out.mono (fun _ _ => False.elim)⟩
  · have hr := HD.out
    rw [if_neg e1] at hr
    have e1' : ((L.length : Int) == 0) = false := by
      cases L with
      | nil => exact absurd rfl e1
      | cons c L => simp; omega
    clear HD e1
    by_cases e2 : sel < 1
    · rw [if_pos e2] at hr
      have HR := Lib.hid hr
      clear hr
      go_wp2_with fail
      go_ret
      exact ⟨by rw [HR.out]; rfl, by rw [HR.out]; exact M1.out, K1.out.mono (fun _ _ => False.elim)⟩
    · rw [if_neg e2] at hr
      have e2' : 1 ≤ sel := by omega
      clear e2
      have hC := Lib.hid (cont_func w w1 sa ca L 57 #[.pointer (some ⟨w.heap.size, 0, none⟩), .pointer (some ⟨w.heap.size + 1, 0, none⟩)] (fun c => !Tab.may m c.table sel) ⟨OA.out.1, fun g hg => Nat.le_trans (by simp; omega) (OA.out.2 g hg)⟩ (by omega) Try.call57 (fun w' k' x _ => by
        rw [app2]
        exact class_set1 w' b bb m x sel _ _ (M1.out.keeps k' id id) (k'.cell C0.out id) (k'.cell C1.out id)))
      cases e3 : L.any (fun c => !Tab.may m c.table sel) with
      | true =>
        rw [if_pos e3] at hr
        rw [e3] at hC
        have HR := Lib.hid hr
        clear hr e3
        go_wp2_with fail
        refine hC.out.mono ?_
        rintro e w2 ⟨rfl, k2⟩
        have M2 := Lib.hid (M1.out.keeps k2 id id)
        have K2 := Lib.hid (K1.out.trans k2)
        clear k2
        go_wp2_with fail
        go_ret
        exact ⟨by rw [HR.out]; rfl, by rw [HR.out]; exact M2.out, K2.out.mono (fun _ _ => False.elim)⟩
      | false =>
        rw [if_neg (by rw [e3]; simp)] at hr
        rw [e3] at hC
        have HR := Lib.hid hr
        clear hr e3
        go_wp2_with fail
        refine hC.out.mono ?_
        rintro e w2 ⟨rfl, k2⟩
        have C02 := Lib.hid (k2.cell C0.out id)
        have C12 := Lib.hid (k2.cell C1.out id)
        have M2 := Lib.hid (M1.out.keeps k2 id id)
        have K2 := Lib.hid (K1.out.trans k2)
        have O2 := Lib.hid (OwnCls.keeps (W := w) ⟨OA.out.1, fun g hg => Nat.le_trans (by simp; omega) (OA.out.2 g hg)⟩ k2 (fun _ _ => id))
        clear k2 c0 c1
        go_wp2_with fail
        go_loopw [33] (fun iv wr => ∃ (j : Nat) (mj : Mem), iv = .int .i64 j ∧ j ≤ L.length ∧ RMem wr b bb mj ∧ Keeps (fun k => k = bb) w wr ∧ OwnCls w wr sa ca L ∧
            wr.cell? ⟨w.heap.size, 0, none⟩ = some (.pointer (some ⟨b, 0, none⟩)) ∧ wr.cell? ⟨w.heap.size + 1, 0, none⟩ = some (.int .i64 sel) ∧ Class.putL mj ⟨sel, xt, a⟩ (L.drop j) = r)
          (fun iv _ => L.length - (intOf iv).toNat)
        case atStart => exact ⟨0, m, rfl, by omega, M2.out, K2.out.mono (fun _ _ => False.elim), O2.out, C02.out, C12.out, HR.out.symm⟩
        case round =>
          obtain ⟨j, mj, rfl, hj, hm, hk, ho, hc0, hc1, hp⟩ := hrel
          have HM := Lib.hid hm
          have HK := Lib.hid hk
          have HO := Lib.hid ho
          have HC0 := Lib.hid hc0
          have HC1 := Lib.hid hc1
          have HP := Lib.hid hp
          clear hm hk ho hp hC
          by_cases hlt : j < L.length
          · obtain ⟨ga, rfl, hnc, F⟩ := HO.out.get hlt
            have hdrop : L.drop j = L[j] :: L.drop (j + 1) := List.drop_eq_getElem_cons hlt
            have hr := HP.out
            rw [hdrop, Class.putL] at hr
            clear hdrop
            generalize L[j] = x at F hr
            have F0 := F 0 (by omega)
            have F1 := F 1 (by omega)
            have F2 := F 2 (by omega)
            have F3 := F 3 (by omega)
            have F4 := F 4 (by omega)
            simp only [Cls.fld, Nat.add_zero] at F0 F1 F2 F3 F4
            have hl0 := World.block_lt_of_cell? _ _ hc0
            have hl1 := World.block_lt_of_cell? _ _ hc1
            have hg := Lib.hid (tab_put (wr.alloc (.cells #[.int .i64 x.at_, .int .i64 x.parent, .int .i64 x.size, .int .i64 x.table, .int .i64 x.prev] 114)) b bb mj x.table ⟨sel, xt, a⟩ (HM.out.allocd _))
            generalize Tab.put mj x.table ⟨sel, xt, a⟩ = q at hg hr
            obtain ⟨mn, e⟩ := q
            unfold SetPost Ent.val at hg
            simp only at hg hr
            have HR := Lib.hid hr
            clear hr F
            go_wp2_with fail
            refine hg.out.mono ?_
            rintro e1 w3 ⟨rfl, m3, k3⟩
            have M3 := Lib.hid m3
            have k4 := (Keeps.alloc (fun k => k = bb) wr _).trans k3
            have K4 := Lib.hid (HK.out.trans k4)
            have D0 := Lib.hid (k4.cell HC0.out (show ¬ w.heap.size = bb by omega))
            have D1 := Lib.hid (k4.cell HC1.out (show ¬ w.heap.size + 1 = bb by omega))
            have O4 := Lib.hid (HO.out.keeps k4 (fun g hg e => by have := HO.out.2 g hg; have e' : g = bb := e; omega))
            clear m3 k3 k4 hc0 hc1
            by_cases he : e = 0
            · have hr := HR.out
              rw [if_neg (by simpa using he)] at hr
              have he' : (e != 0) = false := by simp [he]
              have HR' := Lib.hid hr
              clear hr he
              go_wp2_with fail
              go_roundw
              case rel => exact ⟨j + 1, mn, by go_num, by omega, M3.out, K4.out, O4.out, D0.out, D1.out, HR'.out⟩
              case measure => simp [intOf]; omega
            · have hr := HR.out
              rw [if_pos he] at hr
              have he' : (e != 0) = true := by simp [he]
              have HR' := Lib.hid hr
              clear hr he
              go_wp2_with fail
              go_ret
              exact ⟨by rw [← HR'.out]; rfl, by rw [← HR'.out]; exact M3.out, K4.out⟩
          · have hge : j = L.length := by omega
            subst hge
            have hr := HP.out
            rw [List.drop_length, Class.putL] at hr
            have HR := Lib.hid hr
            clear hr
            go_wp2_with fail
            go_ret
            exact ⟨by rw [← HR.out]; rfl, by rw [← HR.out]; exact HM.out, HK.out⟩
end Go.Proofs.Shed
