/- A map[int64]bool that the call makes: a list of what is in it. No condition. Layer 11: heirs. Conditions: the memory lies in two blocks. Layer 11: Set. Conditions: the memory lies in two blocks. Layer 12: Sels. Conditions: the memory lies in two blocks. -/
import Derived.Test.YthhfkhhhclmimaaGreatDoorMWCB
import Derived.Test.YthhfkhhhclmimaaGreatDoorMPA
import Derived.Maps.Own
import Derived.Maps.Views
set_option linter.unusedVariables false
set_option linter.unusedSimpArgs false
set_option maxRecDepth 10000
namespace Go.Proofs.Shed
open Go Go.RowKit Go.Proofs.K

theorem seen_law : Go.Maps.Keyed Tryz.prog 2 := Go.Maps.int_keyed Tryz.underlying2
theorem seen_zero (w : World) : (zeroValue 4).run Tryz.prog w = .ok (.bool false) w := by kernel_rfl
/-- The block b is a map in which just the keys of a list are true. -/
def Seen (w : World) (b : Nat) (L : List Int) : Prop := ∃ D : DataW Unit, w.ownsMap Tryz.prog 2 (plainElem Tryz.prog 4) b L.length D ∧ Go.Maps.IsMap D ∧ ∀ a : Int, D.atKey (.int .i64 a) (.lit (.bool false)) = .lit (.bool (decide (a ∈ L)))

theorem Seen.made (w : World) : Seen (w.alloc (.map #[] 0)) w.heap.size [] :=
  ⟨.map [], World.ownsMap_made _ _ _ _, Go.Maps.isMap_empty, fun a => rfl⟩
theorem Seen.lt {w : World} {b : Nat} {L : List Int} (h : Seen w b L) : b < w.heap.size := by
  obtain ⟨D, h, _⟩ := h
  exact h.lt
theorem Seen.keeps {w w' : World} {b : Nat} {L : List Int} (h : Seen w b L) {S : Nat → Prop} (k : Keeps S w w') (hs : ¬ S b) : Seen w' b L := by
  obtain ⟨D, ⟨es, clock, hb, r⟩, h2⟩ := h
  exact ⟨D, ⟨es, clock, k.heap hb hs, r⟩, h2⟩
theorem wf_i64 {a : Int} (h0 : -9223372036854775808 ≤ a) (h1 : a ≤ 9223372036854775807) : (Lit.int .i64 a).wf = true := WalkArith.wf_i64 (by omega)
theorem Seen.look {w : World} {b : Nat} {L : List Int} (h : Seen w b L) (a : Int) (h0 : -9223372036854775808 ≤ a) (h1 : a ≤ 9223372036854775807) :
    (Instr.lookup 412 (.map (some b)) (.int .i64 a) false).run Tryz.prog w = .ok (.bool (decide (a ∈ L))) w := by
  obtain ⟨D, h, _, hat⟩ := h
  obtain ⟨v, ps, hrun, hv⟩ := h.lookup seen_law Tryz.underlying412 (seen_zero w) (plainElem_bool Tryz.underlying4 false) (Go.Maps.keyOf_int_mk Tryz.underlying2 (wf_i64 h0 h1))
  rw [hrun]
  rw [hat a] at hv
  unfold plainElem at hv
  rw [Tryz.underlying4] at hv
  cases v <;> simp at hv
  rw [hv.1]
theorem Seen.put {w : World} {b : Nat} {L : List Int} (h : Seen w b L) (a : Int) (h0 : -9223372036854775808 ≤ a) (h1 : a ≤ 9223372036854775807) (hl : L.length < 10000000) :
    ∃ w', (Instr.mapUpdate 412 (.map (some b)) (.int .i64 a) (.bool true)).run Tryz.prog w = .ok () w' ∧ Seen w' b (a :: L) ∧ Keeps (fun k => k = b) w w' := by
  obtain ⟨D, h, hm, hat⟩ := h
  have hk := Go.Maps.keyOf_int_mk (P := Tryz.prog) (k := 2) Tryz.underlying2 (wf_i64 h0 h1)
  obtain ⟨w', hrun, ho, hg⟩ := h.update seen_law Tryz.underlying412 (by unfold maxLen; omega) hk (plainElem_bool Tryz.underlying4 true)
  refine ⟨w', hrun, ⟨D.put (.int .i64 a) (.lit (.bool true)), ho, hm.put _ _, fun c => ?_⟩, Keeps.grown hg (fun k _ e => by cases e; rfl)⟩
  by_cases hc : c = a
  · subst hc
    rw [Go.Maps.atKey_put_same hm (seen_law.key hk)]
    simp
  · rw [Go.Maps.atKey_put_other (fun e => hc (by cases e; rfl)), hat c]
    simp [hc]
end Go.Proofs.Shed
set_option linter.unusedVariables false
set_option linter.unusedSimpArgs false
set_option maxRecDepth 10000
set_option maxHeartbeats 2000000
namespace Go.Proofs.Shed
open Go Go.RowKit Go.Proofs.K

def Cls.Bd (c : Cls) : Prop := ∀ f, -9223372036854775808 ≤ c.fld f ∧ c.fld f ≤ 9223372036854775807
theorem walkN_bd (m : Mem) (k : Nat) (a last : Int) (hl : last ≤ 9223372036854775807) : ∀ c ∈ Class.walkN m k a last, c.Bd := by
  induction k generalizing a last with
  | zero => simp [Class.walkN]
  | succ k ih =>
    intro c hc
    rw [Class.walkN] at hc
    split at hc
    · rename_i h1
      split at hc
      · rcases List.mem_cons.1 hc with rfl | hc
        · unfold Class.read
          split
          · intro f
            match f with
            | 0 => simp [Cls.fld]
            | 1 => simp [Cls.fld]
            | 2 => simp [Cls.fld]
            | 3 => simp [Cls.fld]
            | _ + 4 => simp [Cls.fld]
          · intro f
            match f with
            | 0 => simp only [Cls.fld]; omega
            | 1 => exact m.cell_bd _
            | 2 => exact m.cell_bd _
            | 3 => exact m.cell_bd _
            | _ + 4 => exact m.cell_bd _
        · exact ih _ _ (by omega) c hc
      · cases hc
    · cases hc
theorem all_bd (m : Mem) (root : Int) (hm : m.size ≤ 4194304) : ∀ c ∈ Class.all m root, c.Bd := by
  intro c hc
  unfold Class.all at hc
  split at hc
  · exact walkN_bd m _ _ m.size (by omega) c (by simpa [Class.walk] using hc)
  · cases hc

theorem class_heirs (w : World) (b bb : Nat) (m : Mem) (root a sel : Int) (h : RMem w b bb m) :
    Calls Tryz.prog 386 #[.pointer (some ⟨b, 0, none⟩), .int .i64 root, .int .i64 a, .int .i64 sel] w (ClsPost (Class.heirs m root a sel) w) := by
  have hmm := @run_makeMap Tryz.prog
  have H := Lib.hid h
  have hle := h.le
  have hlen := Class.all_len m root
  have hbd := all_bd m root hle
  clear h
  have HD : Hid (Class.heirs m root a sel = Class.heirsL m a sel (Class.all m root) []) := rfl
  generalize Class.heirs m root a sel = r at HD ⊢
  have hA := Lib.hid fun w H => class_all w b bb m root H
  generalize Class.all m root = A at HD hlen hbd hA
  have HBD := Lib.hid hbd
  clear hbd
  go_enter Tryz.func386, Tryz.ntmps386
  go_wp2_with fail
  refine (hA.out _ (by exact H.out.allocd _)).mono ?_
  rintro e w1 ⟨sa, ca, rfl, oa, ka⟩
  have KA := Lib.hid ((Keeps.alloc (fun _ => False) w (.map #[] 0)).trans ka)
  have SA := Lib.hid ((Seen.made w).keeps ka id)
  have OA := Lib.hid oa
  have hsz : w.heap.size + 1 ≤ w1.heap.size := by
    have := ka.size
    rw [World.size_alloc] at this
    exact this
  clear ka oa
  go_wp2_with fail
  go_loopw [9, 21] (fun ov iv wr => ∃ (L : List Cls) (a' : Option Addr) (c : Nat) (j : Nat) (seen : List Int), ov = .slice a' L.length c ∧ iv = .int .i64 j ∧ j ≤ A.length ∧ L.length ≤ j ∧ seen.length ≤ j ∧
      OwnCls w wr a' c L ∧ OwnCls (w.alloc (.map #[] 0)) wr sa ca A ∧ Seen wr w.heap.size seen ∧ RMem wr b bb m ∧ Keeps (fun _ => False) w wr ∧
      (∀ g, blk a' = some g → g ≠ w.heap.size ∧ blk sa ≠ some g) ∧ L ++ Class.heirsL m a sel (A.drop j) seen = r)
    (fun _ iv _ => A.length - (intOf iv).toNat)
  case atStart => exact ⟨[], none, 0, 0, [], rfl, rfl, by omega, by simp, by simp, ⟨Own.nil _ _ _, by simp [blk]⟩, OA.out, SA.out, H.out.keeps KA.out id id, KA.out, by simp [blk], by rw [HD.out]; rfl⟩
  case round =>
    obtain ⟨L, a', c, j, seen, rfl, rfl, hj, hLj, hsj, ho, hoA, hs, hm, hk, hne, hL⟩ := hrel
    have HO := Lib.hid ho
    have HA := Lib.hid hoA
    have HS := Lib.hid hs
    have HM := Lib.hid hm
    have HK := Lib.hid hk
    have HN := Lib.hid hne
    have HL := Lib.hid hL
    clear ho hoA hs hm hk hne hL
    by_cases hlt : j < A.length
    · obtain ⟨ga, rfl, hnc, F⟩ := HA.out.get hlt
      have hdrop : A.drop j = A[j] :: A.drop (j + 1) := List.drop_eq_getElem_cons hlt
      have hbx := HBD.out A[j] (List.getElem_mem hlt)
      have hr := HL.out
      rw [hdrop, Class.heirsL] at hr
      clear hdrop
      generalize A[j] = x at F hr hbx
      have F0 := F 0 (by omega)
      have F1 := F 1 (by omega)
      have F2 := F 2 (by omega)
      have F3 := F 3 (by omega)
      have F4 := F 4 (by omega)
      simp only [Cls.fld, Nat.add_zero] at F0 F1 F2 F3 F4
      have hg := Lib.hid fun w H => tab_get w b bb m x.table sel H
      generalize Tab.get m x.table sel = q at hg hr
      obtain ⟨⟨y1, y2, y3⟩, n, own⟩ := q
      unfold getV Ent.val at hg
      simp only at hg hr
      have HR := Lib.hid hr
      obtain ⟨p0, p1⟩ := hbx 1
      obtain ⟨q0, q1⟩ := hbx 0
      simp only [Cls.fld] at p0 p1 q0 q1
      clear hr F hbx HL
      have HM1 := Lib.hid (HM.out.allocd (.cells #[.int .i64 x.at_, .int .i64 x.parent, .int .i64 x.size, .int .i64 x.table, .int .i64 x.prev] 214))
      go_wp2_with fail
      refine (hg.out _ HM1.out).mono ?_
      rintro e w2 ⟨rfl, k2⟩
      have hB := k2.heap (halloc_at wr _) id
      have hlt2 : wr.heap.size < w2.heap.size := lt_of_heap hB
      have c0 := cell_of (i := 0) hB rfl
      have c1 := cell_of (i := 1) hB rfl
      have c2 := cell_of (i := 2) hB rfl
      have c3 := cell_of (i := 3) hB rfl
      have c4 := cell_of (i := 4) hB rfl
      have KB := Lib.hid (((Keeps.alloc (fun _ => False) wr (.cells #[.int .i64 x.at_, .int .i64 x.parent, .int .i64 x.size, .int .i64 x.table, .int .i64 x.prev] 214)).trans k2).trans (Keeps.alloc (fun _ => False) w2 (.cells #[.int .i64 y1, .int .i64 y2, .int .i64 y3] 279)))
      have SB := Lib.hid (HS.out.keeps KB.out id)
      have hlook := SB.out.look x.parent p0 p1
      have HBB := Lib.hid ((halloc_old w2 (.cells #[.int .i64 y1, .int .i64 y2, .int .i64 y3] 279) hlt2).trans hB)
      have hwr : w.heap.size < wr.heap.size := HS.out.lt
      clear hB k2
      by_cases e1 : x.at_ = a
      · have e1' : (x.at_ == a) = true := by simp [e1]
        have hr := HR.out
        rw [if_pos (.inl e1)] at hr
        clear e1 hlook
        obtain ⟨w3, hrun, s3, k3⟩ := SB.out.put x.at_ q0 q1 (by omega)
        have hB3 := k3.heap HBB.out (show ¬ wr.heap.size = w.heap.size by omega)
        have d0 := cell_of (i := 0) hB3 rfl
        have d1 := cell_of (i := 1) hB3 rfl
        have d2 := cell_of (i := 2) hB3 rfl
        have d3 := cell_of (i := 3) hB3 rfl
        have d4 := cell_of (i := 4) hB3 rfl
        have hlt3 : wr.heap.size < w3.heap.size := lt_of_heap hB3
        have O3 := Lib.hid ((HO.out.keeps KB.out (fun _ _ => id)).keeps k3 (fun g hg e => (HN.out g hg).1 e))
        have A3 := Lib.hid ((HA.out.keeps KB.out (fun _ _ => id)).keeps k3 (fun g hg e => by have := HA.out.2 g hg; rw [World.size_alloc] at this; omega))
        have S3 := Lib.hid s3
        have K3 := Lib.hid k3
        have HR' := Lib.hid hr
        clear hr s3 k3 hB3
        go_wp2_with (first
          | (at_builtin; refine wpList_app rfl _ _ 211 rfl 214 _ 5 40 Tryz.underlying211 infoCls rfl (by decide) a' L.length c (clsV L) rfl (O3.out.alloc _).1 ⟨w3.heap.size, 0, none⟩ 1 1 x.cells rfl rfl (cls_news w3 x) (cls_one x) ?c3 ?c4 ?_))
        case c3 => unfold maxLen; omega
        case c4 => omega
        intro a'' c' w4 o4 k4 l4
        have O4 := Lib.hid (O3.out.more x o4 _ l4 (by omega))
        have hga : ga < wr.heap.size := HA.out.1.lt rfl
        have ka := Keeps.alloc (fun _ => False) w3 (.cells #[.int .i64 x.at_, .int .i64 x.parent, .int .i64 x.size, .int .i64 x.table, .int .i64 x.prev] 214)
        have hw2 : w.heap.size ≤ w2.heap.size := by omega
        have KK := Lib.hid ((((HK.out.trans KB.out).trans' K3.out (fun i hi e => by have e' : i = w.heap.size := e; omega)).trans ka).trans' k4 (fun i hi e => absurd (HO.out.2 i e) (by omega)))
        have A4 := Lib.hid ((A3.out.keeps ka (fun _ _ => id)).keeps k4 (fun g hg e => (HN.out g e).2 hg))
        have S4 := Lib.hid ((S3.out.keeps ka id).keeps k4 (fun e => (HN.out _ e).1 rfl))
        have N4 : Hid (∀ g, blk a'' = some g → g ≠ w.heap.size ∧ blk (some (⟨ga, 0, none⟩ : Addr)) ≠ some g) := by
          intro g hg
          rcases l4 with e | e
          · exact HN.out g (e ▸ hg)
          · rw [e] at hg
            have hg' : w3.heap.size + 1 = g := Option.some.inj hg
            refine ⟨by omega, fun e' => ?_⟩
            have e'' : ga = g := Option.some.inj e'
            omega
        clear o4 k4 l4 ka
        go_wp2_with fail
        go_roundw
        case rel =>
          refine ⟨L ++ [x], a'', c', j + 1, x.at_ :: seen, by rw [List.length_append]; rfl, by go_num, by omega, by simpa using hLj, by simpa using hsj, O4.out, A4.out, S4.out, H.out.keeps KK.out id id, KK.out, N4.out, ?_⟩
          rw [← HR'.out, List.append_assoc]
          rfl
        case measure => simp [intOf]; omega
      · have e1' : (x.at_ == a) = false := by simp [e1]
        by_cases e2 : x.parent ∈ seen
        · rw [decide_eq_true e2] at hlook
          cases own with
          | false =>
            have hr := HR.out
            rw [if_pos (.inr ⟨e2, by simp⟩)] at hr
            clear e1 e2
            obtain ⟨w3, hrun, s3, k3⟩ := SB.out.put x.at_ q0 q1 (by omega)
            have hB3 := k3.heap HBB.out (show ¬ wr.heap.size = w.heap.size by omega)
            have d0 := cell_of (i := 0) hB3 rfl
            have d1 := cell_of (i := 1) hB3 rfl
            have d2 := cell_of (i := 2) hB3 rfl
            have d3 := cell_of (i := 3) hB3 rfl
            have d4 := cell_of (i := 4) hB3 rfl
            have hlt3 : wr.heap.size < w3.heap.size := lt_of_heap hB3
            have O3 := Lib.hid ((HO.out.keeps KB.out (fun _ _ => id)).keeps k3 (fun g hg e => (HN.out g hg).1 e))
            have A3 := Lib.hid ((HA.out.keeps KB.out (fun _ _ => id)).keeps k3 (fun g hg e => by have := HA.out.2 g hg; rw [World.size_alloc] at this; omega))
            have S3 := Lib.hid s3
            have K3 := Lib.hid k3
            have HR' := Lib.hid hr
            clear hr s3 k3 hB3
            go_wp2_with (first
              | (at_builtin; refine wpList_app rfl _ _ 211 rfl 214 _ 5 40 Tryz.underlying211 infoCls rfl (by decide) a' L.length c (clsV L) rfl (O3.out.alloc _).1 ⟨w3.heap.size, 0, none⟩ 1 1 x.cells rfl rfl (cls_news w3 x) (cls_one x) ?c3 ?c4 ?_))
            case c3 => unfold maxLen; omega
            case c4 => omega
            intro a'' c' w4 o4 k4 l4
            have O4 := Lib.hid (O3.out.more x o4 _ l4 (by omega))
            have hga : ga < wr.heap.size := HA.out.1.lt rfl
            have ka := Keeps.alloc (fun _ => False) w3 (.cells #[.int .i64 x.at_, .int .i64 x.parent, .int .i64 x.size, .int .i64 x.table, .int .i64 x.prev] 214)
            have hw2 : w.heap.size ≤ w2.heap.size := by omega
            have KK := Lib.hid ((((HK.out.trans KB.out).trans' K3.out (fun i hi e => by have e' : i = w.heap.size := e; omega)).trans ka).trans' k4 (fun i hi e => absurd (HO.out.2 i e) (by omega)))
            have A4 := Lib.hid ((A3.out.keeps ka (fun _ _ => id)).keeps k4 (fun g hg e => (HN.out g e).2 hg))
            have S4 := Lib.hid ((S3.out.keeps ka id).keeps k4 (fun e => (HN.out _ e).1 rfl))
            have N4 : Hid (∀ g, blk a'' = some g → g ≠ w.heap.size ∧ blk (some (⟨ga, 0, none⟩ : Addr)) ≠ some g) := by
              intro g hg
              rcases l4 with e | e
              · exact HN.out g (e ▸ hg)
              · rw [e] at hg
                have hg' : w3.heap.size + 1 = g := Option.some.inj hg
                refine ⟨by omega, fun e' => ?_⟩
                have e'' : ga = g := Option.some.inj e'
                omega
            clear o4 k4 l4 ka
            go_wp2_with fail
            go_roundw
            case rel =>
              refine ⟨L ++ [x], a'', c', j + 1, x.at_ :: seen, by rw [List.length_append]; rfl, by go_num, by omega, by simpa using hLj, by simpa using hsj, O4.out, A4.out, S4.out, H.out.keeps KK.out id id, KK.out, N4.out, ?_⟩
              rw [← HR'.out, List.append_assoc]
              rfl
            case measure => simp [intOf]; omega
          | true =>
            by_cases e3 : y3 = x.at_
            · have e3' : (y3 == x.at_) = true := by simp [e3]
              have hr := HR.out
              rw [if_neg (by simp [e1, e3])] at hr
              clear e1 e2 e3
              have HR' := Lib.hid hr
              clear hr
              go_wp2_with fail
              go_roundw
              case rel =>
                refine ⟨L, a', c, j + 1, seen, rfl, by go_num, by omega, by omega, by omega, HO.out.keeps KB.out (fun _ _ => id), HA.out.keeps KB.out (fun _ _ => id), SB.out, HM.out.keeps KB.out id id, HK.out.trans KB.out, HN.out, HR'.out⟩
              case measure => simp [intOf]; omega
            · have e3' : (y3 == x.at_) = false := by simp [e3]
              have hr := HR.out
              rw [if_pos (.inr ⟨e2, by simp [e3]⟩)] at hr
              clear e1 e2 e3
              obtain ⟨w3, hrun, s3, k3⟩ := SB.out.put x.at_ q0 q1 (by omega)
              have hB3 := k3.heap HBB.out (show ¬ wr.heap.size = w.heap.size by omega)
              have d0 := cell_of (i := 0) hB3 rfl
              have d1 := cell_of (i := 1) hB3 rfl
              have d2 := cell_of (i := 2) hB3 rfl
              have d3 := cell_of (i := 3) hB3 rfl
              have d4 := cell_of (i := 4) hB3 rfl
              have hlt3 : wr.heap.size < w3.heap.size := lt_of_heap hB3
              have O3 := Lib.hid ((HO.out.keeps KB.out (fun _ _ => id)).keeps k3 (fun g hg e => (HN.out g hg).1 e))
              have A3 := Lib.hid ((HA.out.keeps KB.out (fun _ _ => id)).keeps k3 (fun g hg e => by have := HA.out.2 g hg; rw [World.size_alloc] at this; omega))
              have S3 := Lib.hid s3
              have K3 := Lib.hid k3
              have HR' := Lib.hid hr
              clear hr s3 k3 hB3
              go_wp2_with (first
                | (at_builtin; refine wpList_app rfl _ _ 211 rfl 214 _ 5 40 Tryz.underlying211 infoCls rfl (by decide) a' L.length c (clsV L) rfl (O3.out.alloc _).1 ⟨w3.heap.size, 0, none⟩ 1 1 x.cells rfl rfl (cls_news w3 x) (cls_one x) ?c3 ?c4 ?_))
              case c3 => unfold maxLen; omega
              case c4 => omega
              intro a'' c' w4 o4 k4 l4
              have O4 := Lib.hid (O3.out.more x o4 _ l4 (by omega))
              have hga : ga < wr.heap.size := HA.out.1.lt rfl
              have ka := Keeps.alloc (fun _ => False) w3 (.cells #[.int .i64 x.at_, .int .i64 x.parent, .int .i64 x.size, .int .i64 x.table, .int .i64 x.prev] 214)
              have hw2 : w.heap.size ≤ w2.heap.size := by omega
              have KK := Lib.hid ((((HK.out.trans KB.out).trans' K3.out (fun i hi e => by have e' : i = w.heap.size := e; omega)).trans ka).trans' k4 (fun i hi e => absurd (HO.out.2 i e) (by omega)))
              have A4 := Lib.hid ((A3.out.keeps ka (fun _ _ => id)).keeps k4 (fun g hg e => (HN.out g e).2 hg))
              have S4 := Lib.hid ((S3.out.keeps ka id).keeps k4 (fun e => (HN.out _ e).1 rfl))
              have N4 : Hid (∀ g, blk a'' = some g → g ≠ w.heap.size ∧ blk (some (⟨ga, 0, none⟩ : Addr)) ≠ some g) := by
                intro g hg
                rcases l4 with e | e
                · exact HN.out g (e ▸ hg)
                · rw [e] at hg
                  have hg' : w3.heap.size + 1 = g := Option.some.inj hg
                  refine ⟨by omega, fun e' => ?_⟩
                  have e'' : ga = g := Option.some.inj e'
                  omega
              clear o4 k4 l4 ka
              go_wp2_with fail
              go_roundw
              case rel =>
                refine ⟨L ++ [x], a'', c', j + 1, x.at_ :: seen, by rw [List.length_append]; rfl, by go_num, by omega, by simpa using hLj, by simpa using hsj, O4.out, A4.out, S4.out, H.out.keeps KK.out id id, KK.out, N4.out, ?_⟩
                rw [← HR'.out, List.append_assoc]
                rfl
              case measure => simp [intOf]; omega
        · rw [decide_eq_false e2] at hlook
          have hr := HR.out
          rw [if_neg (by simp [e1, e2])] at hr
          clear e1 e2
          have HR' := Lib.hid hr
          clear hr
          go_wp2_with fail
          go_roundw
          case rel =>
            refine ⟨L, a', c, j + 1, seen, rfl, by go_num, by omega, by omega, by omega, HO.out.keeps KB.out (fun _ _ => id), HA.out.keeps KB.out (fun _ _ => id), SB.out, HM.out.keeps KB.out id id, HK.out.trans KB.out, HN.out, HR'.out⟩
          case measure => simp [intOf]; omega
    · have hge : j = A.length := by omega
      subst hge
      have hr := HL.out
      rw [List.drop_length, Class.heirsL, List.append_nil] at hr
      have HR := Lib.hid hr
      clear hr
      go_wp2_with fail
      go_ret
      exact ⟨a', c, by rw [← HR.out]; rfl, by rw [← HR.out]; exact HO.out, HK.out⟩
end Go.Proofs.Shed
set_option linter.unusedVariables false
set_option linter.unusedSimpArgs false
set_option maxRecDepth 10000
set_option maxHeartbeats 2000000
namespace Go.Proofs.Shed
open Go Go.RowKit Go.Proofs.K

theorem class_set1 (w : World) (b bb : Nat) (m : Mem) (x : Cls) (sel : Int) (x0 x1 : Nat) (h : RMem w b bb m) (c0 : w.cell? ⟨x0, 0, none⟩ = some (.pointer (some ⟨b, 0, none⟩))) (c1 : w.cell? ⟨x1, 0, none⟩ = some (.int .i64 sel)) :
    Calls Tryz.prog 387 #[x.val, .pointer (some ⟨x0, 0, none⟩), .pointer (some ⟨x1, 0, none⟩)] w fun e w' => e = .returned (.bool (!Tab.may m x.table sel)) ∧ Keeps (fun _ => False) w w' := by
  unfold Cls.val
  have hb0 := World.block_lt_of_cell? _ _ c0
  have hb1 := World.block_lt_of_cell? _ _ c1
  have HM := Lib.hid (tab_may _ b bb m x.table sel (h.allocd (.cells #[.int .i64 x.at_, .int .i64 x.parent, .int .i64 x.size, .int .i64 x.table, .int .i64 x.prev] 214)))
  have K0 := Lib.hid (Keeps.alloc (fun _ => False) w (.cells #[.int .i64 x.at_, .int .i64 x.parent, .int .i64 x.size, .int .i64 x.table, .int .i64 x.prev] 214))
  clear h
  generalize Tab.may m x.table sel = r at HM ⊢
  go_enter Tryz.func387, Tryz.ntmps387
  go_wp2_with fail
  refine HM.out.mono ?_
  rintro e w1 ⟨rfl, k1⟩
  have K1 := Lib.hid (K0.out.trans k1)
  clear k1
  go_wp2_with fail
  go_ret
  exact ⟨rfl, K1.out⟩

theorem heirsL_len (m : Mem) (a sel : Int) (L : List Cls) (seen : List Int) : (Class.heirsL m a sel L seen).length ≤ L.length := by
  induction L generalizing seen with
  | nil => simp [Class.heirsL]
  | cons c L ih =>
    rw [Class.heirsL]
    split
    · have := ih (c.at_ :: seen); simp; omega
    · have := ih seen; simp; omega

theorem class_set (w : World) (b bb : Nat) (m : Mem) (root a sel xt : Int) (h : RMem w b bb m) :
    Calls Tryz.prog 268 #[.pointer (some ⟨b, 0, none⟩), .int .i64 root, .int .i64 a, .int .i64 sel, .int .i64 xt] w (SetPost b bb (Class.set m root a sel xt) w) := by
  have hmf : ∀ (fn : Fn) (first cap : Array Value) (w : World), (Instr.makeFunc fn first cap).run Tryz.prog w = .ok (.func fn first cap) w := fun _ _ _ _ => rfl
  have H := Lib.hid h
  have hle := h.le
  have hbbw := h.lt.2
  have hlen : (Class.heirs m root a sel).length ≤ m.size := Nat.le_trans (heirsL_len m a sel _ _) (Class.all_len m root)
  have HD : Hid (Class.set m root a sel xt = if Class.heirs m root a sel = [] then (m, -2048)
    else if sel < 1 then (m, -256)
    else if (Class.heirs m root a sel).any (fun c => !Tab.may m c.table sel) then (m, -2051)
    else Class.putL m ⟨sel, xt, a⟩ (Class.heirs m root a sel)) := rfl
  generalize Class.set m root a sel xt = r at HD ⊢
  have hA := Lib.hid (class_heirs ((w.alloc (.cells #[.pointer (some ⟨b, 0, none⟩)] 82)).alloc (.cells #[.int .i64 sel] 2)) b bb m root a sel ((h.allocd _).allocd _))
  generalize Class.heirs m root a sel = L at HD hA hlen
  have hs0 : ((w.alloc (.cells #[.pointer (some ⟨b, 0, none⟩)] 82)).alloc (.cells #[.int .i64 sel] 2)).heap[w.heap.size]? = some (.cells #[.pointer (some ⟨b, 0, none⟩)] 82 (0, 0)) := (halloc_old _ _ (by simp)).trans (halloc_at _ _)
  have hs1 : ((w.alloc (.cells #[.pointer (some ⟨b, 0, none⟩)] 82)).alloc (.cells #[.int .i64 sel] 2)).heap[w.heap.size + 1]? = some (.cells #[.int .i64 sel] 2 (0, 0)) := by
    have := halloc_at (w.alloc (.cells #[.pointer (some ⟨b, 0, none⟩)] 82)) (.cells #[.int .i64 sel] 2)
    rw [World.size_alloc] at this
    exact this
  have HS0 := Lib.hid (cell_of (i := 0) hs0 rfl)
  have HS1 := Lib.hid (cell_of (i := 0) hs1 rfl)
  have HK0 := Lib.hid ((Keeps.alloc (fun _ => False) w (.cells #[.pointer (some ⟨b, 0, none⟩)] 82)).trans (Keeps.alloc (fun _ => False) _ (.cells #[.int .i64 sel] 2)))
  clear h hs0 hs1
  go_enter Tryz.func268, Tryz.ntmps268
  go_wp2_with fail
  refine hA.out.mono ?_
  rintro e w1 ⟨sa, ca, rfl, oa, ka⟩
  have OA := Lib.hid oa
  have c0 := ka.cell HS0.out id
  have c1 := ka.cell HS1.out id
  have C0 := Lib.hid c0
  have C1 := Lib.hid c1
  have M1 := Lib.hid ((H.out.keeps HK0.out id id).keeps ka id id)
  have K1 := Lib.hid (HK0.out.trans ka)
  clear oa ka
  by_cases e1 : L = []
  · have hr := HD.out
    rw [if_pos e1] at hr
    have HR := Lib.hid hr
    clear hr HD
    subst e1
    go_wp2_with fail
    go_ret
    exact ⟨by rw [HR.out]; rfl, by rw [HR.out]; exact M1.out, K1.out.mono (fun _ _ => False.elim)⟩
  · have hr := HD.out
    rw [if_neg e1] at hr
    have e1' : ((L.length : Int) == 0) = false := by
      cases L with
      | nil => exact absurd rfl e1
      | cons c L => simp; omega
    clear HD e1
    by_cases e2 : sel < 1
    · rw [if_pos e2] at hr
      have HR := Lib.hid hr
      clear hr
      go_wp2_with fail
      go_ret
      exact ⟨by rw [HR.out]; rfl, by rw [HR.out]; exact M1.out, K1.out.mono (fun _ _ => False.elim)⟩
    · rw [if_neg e2] at hr
      have e2' : 1 ≤ sel := by omega
      clear e2
      have hC := Lib.hid (cont_func w w1 sa ca L 387 #[.pointer (some ⟨w.heap.size, 0, none⟩), .pointer (some ⟨w.heap.size + 1, 0, none⟩)] (fun c => !Tab.may m c.table sel) ⟨OA.out.1, fun g hg => Nat.le_trans (by simp; omega) (OA.out.2 g hg)⟩ (by omega) Tryz.call387 (fun w' k' x _ => by
        rw [app2]
        exact class_set1 w' b bb m x sel _ _ (M1.out.keeps k' id id) (k'.cell C0.out id) (k'.cell C1.out id)))
      cases e3 : L.any (fun c => !Tab.may m c.table sel) with
      | true =>
        rw [if_pos e3] at hr
        rw [e3] at hC
        have HR := Lib.hid hr
        clear hr e3
        go_wp2_with fail
        refine hC.out.mono ?_
        rintro e w2 ⟨rfl, k2⟩
        have M2 := Lib.hid (M1.out.keeps k2 id id)
        have K2 := Lib.hid (K1.out.trans k2)
        clear k2
        go_wp2_with fail
        go_ret
        exact ⟨by rw [HR.out]; rfl, by rw [HR.out]; exact M2.out, K2.out.mono (fun _ _ => False.elim)⟩
      | false =>
        rw [if_neg (by rw [e3]; simp)] at hr
        rw [e3] at hC
        have HR := Lib.hid hr
        clear hr e3
        go_wp2_with fail
        refine hC.out.mono ?_
        rintro e w2 ⟨rfl, k2⟩
        have C02 := Lib.hid (k2.cell C0.out id)
        have C12 := Lib.hid (k2.cell C1.out id)
        have M2 := Lib.hid (M1.out.keeps k2 id id)
        have K2 := Lib.hid (K1.out.trans k2)
        have O2 := Lib.hid (OwnCls.keeps (W := w) ⟨OA.out.1, fun g hg => Nat.le_trans (by simp; omega) (OA.out.2 g hg)⟩ k2 (fun _ _ => id))
        clear k2 c0 c1
        go_wp2_with fail
        go_loopw [33] (fun iv wr => ∃ (j : Nat) (mj : Mem), iv = .int .i64 j ∧ j ≤ L.length ∧ RMem wr b bb mj ∧ Keeps (fun k => k = bb) w wr ∧ OwnCls w wr sa ca L ∧
            wr.cell? ⟨w.heap.size, 0, none⟩ = some (.pointer (some ⟨b, 0, none⟩)) ∧ wr.cell? ⟨w.heap.size + 1, 0, none⟩ = some (.int .i64 sel) ∧ Class.putL mj ⟨sel, xt, a⟩ (L.drop j) = r)
          (fun iv _ => L.length - (intOf iv).toNat)
        case atStart => exact ⟨0, m, rfl, by omega, M2.out, K2.out.mono (fun _ _ => False.elim), O2.out, C02.out, C12.out, HR.out.symm⟩
        case round =>
          obtain ⟨j, mj, rfl, hj, hm, hk, ho, hc0, hc1, hp⟩ := hrel
          have HM := Lib.hid hm
          have HK := Lib.hid hk
          have HO := Lib.hid ho
          have HC0 := Lib.hid hc0
          have HC1 := Lib.hid hc1
          have HP := Lib.hid hp
          clear hm hk ho hp hC
          by_cases hlt : j < L.length
          · obtain ⟨ga, rfl, hnc, F⟩ := HO.out.get hlt
            have hdrop : L.drop j = L[j] :: L.drop (j + 1) := List.drop_eq_getElem_cons hlt
            have hr := HP.out
            rw [hdrop, Class.putL] at hr
            clear hdrop
            generalize L[j] = x at F hr
            have F0 := F 0 (by omega)
            have F1 := F 1 (by omega)
            have F2 := F 2 (by omega)
            have F3 := F 3 (by omega)
            have F4 := F 4 (by omega)
            simp only [Cls.fld, Nat.add_zero] at F0 F1 F2 F3 F4
            have hl0 := World.block_lt_of_cell? _ _ hc0
            have hl1 := World.block_lt_of_cell? _ _ hc1
            have hg := Lib.hid (tab_put (wr.alloc (.cells #[.int .i64 x.at_, .int .i64 x.parent, .int .i64 x.size, .int .i64 x.table, .int .i64 x.prev] 214)) b bb mj x.table ⟨sel, xt, a⟩ (HM.out.allocd _))
            generalize Tab.put mj x.table ⟨sel, xt, a⟩ = q at hg hr
            obtain ⟨mn, e⟩ := q
            unfold SetPost Ent.val at hg
            simp only at hg hr
            have HR := Lib.hid hr
            clear hr F
            go_wp2_with fail
            refine hg.out.mono ?_
            rintro e1 w3 ⟨rfl, m3, k3⟩
            have M3 := Lib.hid m3
            have k4 := (Keeps.alloc (fun k => k = bb) wr _).trans k3
            have K4 := Lib.hid (HK.out.trans k4)
            have D0 := Lib.hid (k4.cell HC0.out (show ¬ w.heap.size = bb by omega))
            have D1 := Lib.hid (k4.cell HC1.out (show ¬ w.heap.size + 1 = bb by omega))
            have O4 := Lib.hid (HO.out.keeps k4 (fun g hg e => by have := HO.out.2 g hg; have e' : g = bb := e; omega))
            clear m3 k3 k4 hc0 hc1
            by_cases he : e = 0
            · have hr := HR.out
              rw [if_neg (by simpa using he)] at hr
              have he' : (e != 0) = false := by simp [he]
              have HR' := Lib.hid hr
              clear hr he
              go_wp2_with fail
              go_roundw
              case rel => exact ⟨j + 1, mn, by go_num, by omega, M3.out, K4.out, O4.out, D0.out, D1.out, HR'.out⟩
              case measure => simp [intOf]; omega
            · have hr := HR.out
              rw [if_pos he] at hr
              have he' : (e != 0) = true := by simp [he]
              have HR' := Lib.hid hr
              clear hr he
              go_wp2_with fail
              go_ret
              exact ⟨by rw [← HR'.out]; rfl, by rw [← HR'.out]; exact M3.out, K4.out⟩
          · have hge : j = L.length := by omega
            subst hge
            have hr := HP.out
            rw [List.drop_length, Class.putL] at hr
            have HR := Lib.hid hr
            clear hr
            go_wp2_with fail
            go_ret
            exact ⟨by rw [← HR.out]; rfl, by rw [← HR.out]; exact HM.out, HK.out⟩
end Go.Proofs.Shed
set_option linter.unusedVariables false
set_option linter.unusedSimpArgs false
set_option maxRecDepth 10000
set_option maxHeartbeats 2000000
namespace Go.Proofs.Shed
open Go Go.RowKit Go.Proofs.K

theorem infoInt : (Tryz.prog.info? 2).map (fun i => (i.zero, i.size, i.bytes)) = some (some (.int .i64 0), 1, 8) := by kernel_rfl
def intV (L : List Int) : List Value := L.map (.int .i64)
/-- A slice of numbers, of the call's own. -/
def OwnI (W w : World) (a : Option Addr) (c : Nat) (L : List Int) : Prop := Own w 2 1 a L.length c (intV L) ∧ ∀ g, blk a = some g → W.heap.size ≤ g
/-- A slice of numbers, as it came in. -/
def ArgI (w : World) (a : Option Addr) (L : List Int) : Prop := ∀ i (hi : i < L.length), ∃ g o, a = some ⟨g, o, none⟩ ∧ w.cell? ⟨g, o + i, none⟩ = some (.int .i64 L[i])
theorem OwnI.nil (W w : World) : OwnI W w none 0 [] := ⟨Own.nil _ _ _, by simp [blk]⟩
theorem OwnI.keeps {W w w' : World} {a : Option Addr} {c : Nat} {L : List Int} (h : OwnI W w a c L) {S : Nat → Prop} (k : Keeps S w w') (hs : ∀ g, blk a = some g → ¬ S g) : OwnI W w' a c L := ⟨h.1.keeps k hs, h.2⟩
theorem OwnI.more {W w w' : World} {a a' : Option Addr} {c c' : Nat} {L : List Int} (h : OwnI W w a c L) (x : Int) (o : Own w' 2 1 a' (L.length + 1) c' (intV L ++ [.int .i64 x])) (k : Nat) (l : blk a' = blk a ∨ blk a' = some k) (hk : W.heap.size ≤ k) : OwnI W w' a' c' (L ++ [x]) := by
  refine ⟨?_, ?_⟩
  · rw [List.length_append]
    have : intV (L ++ [x]) = intV L ++ [.int .i64 x] := by simp [intV]
    rw [this]
    exact o
  · intro g hg
    rcases l with e | e <;> rw [e] at hg
    · exact h.2 g hg
    · cases hg; exact hk
theorem OwnI.arg {W w : World} {a : Option Addr} {c : Nat} {L : List Int} (h : OwnI W w a c L) : ArgI w a L := by
  intro i hi
  rcases h.1.form with ⟨rfl, hn, rfl, hx⟩ | ⟨g, cur, rfl, hh, hnc, hcm, hcs, htk, hxl⟩
  · omega
  · refine ⟨g, 0, rfl, ?_⟩
    rw [Nat.zero_add]
    exact h.1.cell (by simp [intV, hi])
theorem ArgI.keeps {w w' : World} {a : Option Addr} {L : List Int} (h : ArgI w a L) {S : Nat → Prop} (k : Keeps S w w') (hs : ∀ g, blk a = some g → ¬ S g) : ArgI w' a L := by
  intro i hi
  obtain ⟨g, o, rfl, hc⟩ := h i hi
  exact ⟨g, o, rfl, k.cell hc (hs g rfl)⟩
theorem int_news (w : World) (x : Int) : ∀ j u, [Value.int .i64 x][j]? = some u → (w.alloc (.cells #[.int .i64 x] 2)).cell? ((⟨w.heap.size, 0, none⟩ : Addr).add j) = some u := by
  intro j u hu
  rw [Addr.add_lit, Nat.zero_add]
  refine cell_of (halloc_at _ _) ?_
  simpa using hu
theorem int_one (x : Int) : ∀ u ∈ [Value.int .i64 x], u.oneCell' = true := by
  intro u hu
  simp at hu
  subst hu
  rfl

def SelsPost (r : Option (List Int)) (w : World) (e : Ending) (w' : World) : Prop :=
  ∃ a n c ok, e = .returned (.tuple #[.slice a n c, .bool ok]) ∧ Keeps (fun _ => False) w w' ∧
    match r with
    | none => ok = false
    | some L => ok = true ∧ n = L.length ∧ OwnI w w' a c L

theorem iface_sels (w : World) (b bb : Nat) (m : Mem) (at_ : Int) (h : RMem w b bb m) :
    Calls Tryz.prog 385 #[.pointer (some ⟨b, 0, none⟩), .int .i64 at_] w (SelsPost (Iface.sels m at_) w) := by
  have H := Lib.hid h
  have HD : Hid (Iface.sels m at_ = if (m.cell at_).2 ≠ 0 ∨ (m.cell at_).1 < 0 ∨ 1024 < (m.cell at_).1 then none else Iface.selsN m at_ (m.cell at_).1.toNat 0) := rfl
  have hz : (m.cell at_).2 = 0 → 0 ≤ at_ ∧ at_ ≤ 4194304 := by
    have hle := h.le
    intro hz
    unfold Mem.cell at hz
    split at hz
    · rename_i h3
      rw [Mem.at_zero] at h3
      omega
    · rename_i h3; exact absurd hz h3
  clear h
  generalize Iface.sels m at_ = r at HD ⊢
  have hc := Lib.hid (mem_cell w b bb m at_ H.out)
  generalize m.cell at_ = q at HD hc hz
  obtain ⟨n, e⟩ := q
  simp only at HD hc hz
  have HZ := Lib.hid hz
  clear hz
  go_enter Tryz.func385, Tryz.ntmps385
  go_wp2_with fail
  refine hc.out.mono ?_
  rintro e1 w1 ⟨rfl, rfl⟩
  by_cases he : e = 0
  · have he' : (e != 0) = false := by simp [he]
    obtain ⟨z0, z1⟩ := HZ.out he
    by_cases h1 : n < 0
    · have hr := HD.out
      rw [if_pos (.inr (.inl h1))] at hr
      have HR := Lib.hid hr
      clear hr he
      go_wp2_with fail
      go_ret2
      exact ⟨_, _, _, _, rfl, Keeps.refl _ _, by rw [HR.out]⟩
    · by_cases h2 : 1024 < n
      · have hr := HD.out
        rw [if_pos (.inr (.inr h2))] at hr
        have HR := Lib.hid hr
        have h1' : 0 ≤ n := by omega
        clear hr he h1
        go_wp2_with fail
        go_ret2
        exact ⟨_, _, _, _, rfl, Keeps.refl _ _, by rw [HR.out]⟩
      · have hr := HD.out
        rw [if_neg (by rintro (h | h | h); exact h he; exact h1 h; exact h2 h)] at hr
        have HR := Lib.hid hr
        have h1' : 0 ≤ n := by omega
        have h2' : n ≤ 1024 := by omega
        clear hr he h1 h2 HD
        go_wp2_with fail
        go_loopw [8, 29] (fun ov iv wr => ∃ (L : List Int) (a : Option Addr) (c : Nat) (j : Nat), ov = .slice a L.length c ∧ iv = .int .i64 j ∧ L.length = j ∧ (j : Int) ≤ n ∧ OwnI w wr a c L ∧ Keeps (fun _ => False) w wr ∧
            (Iface.selsN m at_ (n.toNat - j) j).map (L ++ ·) = r)
          (fun _ iv _ => n.toNat - (intOf iv).toNat)
        case atStart => exact ⟨[], none, 0, 0, rfl, rfl, rfl, by omega, OwnI.nil _ _, Keeps.refl _ _, by rw [HR.out]; simp⟩
        case round =>
          obtain ⟨L, a, c, j, rfl, rfl, hLj, hj, ho, hk, hL⟩ := hrel
          have HO := Lib.hid ho
          have HK := Lib.hid hk
          have HL := Lib.hid hL
          have HLj := Lib.hid hLj
          clear ho hk hL
          by_cases hlt : (j : Int) < n
          · have hr := HL.out
            have e1 : n.toNat - j = (n.toNat - (j + 1)) + 1 := by omega
            rw [e1, Iface.selsN] at hr
            have hcc := Lib.hid (mem_cell wr b bb m (at_ + ((j : Int) + 1) * 8) (H.out.keeps HK.out id id))
            generalize m.cell (at_ + ((j : Int) + 1) * 8) = q at hcc hr
            obtain ⟨v, e2⟩ := q
            simp only at hcc hr
            clear e1
            by_cases he2 : e2 = 0
            · rw [if_neg (by simpa using he2)] at hr
              have he2' : (e2 != 0) = false := by simp [he2]
              have HR' := Lib.hid hr
              clear hr he2 hLj
              go_wp2_with fail
              refine hcc.out.mono ?_
              rintro e1 w1 ⟨rfl, rfl⟩
              have hLb : L.length ≤ 1024 := by rw [HLj.out]; omega
              go_wp2_with (first
                | (at_builtin; refine wpList_app rfl _ _ 22 rfl 2 _ 1 8 Tryz.underlying22 infoInt rfl (by decide) a L.length c (intV L) rfl (HO.out.1.keeps (Keeps.alloc (fun _ => False) _ _) (fun _ _ => id)) ⟨wr.heap.size, 0, none⟩ 1 1 [.int .i64 v] rfl rfl (int_news wr v) (int_one v) ?c3 ?c4 ?_))
              case c3 => unfold maxLen; omega
              case c4 => omega
              intro a' c' w3 o3 k3 l3
              have hwr : w.heap.size ≤ wr.heap.size := HK.out.size
              have ka := Keeps.alloc (fun _ => False) wr (.cells #[.int .i64 v] 2)
              have O3 := Lib.hid ((HO.out.keeps ka (fun _ _ => id)).more v o3 _ l3 (by omega))
              have K3 := Lib.hid ((HK.out.trans ka).trans' k3 (fun i hi e => absurd (HO.out.2 i e) (by omega)))
              clear ka o3 k3 l3
              go_wp2_with fail
              go_roundw
              case rel =>
                refine ⟨L ++ [v], a', c', j + 1, by rw [List.length_append]; rfl, by go_num, by rw [List.length_append, HLj.out]; rfl, by omega, O3.out, K3.out, ?_⟩
                rw [← HR'.out, Option.map_map]
                congr 1
                funext l
                simp
              case measure => simp [intOf]; omega
            · rw [if_pos he2] at hr
              have he2' : (e2 != 0) = true := by simp [he2]
              have HR' := Lib.hid hr
              clear hr he2 hLj
              go_wp2_with fail
              refine hcc.out.mono ?_
              rintro e1 w1 ⟨rfl, rfl⟩
              go_wp2_with fail
              go_ret2
              exact ⟨_, _, _, _, rfl, HK.out, by rw [← HR'.out]; rfl⟩
          · have hge : (j : Int) = n := by omega
            have hr := HL.out
            rw [show n.toNat - j = 0 by omega, Iface.selsN] at hr
            have HR' := Lib.hid hr
            clear hr hLj
            go_wp2_with fail
            go_ret2
            exact ⟨_, _, _, _, rfl, HK.out, by rw [← HR'.out, Option.map_some, List.append_nil]; exact ⟨rfl, rfl, HO.out⟩⟩
  · have hr := HD.out
    rw [if_pos (.inl he)] at hr
    have HR := Lib.hid hr
    have he' : (e != 0) = true := by simp [he]
    clear hr he
    go_wp2_with fail
    go_ret2
    exact ⟨_, _, _, _, rfl, Keeps.refl _ _, by rw [HR.out]⟩
end Go.Proofs.Shed
