/- Layer 11: heirs. Conditions: the memory lies in two blocks. -/
import Derived.Test.YthhfkhhhclmimaaWSeen
set_option linter.unusedVariables false
set_option linter.unusedSimpArgs false
set_option maxRecDepth 10000
set_option maxHeartbeats 2000000
namespace Go.Proofs.Shed
open Go Go.RowKit Go.Proofs.K

def Cls.Bd (c : Cls) : Prop := ∀ f, -9223372036854775808 ≤ c.fld f ∧ c.fld f ≤ 9223372036854775807
theorem walkN_bd (m : Mem) (k : Nat) (a last : Int) (hl : last ≤ 9223372036854775807) : ∀ c ∈ Class.walkN m k a last, c.Bd := by
  induction k generalizing a last with
  | zero => simp [Class.walkN]
  | succ k ih =>
    intro c hc
    rw [Class.walkN] at hc
    split at hc
    · rename_i h1
      split at hc
      · rcases List.mem_cons.1 hc with rfl | hc
        · unfold Class.read
          split
          · intro f
            match f with
            | 0 => simp [Cls.fld]
            | 1 => simp [Cls.fld]
            | 2 => simp [Cls.fld]
            | 3 => simp [Cls.fld]
            | _ + 4 => simp [Cls.fld]
          · intro f
            match f with
            | 0 => simp only [Cls.fld]; omega
            | 1 => exact m.cell_bd _
            | 2 => exact m.cell_bd _
            | 3 => exact m.cell_bd _
            | _ + 4 => exact m.cell_bd _
        · exact ih _ _ (by omega) c hc
      · cases hc
    · cases hc
theorem all_bd (m : Mem) (root : Int) (hm : m.size ≤ 4194304) : ∀ c ∈ Class.all m root, c.Bd := by
  intro c hc
  unfold Class.all at hc
  split at hc
  · exact walkN_bd m _ _ m.size (by omega) c (by simpa [Class.walk] using hc)
  · cases hc

theorem class_heirs (w : World) (b bb : Nat) (m : Mem) (root a sel : Int) (h : RMem w b bb m) :
    Calls Try.prog 55 #[.pointer (some ⟨b, 0, none⟩), .int .i64 root, .int .i64 a, .int .i64 sel] w (ClsPost (Class.heirs m root a sel) w) := by
  have hmm := @run_makeMap Try.prog
  have H := Lib.hid h
  have hle := h.le
  have hlen := Class.all_len m root
  have hbd := all_bd m root hle
  clear h
  have HD : Hid (Class.heirs m root a sel = Class.heirsL m a sel (Class.all m root) []) := rfl
  generalize Class.heirs m root a sel = r at HD ⊢
  have hA := Lib.hid fun w H => class_all w b bb m root H
  generalize Class.all m root = A at HD hlen hbd hA
  have HBD := Lib.hid hbd
  clear hbd
  go_enter Try.func55, Try.ntmps55
  go_wp2_with fail
  refine (hA.out _ (by exact H.out.allocd _)).mono ?_
  rintro e w1 ⟨sa, ca, rfl, oa, ka⟩
  have KA := Lib.hid ((Keeps.alloc (fun _ => False) w (.map #[] 0)).trans ka)
  have SA := Lib.hid ((Seen.made w).keeps ka id)
  have OA := Lib.hid oa
  have hsz : w.heap.size + 1 ≤ w1.heap.size := by
    have := ka.size
    rw [World.size_alloc] at this
    exact this
  clear ka oa
  go_wp2_with fail
  go_loopw [9, 21] (fun ov iv wr => ∃ (L : List Cls) (a' : Option Addr) (c : Nat) (j : Nat) (seen : List Int), ov = .slice a' L.length c ∧ iv = .int .i64 j ∧ j ≤ A.length ∧ L.length ≤ j ∧ seen.length ≤ j ∧
      OwnCls w wr a' c L ∧ OwnCls (w.alloc (.map #[] 0)) wr sa ca A ∧ Seen wr w.heap.size seen ∧ RMem wr b bb m ∧ Keeps (fun _ => False) w wr ∧
      (∀ g, blk a' = some g → g ≠ w.heap.size ∧ blk sa ≠ some g) ∧ L ++ Class.heirsL m a sel (A.drop j) seen = r)
    (fun _ iv _ => A.length - (intOf iv).toNat)
  case atStart => exact ⟨[], none, 0, 0, [], rfl, rfl, by omega, by simp, by simp, ⟨Own.nil _ _ _, by simp [blk]⟩, OA.out, SA.out, H.out.keeps KA.out id id, KA.out, by simp [blk], by rw [HD.out]; rfl⟩
  case round =>
    obtain ⟨L, a', c, j, seen, rfl, rfl, hj, hLj, hsj, ho, hoA, hs, hm, hk, hne, hL⟩ := hrel
    have HO := Lib.hid ho
    have HA := Lib.hid hoA
    have HS := Lib.hid hs
    have HM := Lib.hid hm
    have HK := Lib.hid hk
    have HN := Lib.hid hne
    have HL := Lib.hid hL
    clear ho hoA hs hm hk hne hL
    by_cases hlt : j < A.length
    · obtain ⟨ga, rfl, hnc, F⟩ := HA.out.get hlt
      have hdrop : A.drop j = A[j] :: A.drop (j + 1) := List.drop_eq_getElem_cons hlt
      have hbx := HBD.out A[j] (List.getElem_mem hlt)
      have hr := HL.out
      rw [hdrop, Class.heirsL] at hr
      clear hdrop
      generalize A[j] = x at F hr hbx
      have F0 := F 0 (by omega)
      have F1 := F 1 (by omega)
      have F2 := F 2 (by omega)
      have F3 := F 3 (by omega)
      have F4 := F 4 (by omega)
      simp only [Cls.fld, Nat.add_zero] at F0 F1 F2 F3 F4
      have hg := Lib.hid fun w H => tab_get w b bb m x.table sel H
      generalize Tab.get m x.table sel = q at hg hr
      obtain ⟨⟨y1, y2, y3⟩, n, own⟩ := q
      unfold getV Ent.val at hg
      simp only at hg hr
      have HR := Lib.hid hr
      obtain ⟨p0, p1⟩ := hbx 1
      obtain ⟨q0, q1⟩ := hbx 0
      simp only [Cls.fld] at p0 p1 q0 q1
      clear hr F hbx HL
      have HM1 := Lib.hid (HM.out.allocd (.cells #[.int .i64 x.at_, .int .i64 x.parent, .int .i64 x.size, .int .i64 x.table, .int .i64 x.prev] 114))
      go_wp2_with fail
      refine (hg.out _ HM1.out).mono ?_
      rintro e w2 ⟨rfl, k2⟩
      have hB := k2.heap (halloc_at wr _) id
      have hlt2 : wr.heap.size < w2.heap.size := lt_of_heap hB
      have c0 := cell_of (i := 0) hB rfl
      have c1 := cell_of (i := 1) hB rfl
      have c2 := cell_of (i := 2) hB rfl
      have c3 := cell_of (i := 3) hB rfl
      have c4 := cell_of (i := 4) hB rfl
      have KB := Lib.hid (((Keeps.alloc (fun _ => False) wr (.cells #[.int .i64 x.at_, .int .i64 x.parent, .int .i64 x.size, .int .i64 x.table, .int .i64 x.prev] 114)).trans k2).trans (Keeps.alloc (fun _ => False) w2 (.cells #[.int .i64 y1, .int .i64 y2, .int .i64 y3] 118)))
      have SB := Lib.hid (HS.out.keeps KB.out id)
      have hlook := SB.out.look x.parent p0 p1
      have HBB := Lib.hid ((halloc_old w2 (.cells #[.int .i64 y1, .int .i64 y2, .int .i64 y3] 118) hlt2).trans hB)
      have hwr : w.heap.size < wr.heap.size := HS.out.lt
      clear hB k2
      by_cases e1 : x.at_ = a
      · have e1' : (x.at_ == a) = true := by simp [e1]
        have hr := HR.out
        rw [if_pos (.inl e1)] at hr
        clear e1 hlook
        obtain ⟨w3, hrun, s3, k3⟩ := SB.out.put x.at_ q0 q1 (by omega)
        have hB3 := k3.heap HBB.out (show ¬ wr.heap.size = w.heap.size by omega)
        have d0 := cell_of (i := 0) hB3 rfl
        have d1 := cell_of (i := 1) hB3 rfl
        have d2 := cell_of (i := 2) hB3 rfl
        have d3 := cell_of (i := 3) hB3 rfl
        have d4 := cell_of (i := 4) hB3 rfl
        have hlt3 : wr.heap.size < w3.heap.size := lt_of_heap hB3
        have O3 := Lib.hid ((HO.out.keeps KB.out (fun _ _ => id)).keeps k3 (fun g hg e => (HN.out g hg).1 e))
        have A3 := Lib.hid ((HA.out.keeps KB.out (fun _ _ => id)).keeps k3 (fun g hg e => by have := HA.out.2 g hg; rw [World.size_alloc] at this; omega))
        have S3 := Lib.hid s3
        have K3 := Lib.hid k3
        have HR' := Lib.hid hr
        clear hr s3 k3 hB3
        go_wp2_with (first
          | (at_builtin; refine wpList_app rfl _ _ 110 rfl 114 _ 5 40 Try.underlying110 infoCls rfl (by decide) a' L.length c (clsV L) rfl (O3.out.alloc _).1 ⟨w3.heap.size, 0, none⟩ 1 1 x.cells rfl rfl (cls_news w3 x) (cls_one x) ?c3 ?c4 ?_))
        case c3 => unfold maxLen; omega
        case c4 => omega
        intro a'' c' w4 o4 k4 l4
        have O4 := Lib.hid (O3.out.more x o4 _ l4 (by omega))
        have hga : ga < wr.heap.size := HA.out.1.lt rfl
        have ka := Keeps.alloc (fun _ => False) w3 (.cells #[.int .i64 x.at_, .int .i64 x.parent, .int .i64 x.size, .int .i64 x.table, .int .i64 x.prev] 114)
        have hw2 : w.heap.size ≤ w2.heap.size := by omega
        have KK := Lib.hid ((((HK.out.trans KB.out).trans' K3.out (fun i hi e => by have e' : i = w.heap.size := e; omega)).trans ka).trans' k4 (fun i hi e => absurd (HO.out.2 i e) (by omega)))
        have A4 := Lib.hid ((A3.out.keeps ka (fun _ _ => id)).keeps k4 (fun g hg e => (HN.out g e).2 hg))
        have S4 := Lib.hid ((S3.out.keeps ka id).keeps k4 (fun e => (HN.out _ e).1 rfl))
        have N4 : Hid (∀ g, blk a'' = some g → g ≠ w.heap.size ∧ blk (some (⟨ga, 0, none⟩ : Addr)) ≠ some g) := by
          intro g hg
          rcases l4 with e | e
          · exact HN.out g (e ▸ hg)
          · rw [e] at hg
            have hg' : w3.heap.size + 1 = g := Option.some.inj hg
            refine ⟨by omega, fun e' => ?_⟩
            have e'' : ga = g := Option.some.inj e'
            omega
        clear o4 k4 l4 ka
        go_wp2_with fail
        go_roundw
        case rel =>
          refine ⟨L ++ [x], a'', c', j + 1, x.at_ :: seen, by rw [List.length_append]; rfl, by go_num, by omega, by simpa using hLj, by simpa using hsj, O4.out, A4.out, S4.out, H.out.keeps KK.out id id, KK.out, N4.out, ?_⟩
          rw [← HR'.out, List.append_assoc]
          rfl
        case measure => simp [intOf]; omega
      · have e1' : (x.at_ == a) = false := by simp [e1]
        by_cases e2 : x.parent ∈ seen
        · rw [decide_eq_true e2] at hlook
          cases own with
          | false =>
            have hr := HR.out
            rw [if_pos (.inr ⟨e2, by simp⟩)] at hr
            clear e1 e2
            obtain ⟨w3, hrun, s3, k3⟩ := SB.out.put x.at_ q0 q1 (by omega)
            have hB3 := k3.heap HBB.out (show ¬ wr.heap.size = w.heap.size by omega)
            have d0 := cell_of (i := 0) hB3 rfl
            have d1 := cell_of (i := 1) hB3 rfl
            have d2 := cell_of (i := 2) hB3 rfl
            have d3 := cell_of (i := 3) hB3 rfl
            have d4 := cell_of (i := 4) hB3 rfl
            have hlt3 : wr.heap.size < w3.heap.size := lt_of_heap hB3
            have O3 := Lib.hid ((HO.out.keeps KB.out (fun _ _ => id)).keeps k3 (fun g hg e => (HN.out g hg).1 e))
            have A3 := Lib.hid ((HA.out.keeps KB.out (fun _ _ => id)).keeps k3 (fun g hg e => by have := HA.out.2 g hg; rw [World.size_alloc] at this; omega))
            have S3 := Lib.hid s3
            have K3 := Lib.hid k3
            have HR' := Lib.hid hr
            clear hr s3 k3 hB3
            go_wp2_with (first
              | (at_builtin; refine wpList_app rfl _ _ 110 rfl 114 _ 5 40 Try.underlying110 infoCls rfl (by decide) a' L.length c (clsV L) rfl (O3.out.alloc _).1 ⟨w3.heap.size, 0, none⟩ 1 1 x.cells rfl rfl (cls_news w3 x) (cls_one x) ?c3 ?c4 ?_))
            case c3 => unfold maxLen; omega
            case c4 => omega
            intro a'' c' w4 o4 k4 l4
            have O4 := Lib.hid (O3.out.more x o4 _ l4 (by omega))
            have hga : ga < wr.heap.size := HA.out.1.lt rfl
            have ka := Keeps.alloc (fun _ => False) w3 (.cells #[.int .i64 x.at_, .int .i64 x.parent, .int .i64 x.size, .int .i64 x.table, .int .i64 x.prev] 114)
            have hw2 : w.heap.size ≤ w2.heap.size := by omega
            have KK := Lib.hid ((((HK.out.trans KB.out).trans' K3.out (fun i hi e => by have e' : i = w.heap.size := e; omega)).trans ka).trans' k4 (fun i hi e => absurd (HO.out.2 i e) (by omega)))
            have A4 := Lib.hid ((A3.out.keeps ka (fun _ _ => id)).keeps k4 (fun g hg e => (HN.out g e).2 hg))
            have S4 := Lib.hid ((S3.out.keeps ka id).keeps k4 (fun e => (HN.out _ e).1 rfl))
            have N4 : Hid (∀ g, blk a'' = some g → g ≠ w.heap.size ∧ blk (some (⟨ga, 0, none⟩ : Addr)) ≠ some g) := by
              intro g hg
              rcases l4 with e | e
              · exact HN.out g (e ▸ hg)
              · rw [e] at hg
                have hg' : w3.heap.size + 1 = g := Option.some.inj hg
                refine ⟨by omega, fun e' => ?_⟩
                have e'' : ga = g := Option.some.inj e'
                omega
            clear o4 k4 l4 ka
            go_wp2_with fail
            go_roundw
            case rel =>
              refine ⟨L ++ [x], a'', c', j + 1, x.at_ :: seen, by rw [List.length_append]; rfl, by go_num, by omega, by simpa using hLj, by simpa using hsj, O4.out, A4.out, S4.out, H.out.keeps KK.out id id, KK.out, N4.out, ?_⟩
              rw [← HR'.out, List.append_assoc]
              rfl
            case measure => simp [intOf]; omega
          | true =>
            by_cases e3 : y3 = x.at_
            · have e3' : (y3 == x.at_) = true := by simp [e3]
              have hr := HR.out
              rw [if_neg (by simp [e1, e3])] at hr
              clear e1 e2 e3
              have HR' := Lib.hid hr
              clear hr
              go_wp2_with fail
              go_roundw
              case rel =>
                refine ⟨L, a', c, j + 1, seen, rfl, by go_num, by omega, by omega, by omega, HO.out.keeps KB.out (fun _ _ => id), HA.out.keeps KB.out (fun _ _ => id), SB.out, HM.out.keeps KB.out id id, HK.out.trans KB.out, HN.out, HR'.out⟩
              case measure => simp [intOf]; omega
            · have e3' : (y3 == x.at_) = false := by simp [e3]
              have hr := HR.out
              rw [if_pos (.inr ⟨e2, by simp [e3]⟩)] at hr
              clear e1 e2 e3
              obtain ⟨w3, hrun, s3, k3⟩ := SB.out.put x.at_ q0 q1 (by omega)
              have hB3 := k3.heap HBB.out (show ¬ wr.heap.size = w.heap.size by omega)
              have d0 := cell_of (i := 0) hB3 rfl
              have d1 := cell_of (i := 1) hB3 rfl
              have d2 := cell_of (i := 2) hB3 rfl
              have d3 := cell_of (i := 3) hB3 rfl
              have d4 := cell_of (i := 4) hB3 rfl
              have hlt3 : wr.heap.size < w3.heap.size := lt_of_heap hB3
              have O3 := Lib.hid ((HO.out.keeps KB.out (fun _ _ => id)).keeps k3 (fun g hg e => (HN.out g hg).1 e))
              have A3 := Lib.hid ((HA.out.keeps KB.out (fun _ _ => id)).keeps k3 (fun g hg e => by have := HA.out.2 g hg; rw [World.size_alloc] at this; omega))
              have S3 := Lib.hid s3
              have K3 := Lib.hid k3
              have HR' := Lib.hid hr
              clear hr s3 k3 hB3
              go_wp2_with (first
                | (at_builtin; refine wpList_app rfl _ _ 110 rfl 114 _ 5 40 Try.underlying110 infoCls rfl (by decide) a' L.length c (clsV L) rfl (O3.out.alloc _).1 ⟨w3.heap.size, 0, none⟩ 1 1 x.cells rfl rfl (cls_news w3 x) (cls_one x) ?c3 ?c4 ?_))
              case c3 => unfold maxLen; omega
              case c4 => omega
              intro a'' c' w4 o4 k4 l4
              have O4 := Lib.hid (O3.out.more x o4 _ l4 (by omega))
              have hga : ga < wr.heap.size := HA.out.1.lt rfl
              have ka := Keeps.alloc (fun _ => False) w3 (.cells #[.int .i64 x.at_, .int .i64 x.parent, .int .i64 x.size, .int .i64 x.table, .int .i64 x.prev] 114)
              have hw2 : w.heap.size ≤ w2.heap.size := by omega
              have KK := Lib.hid ((((HK.out.trans KB.out).trans' K3.out (fun i hi e => by have e' : i = w.heap.size := e; omega)).trans ka).trans' k4 (fun i hi e => absurd (HO.out.2 i e) (by omega)))
              have A4 := Lib.hid ((A3.out.keeps ka (fun _ _ => id)).keeps k4 (fun g hg e => (HN.out g e).2 hg))
              have S4 := Lib.hid ((S3.out.keeps ka id).keeps k4 (fun e => (HN.out _ e).1 rfl))
              have N4 : Hid (∀ g, blk a'' = some g → g ≠ w.heap.size ∧ blk (some (⟨ga, 0, none⟩ : Addr)) ≠ some g) := by
                intro g hg
                rcases l4 with e | e
                · exact HN.out g (e ▸ hg)
                · rw [e] at hg
                  have hg' : w3.heap.size + 1 = g := Option.some.inj hg
                  refine ⟨by omega, fun e' => ?_⟩
                  have e'' : ga = g := Option.some.inj e'
                  omega
              clear o4 k4 l4 ka
              go_wp2_with fail
              go_roundw
              case rel =>
                refine ⟨L ++ [x], a'', c', j + 1, x.at_ :: seen, by rw [List.length_append]; rfl, by go_num, by omega, by simpa using hLj, by simpa using hsj, O4.out, A4.out, S4.out, H.out.keeps KK.out id id, KK.out, N4.out, ?_⟩
                rw [← HR'.out, List.append_assoc]
                rfl
              case measure => simp [intOf]; omega
        · rw [decide_eq_false e2] at hlook
          have hr := HR.out
          rw [if_neg (by simp [e1, e2])] at hr
          clear e1 e2
          have HR' := Lib.hid hr
          clear hr
          go_wp2_with fail
          go_roundw
          case rel =>
            refine ⟨L, a', c, j + 1, seen, rfl, by go_num, by omega, by omega, by omega, HO.out.keeps KB.out (fun _ _ => id), HA.out.keeps KB.out (fun _ _ => id), SB.out, HM.out.keeps KB.out id id, HK.out.trans KB.out, HN.out, HR'.out⟩
          case measure => simp [intOf]; omega
    · have hge : j = A.length := by omega
      subst hge
      have hr := HL.out
      rw [List.drop_length, Class.heirsL, List.append_nil] at hr
      have HR := Lib.hid hr
      clear hr
      go_wp2_with fail
      go_ret
      exact ⟨a', c, by rw [← HR.out]; rfl, by rw [← HR.out]; exact HO.out, HK.out⟩
end Go.Proofs.Shed
