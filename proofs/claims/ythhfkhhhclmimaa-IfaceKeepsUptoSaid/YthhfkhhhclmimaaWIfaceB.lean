/- Layer 12: New, Missing. Conditions: the space lies in three blocks. -/
import Derived.Test.YthhfkhhhclmimaaWIface
set_option linter.unusedVariables false
set_option linter.unusedSimpArgs false
set_option maxRecDepth 10000
set_option maxHeartbeats 2000000
namespace Go.Proofs.Shed
open Go Go.RowKit Go.Proofs.K

theorem iface_missing (w : World) (b bb : Nat) (m : Mem) (at_ c : Int) (h : RMem w b bb m) (hc0 : -9223372036854775808 ≤ c) (hc1 : c ≤ 9223372036854775807) :
    Calls Try.prog 28 #[.pointer (some ⟨b, 0, none⟩), .int .i64 at_, .int .i64 c] w fun e w' => e = .returned (.tuple #[.int .i64 (Iface.missing m at_ c).1, .int .i64 (Iface.missing m at_ c).2]) ∧ Keeps (fun _ => False) w w' := by
  have H := Lib.hid h
  clear h
  have HD : Hid (Iface.missing m at_ c = match Iface.sels m at_ with
    | none => (0, -256)
    | some l => if (Class.read m c).2 = false then (0, -2048) else Iface.missingL m c l) := rfl
  generalize Iface.missing m at_ c = r at HD ⊢
  have hlen := Iface.sels_len m at_
  have hs := Lib.hid (iface_sels w b bb m at_ H.out)
  generalize Iface.sels m at_ = q at HD hs hlen
  go_enter Try.func28, Try.ntmps28
  go_wp2_with fail
  refine hs.out.mono ?_
  rintro e1 w1 ⟨a, n, ca, ok, rfl, k1, hq⟩
  have K1 := Lib.hid k1
  clear k1
  cases q with
  | none =>
    subst hq
    have HR := Lib.hid (show r = (0, -256) from HD.out)
    clear HD
    go_wp2_with fail
    go_ret2
    exact ⟨by rw [HR.out]; rfl, K1.out⟩
  | some L =>
    obtain ⟨rfl, rfl, ho⟩ := hq
    have hll := hlen L rfl
    have O1 := Lib.hid ho
    have hr : r = if (Class.read m c).2 = false then (0, -2048) else Iface.missingL m c L := HD.out
    have hrd := Lib.hid fun w H => class_read w b bb m c H hc0 hc1
    generalize Class.read m c = q at hr hrd
    obtain ⟨x, is⟩ := q
    unfold readV Cls.val at hrd
    simp only at hr hrd
    clear HD hlen ho
    cases is with
    | false =>
      have HR := Lib.hid hr
      clear hr
      go_wp2_with fail
      refine (hrd.out _ (by exact H.out.keeps K1.out id id)).mono ?_
      rintro e1 w2 ⟨rfl, k2⟩
      have K2 := Lib.hid ((K1.out.trans k2).trans (Keeps.alloc (fun _ => False) w2 (.cells #[.int .i64 x.at_, .int .i64 x.parent, .int .i64 x.size, .int .i64 x.table, .int .i64 x.prev] 114)))
      clear k2
      go_wp2_with fail
      go_ret2
      exact ⟨by rw [HR.out]; rfl, K2.out⟩
    | true =>
      rw [if_neg (by simp)] at hr
      have HR := Lib.hid hr
      clear hr
      go_wp2_with fail
      refine (hrd.out _ (by exact H.out.keeps K1.out id id)).mono ?_
      rintro e1 w2 ⟨rfl, k2⟩
      have k3 := k2.trans (Keeps.alloc (fun _ => False) w2 (.cells #[.int .i64 x.at_, .int .i64 x.parent, .int .i64 x.size, .int .i64 x.table, .int .i64 x.prev] 114))
      have O2 := Lib.hid (O1.out.keeps k3 (fun _ _ => id))
      have K2 := Lib.hid (K1.out.trans k3)
      clear k2 k3
      go_wp2_with fail
      go_loopw [35] (fun iv wr => ∃ (j : Nat), iv = .int .i64 j ∧ j ≤ L.length ∧ OwnI w wr a ca L ∧ Keeps (fun _ => False) w wr ∧ Iface.missingL m c (L.drop j) = r)
        (fun iv _ => L.length - (intOf iv).toNat)
      case atStart => exact ⟨0, rfl, by omega, O2.out, K2.out, HR.out.symm⟩
      case round =>
        obtain ⟨j, rfl, hj, ho, hk, hp⟩ := hrel
        have HO := Lib.hid ho
        have HK := Lib.hid hk
        have HP := Lib.hid hp
        clear ho hk hp
        by_cases hlt : j < L.length
        · obtain ⟨ga, oa, rfl, F0⟩ := HO.out.arg j hlt
          have hnc : L.length ≤ ca := by
            rcases HO.out.1.form with ⟨hx, _⟩ | ⟨g, cur, hx, hh, hnc, _⟩
            · cases hx
            · exact hnc
          have hdrop : L.drop j = L[j] :: L.drop (j + 1) := List.drop_eq_getElem_cons hlt
          have hr := HP.out
          rw [hdrop, Iface.missingL] at hr
          clear hdrop
          generalize L[j] = s at F0 hr
          have hg := Lib.hid (class_lookup wr b bb m c s (H.out.keeps HK.out id id) hc0 hc1)
          generalize Class.lookup m c s = q at hg hr
          obtain ⟨⟨y1, y2, y3⟩, n, is⟩ := q
          unfold getV Ent.val at hg
          simp only at hg hr
          cases is with
          | true =>
            rw [if_pos rfl] at hr
            have HR' := Lib.hid hr
            clear hr
            go_wp2_with fail
            refine hg.out.mono ?_
            rintro e1 w3 ⟨rfl, k3⟩
            have k4 := k3.trans (Keeps.alloc (fun _ => False) w3 (.cells #[.int .i64 y1, .int .i64 y2, .int .i64 y3] 118))
            have K4 := Lib.hid (HK.out.trans k4)
            have O4 := Lib.hid (HO.out.keeps k4 (fun _ _ => id))
            clear k3 k4
            go_wp2_with fail
            go_roundw
            case rel => exact ⟨j + 1, by go_num, by omega, O4.out, K4.out, HR'.out⟩
            case measure => simp [intOf]; omega
          | false =>
            rw [if_neg (by simp)] at hr
            have HR' := Lib.hid hr
            clear hr
            go_wp2_with fail
            refine hg.out.mono ?_
            rintro e1 w3 ⟨rfl, k3⟩
            have k4 := k3.trans (Keeps.alloc (fun _ => False) w3 (.cells #[.int .i64 y1, .int .i64 y2, .int .i64 y3] 118))
            have K4 := Lib.hid (HK.out.trans k4)
            clear k3 k4
            go_wp2_with fail
            go_ret2
            exact ⟨by rw [← HR'.out]; rfl, K4.out⟩
        · have hge : j = L.length := by omega
          subst hge
          have hr := HP.out
          rw [List.drop_length, Iface.missingL] at hr
          have HR' := Lib.hid hr
          clear hr
          go_wp2_with fail
          go_ret2
          exact ⟨by rw [← HR'.out]; rfl, HK.out⟩

theorem iface_new_nil (w : World) (a : Option Addr) (n c : Nat) : Calls Try.prog 27 #[.pointer none, .slice a n c] w fun e w' => e = .returned (.tuple #[.int .i64 0, .int .i64 (-256)]) ∧ w = w' := by
  go_enter Try.func27, Try.ntmps27
  go_wp2
  go_ret2
  exact ⟨rfl, rfl⟩
theorem iface_new_long (w : World) (s : Nat) (a : Option Addr) (n c : Nat) (h : 1024 < n) : Calls Try.prog 27 #[.pointer (some ⟨s, 0, none⟩), .slice a n c] w fun e w' => e = .returned (.tuple #[.int .i64 0, .int .i64 (-256)]) ∧ w = w' := by
  have h' : (1024 : Int) < n := by omega
  go_enter Try.func27, Try.ntmps27
  go_wp2
  go_ret2
  exact ⟨rfl, rfl⟩
end Go.Proofs.Shed
