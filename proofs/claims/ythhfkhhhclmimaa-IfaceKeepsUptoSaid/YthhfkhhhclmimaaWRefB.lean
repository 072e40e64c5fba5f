/- The document's functions for layer 11: Walk, Heir, has, Seen. Conditions: the list of classes lies in blocks of its own; each parent stands ahead. -/
import Derived.Test.YthhfkhhhclmimaaWRef
set_option linter.unusedVariables false
set_option linter.unusedSimpArgs false
set_option maxRecDepth 10000
set_option maxHeartbeats 2000000
namespace Go.Proofs.Shed
open Go Go.RowKit Go.Proofs.K

def walkV (r : Option (Int × Int)) : Ending := match r with
  | some x => .returned (.tuple #[.int .i64 x.1, .int .i64 x.2, .bool true])
  | none => .returned (.tuple #[.int .i64 0, .int .i64 0, .bool false])

theorem ref_walk (N : Nat → Prop) (w : World) (a : Option Addr) (n c : Nat) (L : List RCls) (k sel : Int) (h : RefL N w a n c L) (hok : Ref.Ok L) (hk0 : -1 ≤ k) (hk1 : k < L.length)
    (hl : L.length ≤ 1000000) (ho : ∀ x ∈ L, x.own.length ≤ 1000000) :
    Calls Try.prog 29 #[.slice a n c, .int .i64 k, .int .i64 sel] w fun e w' => e = walkV (Ref.walk L k sel) ∧ Keeps (fun _ => False) w w' := by
  have H := Lib.hid h
  have HOK := Lib.hid hok
  have HO := Lib.hid ho
  obtain rfl : n = L.length := h.1
  clear h hok ho
  have HD : Hid (Ref.walk L k sel = Ref.walk L k sel) := rfl
  generalize hr : Ref.walk L k sel = r at HD ⊢
  have HR0 := Lib.hid hr
  clear hr HD
  go_enter Try.func29, Try.ntmps29
  go_wp2_with fail
  go_loopw [1] (fun iv wr => ∃ j : Int, iv = .int .i64 j ∧ -1 ≤ j ∧ j < L.length ∧ Keeps (fun _ => False) w wr ∧ Ref.walk L j sel = r)
    (fun iv _ => (intOf iv + 1).toNat)
  case atStart => exact ⟨k, rfl, hk0, hk1, Keeps.refl _ _, HR0.out⟩
  case round =>
    obtain ⟨j, rfl, hj0, hj1, hk, hr⟩ := hrel
    have HK := Lib.hid hk
    clear hk
    by_cases hlt : 0 ≤ j
    · obtain ⟨i, rfl⟩ : ∃ i : Nat, j = i := ⟨j.toNat, by omega⟩
      have hi : i < L.length := by omega
      rw [Ref.walk_step L HOK.out i sel hi] at hr
      obtain ⟨g, oa, on, oc, rfl, hNg, hnc, c0, c1, c2, c3, hoa, _⟩ := (H.out.keeps HK.out (fun _ _ => id)).get hi
      obtain ⟨p0, p1⟩ := HOK.out i hi
      have hol := HO.out L[i] (List.getElem_mem hi)
      generalize L[i] = x at c0 c1 c2 c3 hoa hr p0 p1 hol
      have hf := Lib.hid (ref_own N wr x.parent x.size x.slots oa on oc x.own sel hoa hol)
      have HR := Lib.hid hr
      clear hr hoa hNg
      go_wp2_with fail
      refine hf.out.mono ?_
      rintro e w2 ⟨rfl, k2⟩
      have d0 := k2.cell c0 id
      have HK2 := Lib.hid (HK.out.trans k2)
      clear k2
      cases hs : Ref.own x.own sel with
      | some xt =>
        have hr := HR.out
        rw [hs] at hr
        have HR' := Lib.hid hr
        clear hr hs
        unfold optV
        go_wp2_with fail
        exact bodyPost_ret (v := .tuple #[.int .i64 xt, .int .i64 i, .bool true]) (by simp [results, Try.results29, go_sem]) rfl ⟨by rw [← HR'.out]; rfl, HK2.out⟩
      | none =>
        have hr := HR.out
        rw [hs] at hr
        have HR' := Lib.hid hr
        clear hr hs
        unfold optV
        go_wp2_with fail
        go_roundw
        case rel => exact ⟨x.parent, rfl, p0, by omega, HK2.out, HR'.out⟩
        case measure => simp [intOf]; omega
    · have hlt' : j < 0 := by omega
      rw [Ref.walk_neg L j sel hlt'] at hr
      have HR := Lib.hid hr
      clear hr
      go_wp2_with fail
      exact bodyPost_ret (v := .tuple #[.int .i64 0, .int .i64 0, .bool false]) (by simp [results, Try.results29, go_sem]) rfl ⟨by rw [← HR.out]; rfl, HK.out⟩

theorem ref_heir (N : Nat → Prop) (w : World) (a : Option Addr) (n c : Nat) (L : List RCls) (k o sel : Int) (h : RefL N w a n c L) (hok : Ref.Ok L) (hk0 : -1 ≤ k) (hk1 : k < L.length)
    (hl : L.length ≤ 1000000) (ho : ∀ x ∈ L, x.own.length ≤ 1000000) :
    Calls Try.prog 53 #[.slice a n c, .int .i64 k, .int .i64 o, .int .i64 sel] w fun e w' => e = .returned (.bool (Ref.heir L k o sel)) ∧ Keeps (fun _ => False) w w' := by
  have H := Lib.hid h
  have HOK := Lib.hid hok
  have HO := Lib.hid ho
  obtain rfl : n = L.length := h.1
  clear h hok ho
  obtain ⟨r, hr⟩ : ∃ r, Ref.heir L k o sel = r := ⟨_, rfl⟩
  rw [hr]
  have HR0 := Lib.hid hr
  clear hr
  go_enter Try.func53, Try.ntmps53
  go_wp2_with fail
  go_loopw [1] (fun iv wr => ∃ j : Int, iv = .int .i64 j ∧ -1 ≤ j ∧ j < L.length ∧ Keeps (fun _ => False) w wr ∧ Ref.heir L j o sel = r)
    (fun iv _ => (intOf iv + 1).toNat)
  case atStart => exact ⟨k, rfl, hk0, hk1, Keeps.refl _ _, HR0.out⟩
  case round =>
    obtain ⟨j, rfl, hj0, hj1, hk, hr⟩ := hrel
    have HK := Lib.hid hk
    clear hk
    by_cases hlt : 0 ≤ j
    · by_cases he : j = o
      · rw [Ref.heir_end L j o sel (.inr he)] at hr
        have e1 : (j != o) = false := by simp [he]
        have e2 : (j == o) = true := by simp [he]
        rw [decide_eq_true he] at hr
        have HR := Lib.hid hr
        clear hr he
        go_wp2_with fail
        go_ret
        exact ⟨by rw [← HR.out]; rfl, HK.out⟩
      · obtain ⟨i, rfl⟩ : ∃ i : Nat, j = i := ⟨j.toNat, by omega⟩
        have hi : i < L.length := by omega
        have e1 : ((i : Int) != o) = true := by simp [he]
        rw [Ref.heir_step L HOK.out i o sel hi he] at hr
        obtain ⟨g, oa, on, oc, rfl, hNg, hnc, c0, c1, c2, c3, hoa, _⟩ := (H.out.keeps HK.out (fun _ _ => id)).get hi
        obtain ⟨p0, p1⟩ := HOK.out i hi
        have hol := HO.out L[i] (List.getElem_mem hi)
        generalize L[i] = x at c0 c1 c2 c3 hoa hr p0 p1 hol
        have hf := Lib.hid (ref_own N wr x.parent x.size x.slots oa on oc x.own sel hoa hol)
        have HR := Lib.hid hr
        clear hr hoa hNg he
        go_wp2_with fail
        refine hf.out.mono ?_
        rintro e w2 ⟨rfl, k2⟩
        have d0 := k2.cell c0 id
        have HK2 := Lib.hid (HK.out.trans k2)
        clear k2
        cases hs : Ref.own x.own sel with
        | some xt =>
          have hr := HR.out
          rw [hs] at hr
          have HR' := Lib.hid hr
          clear hr hs
          unfold optV
          go_wp2_with fail
          go_ret
          exact ⟨by rw [← HR'.out]; rfl, HK2.out⟩
        | none =>
          have hr := HR.out
          rw [hs] at hr
          have HR' := Lib.hid hr
          clear hr hs
          unfold optV
          go_wp2_with fail
          go_roundw
          case rel => exact ⟨x.parent, rfl, p0, by omega, HK2.out, HR'.out⟩
          case measure => simp [intOf]; omega
    · have hlt' : j < 0 := by omega
      rw [Ref.heir_end L j o sel (.inl hlt')] at hr
      have HR := Lib.hid hr
      clear hr
      go_wp2_with fail
      go_ret
      exact ⟨by rw [← HR.out]; rfl, HK.out⟩

theorem ref_has (w : World) (a : Option Addr) (c : Nat) (L : List Int) (v : Int) (h : ArgI w a L) (hc : L.length ≤ c) (hl : L.length ≤ 1000001000000) :
    Calls Try.prog 90 #[.slice a L.length c, .int .i64 v] w fun e w' => e = .returned (.bool (decide (v ∈ L))) ∧ w = w' := by
  have H := Lib.hid h
  clear h
  obtain ⟨r, hr⟩ : ∃ r, decide (v ∈ L) = r := ⟨_, rfl⟩
  rw [hr]
  have HR0 := Lib.hid hr
  clear hr
  go_enter Try.func90, Try.ntmps90
  go_wp2_with fail
  go_loopw [5] (fun iv wr => ∃ j : Nat, iv = .int .i64 j ∧ j ≤ L.length ∧ w = wr ∧ decide (v ∈ L.drop j) = r)
    (fun iv _ => L.length - (intOf iv).toNat)
  case atStart => exact ⟨0, rfl, by omega, by first | rfl | trivial, HR0.out⟩
  case round =>
    obtain ⟨j, rfl, hj, rfl, hr⟩ := hrel
    by_cases hlt : j < L.length
    · have hdrop : L.drop j = L[j] :: L.drop (j + 1) := List.drop_eq_getElem_cons hlt
      rw [hdrop] at hr
      obtain ⟨g, o, rfl, c0⟩ := H.out j hlt
      clear hdrop
      generalize L[j] = x at c0 hr
      by_cases e : x = v
      · have e' : (x == v) = true := by simp [e]
        have hr' : true = r := by rw [← hr]; simp [e]
        have HR := Lib.hid hr'
        clear hr e hr'
        go_wp2_with fail
        go_ret
        exact ⟨by rw [← HR.out]; rfl, rfl⟩
      · have e' : (x == v) = false := by simp [e]
        have hr' : decide (v ∈ L.drop (j + 1)) = r := by
          rw [← hr]
          have e2 : ¬ v = x := fun h => e h.symm
          simp [e2]
        have HR := Lib.hid hr'
        clear hr e hr'
        go_wp2_with fail
        go_roundw
        case rel => exact ⟨j + 1, by go_num, by omega, by first | rfl | trivial, HR.out⟩
        case measure => simp [intOf]; omega
    · have hge : j = L.length := by omega
      subst hge
      rw [List.drop_length] at hr
      have HR := Lib.hid hr
      clear hr
      go_wp2_with fail
      go_ret
      exact ⟨by rw [← HR.out]; rfl, rfl⟩
end Go.Proofs.Shed
