/- The document's functions for layer 11: Seen. Conditions: the list of classes lies in blocks of its own; each parent stands ahead. -/
import Derived.Test.YthhfkhhhclmimaaWRefB
set_option linter.unusedVariables false
set_option linter.unusedSimpArgs false
set_option maxRecDepth 10000
set_option maxHeartbeats 2000000
namespace Go.Proofs.Shed
open Go Go.RowKit Go.Proofs.K

theorem OwnI.cap {W w : World} {a : Option Addr} {c : Nat} {L : List Int} (h : OwnI W w a c L) : L.length ≤ c := by
  rcases h.1.form with ⟨rfl, hn, rfl, hx⟩ | ⟨g, cur, rfl, hh, hnc, hcm, hcs, htk, hxl⟩
  · omega
  · exact hnc

theorem ref_seen (N : Nat → Prop) (w : World) (a : Option Addr) (n c : Nat) (L : List RCls) (k : Int) (h : RefL N w a n c L) (hok : Ref.Ok L) (hk0 : -1 ≤ k) (hk1 : k < L.length)
    (hl : L.length ≤ 1000000) (ho : ∀ x ∈ L, x.own.length ≤ 1000000) :
    Calls Try.prog 54 #[.slice a n c, .int .i64 k] w fun e w' => e = .returned (.int .i64 (Ref.seenA L k []).length) ∧ Keeps (fun _ => False) w w' := by
  have H := Lib.hid h
  have HOK := Lib.hid hok
  have HO := Lib.hid ho
  obtain rfl : n = L.length := h.1
  clear h hok ho
  obtain ⟨r, hr⟩ : ∃ r, Ref.seenA L k [] = r := ⟨_, rfl⟩
  rw [hr]
  have HR0 := Lib.hid hr
  clear hr
  go_enter Try.func54, Try.ntmps54
  go_wp2_with fail
  go_loopw [1, 5] (fun iv sv wr => ∃ (j : Int) (all : List Int) (sa : Option Addr) (sc : Nat), iv = .int .i64 j ∧ sv = .slice sa all.length sc ∧ -1 ≤ j ∧ j ≤ k ∧ OwnI w wr sa sc all ∧ Keeps (fun _ => False) w wr ∧ (all.length : Int) ≤ (k - j) * 1000000 ∧ Ref.seenA L j all = r)
    (fun iv _ _ => (intOf iv + 1).toNat)
  case atStart => exact ⟨k, [], none, 0, rfl, rfl, hk0, by omega, OwnI.nil _ _, Keeps.refl _ _, by simp, HR0.out⟩
  case round =>
    obtain ⟨j, all, sa, sc, rfl, rfl, hj0, hj1, hs, hk, hal, hr⟩ := hrel
    have HK := Lib.hid hk
    have HS := Lib.hid hs
    clear hk hs
    by_cases hlt : 0 ≤ j
    · obtain ⟨i, rfl⟩ : ∃ i : Nat, j = i := ⟨j.toNat, by omega⟩
      have hi : i < L.length := by omega
      rw [Ref.seenA_step L HOK.out i all hi] at hr
      obtain ⟨g, oa, on, oc, rfl, hNg, hnc, c0', c1', c2', c3', hoa, _⟩ := (H.out.get hi)
      obtain ⟨p0, p1⟩ := HOK.out i hi
      have hol := HO.out L[i] (List.getElem_mem hi)
      generalize L[i] = x at c0' c1' c2' c3' hoa hr p0 p1 hol
      have C0 := Lib.hid c0'
      have C3 := Lib.hid c3'
      have HOA := Lib.hid hoa
      obtain rfl : on = x.own.length := hoa.1
      have hoc := hoa.2.1
      have HR := Lib.hid hr
      clear hr hoa hNg c0' c1' c2' c3'
      go_wp2_with fail
      go_loopw [5, 6] (fun sv mv wr => ∃ (j : Nat) (all : List Int) (sa : Option Addr) (sc : Nat), mv = .int .i64 j ∧ sv = .slice sa all.length sc ∧ j ≤ x.own.length ∧ OwnI w wr sa sc all ∧ Keeps (fun _ => False) w wr ∧
          (all.length : Int) ≤ (k - i) * 1000000 + j ∧ Ref.seenA L x.parent (Ref.addAll all (x.own.drop j)) = r)
        (fun _ mv _ => x.own.length - (intOf mv).toNat)
      case atStart => exact ⟨0, all, sa, sc, rfl, rfl, by omega, HS.out, HK.out, by omega, HR.out⟩
      case round =>
        obtain ⟨j, all, sa, sc, rfl, rfl, hj, hs, hk, hal, hr⟩ := hrel
        have HK := Lib.hid hk
        have HS := Lib.hid hs
        have c0 := hk.cell C0.out id
        have c3 := hk.cell C3.out id
        clear hk hs
        by_cases hlt : j < x.own.length
        · have hdrop : x.own.drop j = x.own[j] :: x.own.drop (j + 1) := List.drop_eq_getElem_cons hlt
          rw [hdrop, Ref.addAll] at hr
          obtain ⟨go_, oo, rfl, d0', d1'⟩ := HOA.out.2.2.2 j hlt
          have D0 := Lib.hid (HK.out.cell d0' id)
          have d0 := D0.out
          clear hdrop d0' d1'
          generalize x.own[j] = y at d0 D0 hr
          obtain ⟨y0, y1⟩ := y
          simp only at d0 D0 hr
          have hcap := HS.out.cap
          have hbig : all.length ≤ 1000001000000 := by omega
          have hh := Lib.hid (ref_has wr sa sc all y0 HS.out.arg hcap hbig)
          by_cases hm : y0 ∈ all
          · rw [if_pos hm] at hr
            rw [decide_eq_true hm] at hh
            have HR := Lib.hid hr
            clear hr hm
            go_wp2_with fail
            refine hh.out.mono ?_
            rintro e w2 ⟨rfl, rfl⟩
            go_wp2_with fail
            go_roundw
            case rel => exact ⟨j + 1, all, sa, sc, by go_num, rfl, by omega, HS.out, HK.out, by omega, HR.out⟩
            case measure => simp [intOf]; omega
          · rw [if_neg hm] at hr
            rw [decide_eq_false hm] at hh
            have HR := Lib.hid hr
            clear hr hm
            go_wp2_with fail
            refine hh.out.mono ?_
            rintro e w2 ⟨rfl, rfl⟩
            go_wp2_with (first
              | (at_builtin; refine wpList_app rfl _ _ 46 rfl 2 _ 1 8 Try.underlying46 infoInt rfl (by decide) sa all.length sc (intV all) rfl (HS.out.1.keeps (Keeps.alloc (fun _ => False) _ _) (fun _ _ => id)) ⟨wr.heap.size, 0, none⟩ 1 1 [.int .i64 y0] rfl rfl (int_news wr y0) (int_one y0) ?c3 ?c4 ?_))
            case c3 => unfold maxLen; omega
            case c4 => omega
            intro a' c' w3 o3 k3 l3
            have hwr : w.heap.size ≤ wr.heap.size := HK.out.size
            have ka := Keeps.alloc (fun _ => False) wr (.cells #[.int .i64 y0] 2)
            have O3 := Lib.hid ((HS.out.keeps ka (fun _ _ => id)).more y0 o3 _ l3 (by omega))
            have K3 := Lib.hid ((HK.out.trans ka).trans' k3 (fun i hi e => absurd (HS.out.2 i e) (by omega)))
            clear ka o3 k3 l3
            go_wp2_with fail
            go_roundw
            case rel => exact ⟨j + 1, all ++ [y0], a', c', by go_num, by rw [List.length_append]; rfl, by omega, O3.out, K3.out, by rw [List.length_append]; simp; omega, HR.out⟩
            case measure => simp [intOf]; omega
        · have hge : j = x.own.length := by omega
          subst hge
          rw [List.drop_length, Ref.addAll] at hr
          have HR := Lib.hid hr
          clear hr
          go_wp2_with fail
          go_roundw
          case rel => exact ⟨x.parent, all, sa, sc, rfl, rfl, p0, by omega, HS.out, HK.out, by omega, HR.out⟩
          case measure => simp [intOf]; omega
    · have hlt' : j < 0 := by omega
      rw [Ref.seenA_neg L j all hlt'] at hr
      have HR := Lib.hid hr
      clear hr
      go_wp2_with fail
      go_ret
      exact ⟨by rw [← HR.out]; rfl, HK.out⟩
end Go.Proofs.Shed
