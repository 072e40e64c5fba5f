/- Layer 12: New. Conditions: the space lies in three blocks. -/
import Derived.Test.YthhfkhhhclmimaaWIfaceB
set_option linter.unusedVariables false
set_option linter.unusedSimpArgs false
set_option maxRecDepth 10000
set_option maxHeartbeats 2000000
namespace Go.Proofs.Shed
open Go Go.RowKit Go.Proofs.K


theorem iface_new (w : World) (s b bb : Nat) (x : Sp) (a : Option Addr) (c : Nat) (L : List Int) (h : RSp w s b bb x) (hA : ArgI w a L) (hl : L.length ≤ 1024) (hne : 0 < L.length → ∀ g, blk a = some g → g ≠ s ∧ g ≠ bb) :
    Calls Try.prog 27 #[.pointer (some ⟨s, 0, none⟩), .slice a L.length c] w (MkPost s b bb (Iface.new x L) w) := by
  have H := Lib.hid h
  have hsw : s < w.heap.size := lt_of_heap h.head
  have hbw := h.mem.lt.2
  have HA := Lib.hid hA
  have HN := Lib.hid hne
  clear h hA hne
  have hd : Iface.new x L = if (Iface.newR x L).2 ≠ 0 then (((Iface.newR x L).1.back x.here).1, 0, (Iface.newR x L).2) else ((Iface.newR x L).1, x.align.1.here, 0) := by
    unfold Iface.new
    rw [if_neg (by omega)]
  generalize Iface.new x L = r at hd ⊢
  have hq : Iface.cells ((L.length : Int) :: L) x.align = Iface.newR x L := rfl
  generalize Iface.newR x L = q at hd hq
  have hg := Lib.hid (sp_align w s b bb x H.out)
  generalize x.align = z at hd hq hg
  obtain ⟨z, e⟩ := z
  simp only at hd
  have HQ := Lib.hid hq
  clear hq
  have hd' := Lib.hid hd
  clear hd
  have hle' : (L.length : Int) ≤ 1024 := by omega
  go_enter Try.func27, Try.ntmps27
  go_wp2_with fail
  refine (sp_here _ _ _ _ _ H.out).mono ?_
  rintro e1 w1 ⟨rfl, rfl⟩
  go_wp2_with fail
  refine hg.out.mono ?_
  rintro e1 w1 ⟨rfl, s1, k1⟩
  have S1 := Lib.hid s1
  have K1 := Lib.hid k1
  clear s1 k1
  go_wp2_with fail
  refine (sp_here _ _ _ _ _ S1.out).mono ?_
  rintro e1 w2 ⟨rfl, rfl⟩
  have hw1 : w.heap.size ≤ w1.heap.size := K1.out.size
  have O1 : Hid (Own (w1.alloc (.cells #[.int .i64 (L.length : Int)] 2)) 2 1 (some ⟨w1.heap.size, 0, none⟩) 1 1 [.int .i64 (L.length : Int)]) :=
    ⟨rfl, .inr ⟨w1.heap.size, 1, #[.int .i64 (L.length : Int)], rfl, by simp, halloc_at _ _, by simp, by unfold maxLen; omega, by simp, by simp⟩⟩
  have A1 : ∀ j u, (intV L)[j]? = some u → ∀ ad, a = some ad → (w1.alloc (.cells #[.int .i64 (L.length : Int)] 2)).cell? (ad.add j) = some u := by
    intro j u hu ad had
    have hj : j < L.length := by
      have := (List.getElem?_eq_some_iff.1 hu).1
      simpa [intV] using this
    have hA1 := (HA.out.keeps K1.out (fun g hg e => by obtain ⟨n1, n2⟩ := HN.out (by omega) g hg; rcases e with e | e; exact n1 e; exact n2 e)).keeps (Keeps.alloc (fun _ => False) w1 (.cells #[.int .i64 (L.length : Int)] 2)) (fun _ _ => id)
    obtain ⟨g, o, e, hc⟩ := hA1 j hj
    rw [had] at e
    cases e
    rw [Addr.add_lit, hc]
    rw [← hu]
    simp [intV, hj]
  have O1' := O1
  have A1' := Lib.hid A1
  clear A1
  cases a with
  | none =>
    have hL : L = [] := by
      cases L with
      | nil => rfl
      | cons v L =>
        obtain ⟨g, o, e, _⟩ := HA.out 0 (by simp)
        cases e
    have HL0 : Hid (L.length = 0) := by rw [hL]; rfl
    have S3 := Lib.hid (S1.out.keeps (Keeps.alloc (fun _ => False) w1 (.cells #[.int .i64 0] 2)) id id id)
    have K3 := Lib.hid (K1.out.trans (Keeps.alloc (fun k => k = s ∨ k = bb) w1 (.cells #[.int .i64 0] 2)))
    have O3 : Hid (OwnI w (w1.alloc (.cells #[.int .i64 0] 2)) (some ⟨w1.heap.size, 0, none⟩) 1 ((L.length : Int) :: L)) := by
      refine ⟨?_, ?_⟩
      · rw [hL]
        exact ⟨rfl, .inr ⟨w1.heap.size, 1, #[.int .i64 0], rfl, by simp, halloc_at _ _, by simp, by unfold maxLen; omega, by simp, by simp [intV]⟩⟩
      · intro g hg
        have e' : w1.heap.size = g := Option.some.inj hg
        omega
    have hd := hd'.out
    have hL0 := HL0.out
    clear hL O1 O1' A1'
    go_wp2_with fail
    clear hL0
    generalize w1.alloc (.cells #[.int .i64 0] 2) = w3 at S3 K3 O3 ⊢
    generalize ha' : (some ⟨w1.heap.size, 0, none⟩ : Option Addr) = a' at O3 ⊢
    obtain ⟨c', hc'⟩ : ∃ c' : Nat, c' = 1 := ⟨1, rfl⟩
    rw [← hc'] at O3
    have hb3 : L.length + 1 ≤ 1025 := by omega
    try go_wp2_with fail
    go_loopw [7, 30] (fun ev iv wr => ∃ (y : Sp) (e : Int) (j : Nat), ev = .int .i64 e ∧ iv = .int .i64 j ∧ j ≤ L.length + 1 ∧ RSp wr s b bb y ∧ Keeps (fun k => k = s ∨ k = bb) w wr ∧ OwnI w wr a' c' ((L.length : Int) :: L) ∧
        Iface.cells (((L.length : Int) :: L).drop j) (y, e) = q) (fun _ iv _ => L.length + 1 - (intOf iv).toNat)
    case atStart => exact ⟨z, e, 0, rfl, rfl, by omega, S3.out, K3.out, O3.out, HQ.out⟩
    case round =>
      obtain ⟨y, e, j, rfl, rfl, hj, hs, hk, ho, hq⟩ := hrel
      have HS := Lib.hid hs
      have HK := Lib.hid hk
      have HO := Lib.hid ho
      have HQ' := Lib.hid hq
      clear hs hk ho hq
      by_cases hlt : j < L.length + 1
      · first | (have hj1 : (j : Int) < 1 := by (have := HL0.out; omega)) | skip
        have hlt' : j < ((L.length : Int) :: L).length := hlt
        obtain ⟨ga, oa, rfl, F0⟩ := HO.out.arg j hlt'
        have hnc : L.length + 1 ≤ c' := by
          rcases HO.out.1.form with ⟨hx, _⟩ | ⟨g, cur, hx, hh, hnc, _⟩
          · cases hx
          · exact hnc
        have hdrop := List.drop_eq_getElem_cons hlt'
        have hq := HQ'.out
        rw [hdrop, Iface.cells] at hq
        clear hdrop
        generalize ((L.length : Int) :: L)[j] = v at F0 hq
        by_cases he : e = 0
        · have he' : (e == 0) = true := by simp [he]
          rw [if_pos he] at hq
          have hg := Lib.hid (sp_comma wr s b bb y v HS.out)
          generalize y.comma v = p at hg hq
          obtain ⟨y', e'⟩ := p
          have HR' := Lib.hid hq
          clear hq he
          go_wp2_with fail
          refine hg.out.mono ?_
          rintro e1 w3 ⟨rfl, s3, k3⟩
          have S4 := Lib.hid s3
          have K4 := Lib.hid (HK.out.trans k3)
          have O4 := Lib.hid (HO.out.keeps k3 (fun g hg e => by have := HO.out.2 g hg; rcases e with e | e <;> omega))
          clear s3 k3
          go_wp2_with fail
          go_roundw
          case rel => exact ⟨y', e', j + 1, rfl, by go_num, by omega, S4.out, K4.out, O4.out, HR'.out⟩
          case measure => simp [intOf]; omega
        · have he' : (e == 0) = false := by simp [he]
          rw [if_neg he] at hq
          have HR' := Lib.hid hq
          clear hq he
          go_wp2_with fail
          go_roundw
          case rel => exact ⟨y, e, j + 1, rfl, by go_num, by omega, HS.out, HK.out, HO.out, HR'.out⟩
          case measure => simp [intOf]; omega
      · first | (have hj1 : (1 : Int) ≤ j := by (have := HL0.out; omega)) | skip
        have hge : j = L.length + 1 := by omega
        subst hge
        have hq := HQ'.out
        rw [List.drop_eq_nil_of_le (by simp), Iface.cells] at hq
        rw [← hq] at hd
        have HR := Lib.hid hd
        clear hd hq
        by_cases he : e = 0
        · have he' : (e != 0) = false := by simp [he]
          have hr := HR.out
          rw [if_neg (by simpa using he)] at hr
          have HR' := Lib.hid hr
          clear he hr
          go_wp2_with fail
          go_ret2
          exact ⟨by rw [HR'.out]; rfl, by rw [HR'.out]; exact HS.out, HK.out⟩
        · have he' : (e != 0) = true := by simp [he]
          have hr := HR.out
          rw [if_pos (by simpa using he)] at hr
          have HR' := Lib.hid hr
          clear he hr
          go_wp2_with fail
          refine (sp_back wr s b bb y x.here HS.out).mono ?_
          rintro e1 w4 ⟨rfl, s4, k4⟩
          have S4 := Lib.hid s4
          have K4 := Lib.hid (HK.out.trans k4)
          clear s4 k4
          go_wp2_with fail
          go_ret2
          exact ⟨by rw [HR'.out]; rfl, by rw [HR'.out]; exact S4.out, K4.out⟩
  | some ad =>
    go_wp2_with (first
      | (at_builtin; refine wpList_app rfl _ _ 46 rfl 2 _ 1 8 Try.underlying46 infoInt rfl (by decide) (some ⟨w1.heap.size, 0, none⟩) 1 1 [.int .i64 (L.length : Int)] rfl O1.out ad L.length c (intV L) rfl (by simp [intV]) (fun j u hu => A1'.out j u hu ad rfl) ?c2 ?c3 ?c4 ?_))
    case c2 =>
      intro u hu
      simp [intV] at hu
      obtain ⟨_, _, rfl⟩ := hu
      rfl
    case c3 => unfold maxLen; omega
    case c4 => omega
    intro a' c' w3 o3 k3 l3
    have ka := Keeps.alloc (fun k => k = s ∨ k = bb) w1 (.cells #[.int .i64 (L.length : Int)] 2)
    have k13 := ka.trans' k3 (fun i hi e => by have e' : w1.heap.size = i := Option.some.inj e; omega)
    have S3 := Lib.hid (S1.out.keeps (S := fun k => k = w1.heap.size) ((Keeps.alloc (fun k => k = w1.heap.size) w1 (.cells #[.int .i64 (L.length : Int)] 2)).trans' k3 (fun i hi e => (Option.some.inj e).symm)) (by omega) (by have := S1.out.mem.lt; omega) (by omega))
    have K3 := Lib.hid (K1.out.trans k13)
    have O3 : Hid (OwnI w w3 a' c' ((L.length : Int) :: L)) := by
      refine ⟨?_, ?_⟩
      · have e : ((L.length : Int) :: L).length = 1 + L.length := by simp; omega
        rw [e]
        exact o3
      · intro g hg
        rcases l3 with e | e <;> rw [e] at hg
        · have e' : w1.heap.size = g := Option.some.inj hg
          omega
        · have e' : w1.heap.size + 1 = g := Option.some.inj hg
          omega
    clear o3 k3 l3 ka k13 O1 O1'
    have hd := hd'.out
    rw [Nat.add_comm 1 L.length]
    have hb3 : L.length + 1 ≤ 1025 := by omega
    try go_wp2_with fail
    go_loopw [7, 30] (fun ev iv wr => ∃ (y : Sp) (e : Int) (j : Nat), ev = .int .i64 e ∧ iv = .int .i64 j ∧ j ≤ L.length + 1 ∧ RSp wr s b bb y ∧ Keeps (fun k => k = s ∨ k = bb) w wr ∧ OwnI w wr a' c' ((L.length : Int) :: L) ∧
        Iface.cells (((L.length : Int) :: L).drop j) (y, e) = q) (fun _ iv _ => L.length + 1 - (intOf iv).toNat)
    case atStart => exact ⟨z, e, 0, rfl, rfl, by omega, S3.out, K3.out, O3.out, HQ.out⟩
    case round =>
      obtain ⟨y, e, j, rfl, rfl, hj, hs, hk, ho, hq⟩ := hrel
      have HS := Lib.hid hs
      have HK := Lib.hid hk
      have HO := Lib.hid ho
      have HQ' := Lib.hid hq
      clear hs hk ho hq
      by_cases hlt : j < L.length + 1
      · first | (have hj1 : (j : Int) < 1 := by (have := HL0.out; omega)) | skip
        have hlt' : j < ((L.length : Int) :: L).length := hlt
        obtain ⟨ga, oa, rfl, F0⟩ := HO.out.arg j hlt'
        have hnc : L.length + 1 ≤ c' := by
          rcases HO.out.1.form with ⟨hx, _⟩ | ⟨g, cur, hx, hh, hnc, _⟩
          · cases hx
          · exact hnc
        have hdrop := List.drop_eq_getElem_cons hlt'
        have hq := HQ'.out
        rw [hdrop, Iface.cells] at hq
        clear hdrop
        generalize ((L.length : Int) :: L)[j] = v at F0 hq
        by_cases he : e = 0
        · have he' : (e == 0) = true := by simp [he]
          rw [if_pos he] at hq
          have hg := Lib.hid (sp_comma wr s b bb y v HS.out)
          generalize y.comma v = p at hg hq
          obtain ⟨y', e'⟩ := p
          have HR' := Lib.hid hq
          clear hq he
          go_wp2_with fail
          refine hg.out.mono ?_
          rintro e1 w3 ⟨rfl, s3, k3⟩
          have S4 := Lib.hid s3
          have K4 := Lib.hid (HK.out.trans k3)
          have O4 := Lib.hid (HO.out.keeps k3 (fun g hg e => by have := HO.out.2 g hg; rcases e with e | e <;> omega))
          clear s3 k3
          go_wp2_with fail
          go_roundw
          case rel => exact ⟨y', e', j + 1, rfl, by go_num, by omega, S4.out, K4.out, O4.out, HR'.out⟩
          case measure => simp [intOf]; omega
        · have he' : (e == 0) = false := by simp [he]
          rw [if_neg he] at hq
          have HR' := Lib.hid hq
          clear hq he
          go_wp2_with fail
          go_roundw
          case rel => exact ⟨y, e, j + 1, rfl, by go_num, by omega, HS.out, HK.out, HO.out, HR'.out⟩
          case measure => simp [intOf]; omega
      · first | (have hj1 : (1 : Int) ≤ j := by (have := HL0.out; omega)) | skip
        have hge : j = L.length + 1 := by omega
        subst hge
        have hq := HQ'.out
        rw [List.drop_eq_nil_of_le (by simp), Iface.cells] at hq
        rw [← hq] at hd
        have HR := Lib.hid hd
        clear hd hq
        by_cases he : e = 0
        · have he' : (e != 0) = false := by simp [he]
          have hr := HR.out
          rw [if_neg (by simpa using he)] at hr
          have HR' := Lib.hid hr
          clear he hr
          go_wp2_with fail
          go_ret2
          exact ⟨by rw [HR'.out]; rfl, by rw [HR'.out]; exact HS.out, HK.out⟩
        · have he' : (e != 0) = true := by simp [he]
          have hr := HR.out
          rw [if_pos (by simpa using he)] at hr
          have HR' := Lib.hid hr
          clear he hr
          go_wp2_with fail
          refine (sp_back wr s b bb y x.here HS.out).mono ?_
          rintro e1 w4 ⟨rfl, s4, k4⟩
          have S4 := Lib.hid s4
          have K4 := Lib.hid (HK.out.trans k4)
          clear s4 k4
          go_wp2_with fail
          go_ret2
          exact ⟨by rw [HR'.out]; rfl, by rw [HR'.out]; exact S4.out, K4.out⟩
end Go.Proofs.Shed
