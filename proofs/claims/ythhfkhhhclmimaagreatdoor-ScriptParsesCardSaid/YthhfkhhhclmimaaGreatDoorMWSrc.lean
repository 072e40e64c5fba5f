/- Layer 9: New, blank, Word. Conditions: the text lies in a block of its own, and is not longer than 2^40 bytes. -/
import Derived.Test.YthhfkhhhclmimaaGreatDoorMWM
import Derived.Test.YthhfkhhhclmimaaGreatDoorMWA
import Derived.Test.YthhfkhhhclmimaaGreatDoorMPA
import Derived.IntWalk
import Derived.Deep.CutBlock
set_option linter.unusedVariables false
set_option linter.unusedSimpArgs false
set_option maxRecDepth 10000
set_option maxHeartbeats 4000000
namespace Go.Proofs.Shed
open Go Go.RowKit Go.Proofs.K

structure RSrc (w : World) (q : Nat) (s : List UInt8) (n : Nat) : Prop where
  head : w.heap[q]? = some (.cells #[.string ⟨s.toArray⟩, .int .i64 (n : Int)] 172 (0, 0))
  le : n ≤ s.length
  small : s.length ≤ 1099511627776
theorem RSrc.keeps {w w' : World} {q : Nat} {s : List UInt8} {n : Nat} (h : RSrc w q s n) {S : Nat → Prop} (k : Keeps S w w') (h0 : ¬ S q) : RSrc w' q s n := ⟨k.heap h.head h0, h.le, h.small⟩
theorem RSrc.at_ {w : World} {q : Nat} {s : List UInt8} {n : Nat} (h : RSrc w q s n) (m : Nat) (hm : m ≤ s.length) : RSrc (w.setCell ⟨q, 1, none⟩ (.int .i64 (m : Int))) q s m := ⟨hset_same h.head _, hm, h.small⟩
theorem src_new (w : World) (s : List UInt8) (hs : s.length ≤ 1099511627776) : Calls Tryz.prog 74 #[.string ⟨s.toArray⟩] w fun e w' => e = .returned (.pointer (some ⟨w.heap.size, 0, none⟩)) ∧ RSrc w' w.heap.size s 0 ∧ Keeps (fun _ => False) w w' := by
  have HS := Lib.hid hs
  clear hs
  go_enter Tryz.func74, Tryz.ntmps74
  go_wp2_with fail
  go_ret
  exact ⟨rfl, ⟨halloc_at w _, Nat.zero_le _, HS.out⟩, Keeps.alloc _ _ _⟩
theorem src_blank (w : World) (c : UInt8) : Calls Tryz.prog 141 #[.int .u8 (c.toNat : Int)] w fun e w' => e = .returned (.bool (Src.blank c)) ∧ Keeps (fun _ => False) w w' := by
  have HB : Hid (Src.blank c = decide (c.toNat ≤ 32)) := rfl
  generalize Src.blank c = r at HB ⊢
  generalize c.toNat = x at HB ⊢
  by_cases h : x ≤ 32
  · have d1 : decide ((x : Int) ≤ 32) = true := decide_eq_true (by omega)
    go_enter Tryz.func141, Tryz.ntmps141
    go_wp2_with fail
    go_ret
    refine ⟨?_, Keeps.refl _ _⟩
    rw [HB.out, decide_eq_true h]
    rfl
  · have d1 : decide ((x : Int) ≤ 32) = false := decide_eq_false (by omega)
    go_enter Tryz.func141, Tryz.ntmps141
    go_wp2_with fail
    go_ret
    refine ⟨?_, Keeps.refl _ _⟩
    rw [HB.out, decide_eq_false h]
    rfl
/-- How far it was read, off the world. -/
def srcAt (w : World) (q : Nat) : Nat := match w.cell? ⟨q, 1, none⟩ with
  | some v => (intOf v).toNat
  | none => 0
theorem RSrc.at_is {w : World} {q : Nat} {s : List UInt8} {n : Nat} (h : RSrc w q s n) : srcAt w q = n := by
  unfold srcAt
  rw [cell_of (i := 1) h.head rfl]
  simp [intOf]
theorem str_extract (s : List UInt8) (i j : Nat) (hij : i ≤ j) : Value.string ((⟨s.toArray⟩ : ByteArray).extract i j) = .string ⟨((s.drop i).take (j - i)).toArray⟩ := by
  congr 1
  apply ByteArray.ext
  rw [ByteArray.data_extract]
  apply Array.ext'
  simp [List.take_drop]
theorem src_word (w : World) (q : Nat) (s : List UInt8) (n : Nat) (h : RSrc w q s n) :
    Calls Tryz.prog 76 #[.pointer (some ⟨q, 0, none⟩)] w fun e w' => e = .returned (.string ⟨(Src.word s n).1.toArray⟩) ∧ RSrc w' q s (Src.word s n).2 ∧ Keeps (fun g => g = q) w w' := by
  have H := Lib.hid h
  have hsm := h.small
  have hle := h.le
  clear h
  go_enter Tryz.func76, Tryz.ntmps76
  go_upto_block 0 with (fail)
  go_cut [] (fun wx => ∃ i, Src.skip s n = i ∧ RSrc wx q s i ∧ Keeps (fun g => g = q) w wx)
  case first =>
    go_wp2_with fail
    go_loopw [] (fun wr => ∃ i : Nat, n ≤ i ∧ RSrc wr q s i ∧ (∀ k (hk : k < s.length), n ≤ k → k < i → Src.blank s[k] = true) ∧ Keeps (fun g => g = q) w wr) (fun wr => s.length - srcAt wr q)
    case atStart => exact ⟨n, Nat.le_refl _, H.out, fun k hk h1 h2 => by omega, Keeps.refl _ _⟩
    case round =>
      obtain ⟨i, hni, hr, hb, hk⟩ := hrel
      have hil := hr.le
      have HR := Lib.hid hr
      have HB := Lib.hid hb
      have HK := Lib.hid hk
      have x0 := fun (p : Stay wr) => p.2.cell (cell_of (i := 0) hr.head rfl) id
      have x1 := fun (p : Stay wr) => p.2.cell (cell_of (i := 1) hr.head rfl) id
      clear hr hb hk
      by_cases hlt : i < s.length
      · have hi0 : (0 : Int) ≤ (i : Int) := by omega
        have hi1 : (i : Int) < (s.length : Int) := by omega
        have d1 : decide ((i : Int) < (s.length : Int)) = true := decide_eq_true hi1
        have hbl := Lib.hid fun (p : Stay wr) => src_blank p.1 s[i]
        generalize hsb : Src.blank s[i] = r at hbl
        have HSB := Lib.hid hsb
        clear hsb
        go_wp2_with fail
        refine Go.Proofs.K.wp_region_calm ?calm1a ?calm1b ?_
        case calm1a => kernel_rfl
        case calm1b => kernel_rfl
        repeat ((with_reducible refine wpQuiet_step ?_); intro Kq hKq; go_simp; first | ((with_reducible refine hKq _ ?_); clear hKq Kq) | (refine hKq _ ?_; clear hKq Kq) | (apply Exists.intro; refine ⟨fun _ => ?_, hKq _ ?_⟩; (exact K.calm_of (hbl.out _)); clear hKq Kq))
        with_reducible refine wpQuiet_nil ?_
        intro v1 hw'
        obtain ⟨⟨wq, kq⟩, hw''⟩ := hw'
        subst hw''
        have KV := Lib.hid kq
        clear kq x0 x1 hbl
        have c1 := cell_of (i := 1) (HR.out.keeps KV.out id).head rfl
        have f1 := free_of (i := 1) (HR.out.keeps KV.out id).head
        cases r with
        | true =>
          have R2 := Lib.hid ((HR.out.keeps KV.out id).at_ (i + 1) (by omega))
          have K2 := Lib.hid ((HK.out.trans (KV.out.mono (fun _ _ e => e.elim))).trans (Keeps.setCell (S := fun g => g = q) v1 ⟨q, 1, none⟩ (.int .i64 (((i + 1 : Nat) : Nat) : Int)) (fun _ => rfl)))
          go_wp2_with fail
          go_roundw
          case rel => exact ⟨i + 1, by omega, R2.out, fun k hk h1 h2 => by
            by_cases hki : k = i
            · subst hki; exact HSB.out
            · exact HB.out k hk h1 (by omega), K2.out⟩
          case measure =>
            have e1 := R2.out.at_is
            have e2 := HR.out.at_is
            push_cast at e1
            rw [e1, e2]
            omega
        | false =>
          have hsk : Src.skip s n = i := Src.skip_is s n i hni hil HB.out (.inr ⟨hlt, HSB.out⟩)
          have HSK := Lib.hid hsk
          clear hsk
          go_wp2_with fail
          go_meet
          exact ⟨i, HSK.out, HR.out.keeps KV.out id, HK.out.trans (KV.out.mono (fun _ _ e => e.elim))⟩
      · have hge : i = s.length := by omega
        have hsk : Src.skip s n = i := Src.skip_is s n i hni hil HB.out (.inl hge)
        have HSK := Lib.hid hsk
        have d1 : decide ((i : Int) < (s.length : Int)) = false := decide_eq_false (by omega)
        clear hsk hge
        go_wp2_with fail
        refine Go.Proofs.K.wp_region_calm ?calm2a ?calm2b ?_
        case calm2a => kernel_rfl
        case calm2b => kernel_rfl
        repeat ((with_reducible refine wpQuiet_step ?_); intro Kq hKq; go_simp; first | ((with_reducible refine hKq _ ?_); clear hKq Kq) | (refine hKq _ ?_; clear hKq Kq) | (apply Exists.intro; refine ⟨fun _ => ?_, hKq _ ?_⟩; (fail); clear hKq Kq))
        with_reducible refine wpQuiet_nil ?_
        intro v1 hw'
        obtain ⟨⟨wq, kq⟩, hw''⟩ := hw'
        subst hw''
        have KV := Lib.hid kq
        clear kq x0 x1
        go_wp2_with fail
        go_meet
        exact ⟨i, HSK.out, HR.out.keeps KV.out id, HK.out.trans (KV.out.mono (fun _ _ e => e.elim))⟩
  case rest =>
    obtain ⟨i0, hi0s, hr1, hk1⟩ := hcut
    have H1 := Lib.hid hr1
    have K1 := Lib.hid hk1
    have HI0 := Lib.hid hi0s
    have hil0 := hr1.le
    have c1 := cell_of (i := 1) hr1.head rfl
    clear hr1 hk1 hi0s
    go_upto_block 2 with (fail)
    clear c1
    go_cut [] (fun wx => ∃ j, i0 ≤ j ∧ Src.word s n = ((s.drop i0).take (j - i0), if (s.drop j).head?.any (fun c => decide (c.toNat ≠ 10)) then j + 1 else j) ∧ RSrc wx q s j ∧ Keeps (fun g => g = q) w wx)
    case first =>
      go_wp2_with fail
      go_loopw [] (fun wr => ∃ i : Nat, i0 ≤ i ∧ RSrc wr q s i ∧ (∀ k (hk : k < s.length), i0 ≤ k → k < i → Src.blank s[k] = false) ∧ Keeps (fun g => g = q) w wr) (fun wr => s.length - srcAt wr q)
      case atStart => exact ⟨i0, Nat.le_refl _, H1.out, fun k hk h1 h2 => by omega, K1.out⟩
      case round =>
        obtain ⟨i, hni, hr, hb, hk⟩ := hrel
        have hil := hr.le
        have HR := Lib.hid hr
        have HB := Lib.hid hb
        have HK := Lib.hid hk
        have x0 := fun (p : Stay wr) => p.2.cell (cell_of (i := 0) hr.head rfl) id
        have x1 := fun (p : Stay wr) => p.2.cell (cell_of (i := 1) hr.head rfl) id
        clear hr hb hk
        by_cases hlt : i < s.length
        · have hi0 : (0 : Int) ≤ (i : Int) := by omega
          have hi1 : (i : Int) < (s.length : Int) := by omega
          have d1 : decide ((i : Int) < (s.length : Int)) = true := decide_eq_true hi1
          have hbl := Lib.hid fun (p : Stay wr) => src_blank p.1 s[i]
          generalize hsb : Src.blank s[i] = r at hbl
          have HSB := Lib.hid hsb
          clear hsb
          go_wp2_with fail
          refine Go.Proofs.K.wp_region_calm ?calm3a ?calm3b ?_
          case calm3a => kernel_rfl
          case calm3b => kernel_rfl
          repeat ((with_reducible refine wpQuiet_step ?_); intro Kq hKq; go_simp; first | ((with_reducible refine hKq _ ?_); clear hKq Kq) | (refine hKq _ ?_; clear hKq Kq) | (apply Exists.intro; refine ⟨fun _ => ?_, hKq _ ?_⟩; (exact K.calm_of (hbl.out _)); clear hKq Kq))
          with_reducible refine wpQuiet_nil ?_
          intro v1 hw'
          obtain ⟨⟨wq, kq⟩, hw''⟩ := hw'
          subst hw''
          have KV := Lib.hid kq
          clear kq x0 x1 hbl
          have c1 := cell_of (i := 1) (HR.out.keeps KV.out id).head rfl
          have f1 := free_of (i := 1) (HR.out.keeps KV.out id).head
          cases r with
          | false =>
            have R2 := Lib.hid ((HR.out.keeps KV.out id).at_ (i + 1) (by omega))
            have K2 := Lib.hid ((HK.out.trans (KV.out.mono (fun _ _ e => e.elim))).trans (Keeps.setCell (S := fun g => g = q) v1 ⟨q, 1, none⟩ (.int .i64 (((i + 1 : Nat) : Nat) : Int)) (fun _ => rfl)))
            go_wp2_with fail
            go_roundw
            case rel => exact ⟨i + 1, by omega, R2.out, fun k hk h1 h2 => by
              by_cases hki : k = i
              · subst hki; exact HSB.out
              · exact HB.out k hk h1 (by omega), K2.out⟩
            case measure =>
              have e1 := R2.out.at_is
              have e2 := HR.out.at_is
              push_cast at e1
              rw [e1, e2]
              omega
          | true =>
            have hsk : Src.word s n = ((s.drop i0).take (i - i0), if (s.drop i).head?.any (fun c => decide (c.toNat ≠ 10)) then i + 1 else i) := Src.word_is s n i0 i HI0.out hni hil HB.out (.inr ⟨hlt, HSB.out⟩)
            have HSK := Lib.hid hsk
            clear hsk
            go_wp2_with fail
            go_meet
            exact ⟨i, hni, HSK.out, HR.out.keeps KV.out id, HK.out.trans (KV.out.mono (fun _ _ e => e.elim))⟩
        · have hge : i = s.length := by omega
          have hsk : Src.word s n = ((s.drop i0).take (i - i0), if (s.drop i).head?.any (fun c => decide (c.toNat ≠ 10)) then i + 1 else i) := Src.word_is s n i0 i HI0.out hni hil HB.out (.inl hge)
          have HSK := Lib.hid hsk
          have d1 : decide ((i : Int) < (s.length : Int)) = false := decide_eq_false (by omega)
          clear hsk hge
          go_wp2_with fail
          refine Go.Proofs.K.wp_region_calm ?calm4a ?calm4b ?_
          case calm4a => kernel_rfl
          case calm4b => kernel_rfl
          repeat ((with_reducible refine wpQuiet_step ?_); intro Kq hKq; go_simp; first | ((with_reducible refine hKq _ ?_); clear hKq Kq) | (refine hKq _ ?_; clear hKq Kq) | (apply Exists.intro; refine ⟨fun _ => ?_, hKq _ ?_⟩; (fail); clear hKq Kq))
          with_reducible refine wpQuiet_nil ?_
          intro v1 hw'
          obtain ⟨⟨wq, kq⟩, hw''⟩ := hw'
          subst hw''
          have KV := Lib.hid kq
          clear kq x0 x1
          go_wp2_with fail
          go_meet
          exact ⟨i, hni, HSK.out, HR.out.keeps KV.out id, HK.out.trans (KV.out.mono (fun _ _ e => e.elim))⟩
  
    case rest =>
      obtain ⟨j, hij, hwd, hr2, hk2⟩ := hcut
      have hjl := hr2.le
      have HX := Lib.hid (str_extract s i0 j hij)
      have hi0 : (0 : Int) ≤ (i0 : Int) := by omega
      have hij0 : (i0 : Int) ≤ (j : Int) := by omega
      have hjl0 : (j : Int) ≤ (s.length : Int) := by omega
      have hj0 : (0 : Int) ≤ (j : Int) := by omega
      have WD := Lib.hid hwd
      have H2 := Lib.hid hr2
      have K2 := Lib.hid hk2
      have x0 := fun (p : Stay wc) => p.2.cell (cell_of (i := 0) hr2.head rfl) id
      have x1 := fun (p : Stay wc) => p.2.cell (cell_of (i := 1) hr2.head rfl) id
      clear hwd hr2 hk2
      go_wp2_with fail
      refine Go.Proofs.K.wp_region_calm ?calm5a ?calm5b ?_
      case calm5a => kernel_rfl
      case calm5b => kernel_rfl
      repeat ((with_reducible refine wpQuiet_step ?_); intro Kq hKq; go_simp; first | ((with_reducible refine hKq _ ?_); clear hKq Kq) | (refine hKq _ ?_; clear hKq Kq) | (apply Exists.intro; refine ⟨fun _ => ?_, hKq _ ?_⟩; (fail); clear hKq Kq))
      with_reducible refine wpQuiet_nil ?_
      intro v1 hw'
      obtain ⟨⟨wq, kq⟩, hw''⟩ := hw'
      subst hw''
      have KV := Lib.hid kq
      clear kq x0 x1
      have x0 := fun (p : Stay v1) => p.2.cell (cell_of (i := 0) (H2.out.keeps KV.out id).head rfl) id
      have x1 := fun (p : Stay v1) => p.2.cell (cell_of (i := 1) (H2.out.keeps KV.out id).head rfl) id
      rw [HX.out]
      by_cases hlt : j < s.length
      · have hj1 : (j : Int) < (s.length : Int) := by omega
        have d1 : decide ((j : Int) < (s.length : Int)) = true := decide_eq_true hj1
        by_cases hnl : s[j].toNat = 10
        · have d2 : ((((⟨s.toArray⟩ : ByteArray)[j]'hlt).toNat : Int) != 10) = false := by
            show ((s[j].toNat : Int) != 10) = false
            simp [hnl]
          have hw : Src.word s n = ((s.drop i0).take (j - i0), j) := by
            rw [WD.out]
            congr 1
            rw [List.drop_eq_getElem_cons hlt, List.head?_cons]; simp [hnl]
          have HW := Lib.hid hw
          clear hw hnl
          go_wp2_with fail
          refine Go.Proofs.K.wp_region_calm ?calm6a ?calm6b ?_
          case calm6a => kernel_rfl
          case calm6b => kernel_rfl
          repeat ((with_reducible refine wpQuiet_step ?_); intro Kq hKq; go_simp; first | ((with_reducible refine hKq _ ?_); clear hKq Kq) | (refine hKq _ ?_; clear hKq Kq) | (apply Exists.intro; refine ⟨fun _ => ?_, hKq _ ?_⟩; (fail); clear hKq Kq))
          with_reducible refine wpQuiet_nil ?_
          intro v2 hw'
          obtain ⟨⟨wq, kq⟩, hw''⟩ := hw'
          subst hw''
          have KV2 := Lib.hid (KV.out.trans kq)
          clear kq x0 x1
          go_wp2_with fail
          go_ret
          rw [HW.out]
          exact ⟨rfl, H2.out.keeps KV2.out id, K2.out.trans (KV2.out.mono (fun _ _ e => e.elim))⟩
        · have d2 : ((((⟨s.toArray⟩ : ByteArray)[j]'hlt).toNat : Int) != 10) = true := by
            show ((s[j].toNat : Int) != 10) = true
            simp; omega
          have hw : Src.word s n = ((s.drop i0).take (j - i0), j + 1) := by
            rw [WD.out]
            congr 1
            rw [List.drop_eq_getElem_cons hlt, List.head?_cons]; simp [hnl]
          have HW := Lib.hid hw
          clear hw hnl
          go_wp2_with fail
          refine Go.Proofs.K.wp_region_calm ?calm7a ?calm7b ?_
          case calm7a => kernel_rfl
          case calm7b => kernel_rfl
          repeat ((with_reducible refine wpQuiet_step ?_); intro Kq hKq; go_simp; first | ((with_reducible refine hKq _ ?_); clear hKq Kq) | (refine hKq _ ?_; clear hKq Kq) | (apply Exists.intro; refine ⟨fun _ => ?_, hKq _ ?_⟩; (fail); clear hKq Kq))
          with_reducible refine wpQuiet_nil ?_
          intro v2 hw'
          obtain ⟨⟨wq, kq⟩, hw''⟩ := hw'
          subst hw''
          have KV2 := Lib.hid (KV.out.trans kq)
          clear kq x0 x1
          have c1 := cell_of (i := 1) (H2.out.keeps KV2.out id).head rfl
          have f1 := free_of (i := 1) (H2.out.keeps KV2.out id).head
          have R2 := Lib.hid ((H2.out.keeps KV2.out id).at_ (j + 1) (by omega))
          have KS := Lib.hid ((K2.out.trans (KV2.out.mono (fun _ _ e => e.elim))).trans (Keeps.setCell (S := fun g => g = q) v2 ⟨q, 1, none⟩ (.int .i64 (((j + 1 : Nat) : Nat) : Int)) (fun _ => rfl)))
          go_wp2_with fail
          go_ret
          rw [HW.out]
          exact ⟨rfl, R2.out, KS.out⟩
      · have d1 : decide ((j : Int) < (s.length : Int)) = false := decide_eq_false (by omega)
        have hw : Src.word s n = ((s.drop i0).take (j - i0), j) := by
          rw [WD.out]
          congr 1
          rw [List.drop_eq_nil_of_le (by omega)]; simp
        have HW := Lib.hid hw
        clear hw
        go_wp2_with fail
        refine Go.Proofs.K.wp_region_calm ?calm8a ?calm8b ?_
        case calm8a => kernel_rfl
        case calm8b => kernel_rfl
        repeat ((with_reducible refine wpQuiet_step ?_); intro Kq hKq; go_simp; first | ((with_reducible refine hKq _ ?_); clear hKq Kq) | (refine hKq _ ?_; clear hKq Kq) | (apply Exists.intro; refine ⟨fun _ => ?_, hKq _ ?_⟩; (fail); clear hKq Kq))
        with_reducible refine wpQuiet_nil ?_
        intro v2 hw'
        obtain ⟨⟨wq, kq⟩, hw''⟩ := hw'
        subst hw''
        have KV2 := Lib.hid (KV.out.trans kq)
        clear kq x0 x1
        go_wp2_with fail
        go_ret
        rw [HW.out]
        exact ⟨rfl, H2.out.keeps KV2.out id, K2.out.trans (KV2.out.mono (fun _ _ e => e.elim))⟩
end Go.Proofs.Shed
