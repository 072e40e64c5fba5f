/- Layer 5: find, Alloc. Conditions: the heap lies in three blocks. -/
import Derived.Test.YthhfkhhhclmimaaWHeapC
import Derived.Test.YthhfkhhhclmimaaPD
import Derived.IntWalk
set_option linter.unusedVariables false
set_option linter.unusedSimpArgs false
set_option maxRecDepth 10000
set_option maxHeartbeats 8000000
namespace Go.Proofs.Shed
open Go Go.RowKit Go.Proofs.K

theorem Heap.from_len (m : Mem) (hi : Int) (k : Nat) (a : Int) (l : List Blk) (ha : a ≤ hi) (h : Heap.blocksN m hi k a = some l) : 16 * (l.length : Int) ≤ hi - a := by
  induction k generalizing a l with
  | zero =>
    rw [Heap.blocksN] at h
    cases h
    simp only [List.length_nil]; omega
  | succ k ih =>
    rw [Heap.blocksN] at h
    by_cases h1 : a < hi
    · rw [if_pos h1] at h
      by_cases h2 : (m.cell a).2 ≠ 0 ∨ (Heap.blk a (m.cell a).1).size < 16 ∨ (Heap.blk a (m.cell a).1).size % 8 ≠ 0 ∨ hi - a < (Heap.blk a (m.cell a).1).size
      · rw [if_pos h2] at h; cases h
      · rw [if_neg h2] at h
        cases hq : Heap.blocksN m hi k (a + (Heap.blk a (m.cell a).1).size) with
        | none => rw [hq] at h; cases h
        | some q =>
          rw [hq] at h
          simp only [Option.map_some, Option.some.injEq] at h
          subst h
          have := ih _ _ (by omega) hq
          rw [List.length_cons]
          omega
    · rw [if_neg h1] at h
      cases h
      simp only [List.length_nil]; omega
/-- A block of a slice, as it lies. -/
theorem OwnB.at {B : Nat} {w : World} {a : Option Addr} {c : Nat} {L : List Blk} (h : OwnB B w a c L) {i : Nat} (hi : i < L.length) :
    ∃ g, a = some ⟨g, 0, none⟩ ∧ L.length ≤ c ∧ w.cell? ⟨g, i * 3, none⟩ = some (.int .i64 L[i].at_) ∧ w.cell? ⟨g, i * 3 + 1, none⟩ = some (.int .i64 L[i].size) ∧ w.cell? ⟨g, i * 3 + 2, none⟩ = some (.bool L[i].used) := by
  rcases h.1.form with ⟨_, hn, _⟩ | ⟨g, cur, hx, hh, hnc, _⟩
  · omega
  · have ho := h.1
    rw [hx] at ho
    obtain ⟨q0, q1, q2⟩ := blkV_get L i hi
    exact ⟨g, hx, hnc, ho.cell q0, ho.cell q1, ho.cell q2⟩
theorem findN_step (a : Int) (i : Nat) (b : Blk) (l : List Blk) : Heap.findN a i (b :: l) = if b.used = true ∧ b.at_ + 8 = a then (i : Int) else Heap.findN a (i + 1) l := rfl

theorem heap_find (B : Nat) (w : World) (a : Option Addr) (c : Nat) (L : List Blk) (x : Int) (h : OwnB B w a c L) (hL : ∀ b ∈ L, 0 ≤ b.at_ ∧ b.at_ ≤ 4611686018427387904) (hl : L.length ≤ 1000000) :
    Calls Try.prog 75 #[.slice a L.length c, .int .i64 x] w fun e w' => e = .returned (.int .i64 (Heap.find L x)) ∧ Keeps (fun _ => False) w w' := by
  have H := Lib.hid h
  have HL := Lib.hid hL
  have HD : Hid (Heap.findN x 0 L = Heap.find L x) := rfl
  generalize Heap.find L x = r at HD ⊢
  clear h hL
  go_enter Try.func75, Try.ntmps75
  go_wp2_with fail
  go_loopw [9] (fun iv wr => ∃ i : Nat, iv = .int .i64 i ∧ i ≤ L.length ∧ Keeps (fun _ => False) w wr ∧ Heap.findN x i (L.drop i) = r) (fun iv _ => L.length - (intOf iv).toNat)
  case atStart => exact ⟨0, rfl, by omega, Keeps.refl _ _, HD.out⟩
  case round =>
    obtain ⟨i, rfl, hi, hk, hf⟩ := hrel
    have HK := Lib.hid hk
    clear hk
    by_cases hlt : i < L.length
    · rw [List.drop_eq_getElem_cons hlt, findN_step] at hf
      have hbd := HL.out L[i] (List.getElem_mem hlt)
      obtain ⟨g, rfl, hnc, c0', c1', c2'⟩ := H.out.at hlt
      have c0 := HK.out.cell c0' id
      have c1 := HK.out.cell c1' id
      have c2 := HK.out.cell c2' id
      clear c0' c1' c2'
      generalize L[i] = p at c0 c1 c2 hf hbd
      obtain ⟨at_, size, used⟩ := p
      simp only at c0 c1 c2 hf hbd
      have hi0 : (0 : Int) ≤ (i : Int) := by omega
      have KA := Lib.hid (HK.out.trans (Keeps.alloc (fun _ => False) wr (.cells #[.int .i64 at_, .int .i64 size, .bool used] 135)))
      cases used with
      | false =>
        rw [if_neg (by simp)] at hf
        have HF := Lib.hid hf
        clear hf
        go_wp2_with fail
        go_roundw
        case rel => exact ⟨i + 1, by go_num, by omega, KA.out, HF.out⟩
        case measure => simp [intOf]; omega
      | true =>
        by_cases he : at_ + 8 = x
        · rw [if_pos ⟨rfl, he⟩] at hf
          have he' : (at_ + 8 == x) = true := by simp [he]
          subst hf
          clear he
          go_wp2_with fail
          go_ret
          exact ⟨rfl, KA.out⟩
        · rw [if_neg (by simp [he])] at hf
          have he' : (at_ + 8 == x) = false := by simp [he]
          have HF := Lib.hid hf
          clear hf he
          go_wp2_with fail
          go_roundw
          case rel => exact ⟨i + 1, by go_num, by omega, KA.out, HF.out⟩
          case measure => simp [intOf]; omega
    · rw [List.drop_eq_nil_of_le (by omega), Heap.findN] at hf
      subst hf
      go_wp2_with fail
      go_ret
      exact ⟨rfl, HK.out⟩

def AllocPost (h b bb : Nat) (lo hi : Int) (r : Mem × Int × Int) (w : World) (e : Ending) (w' : World) : Prop :=
  e = .returned (.tuple #[.int .i64 r.2.1, .int .i64 r.2.2]) ∧ RHp w' h b bb r.1 lo hi ∧ Keeps (fun k => k = bb) w w'
theorem heap_put_size (m : Mem) (x : Blk) : (Heap.put m x).1.size = m.size := Mem.setCell_size _ _ _

theorem heap_alloc (w : World) (h b bb : Nat) (m : Mem) (lo hi n : Int) (H0 : RHp w h b bb m lo hi) :
    Calls Try.prog 72 #[.pointer (some ⟨h, 0, none⟩), .int .i64 n] w (AllocPost h b bb lo hi (Heap.alloc m lo hi n) w) := by
  have H := Lib.hid H0
  have b0 := H0.lo0
  have b1 := H0.lt
  have b2 := H0.top
  have b3 := H0.mem.le
  have HD : Hid (Heap.alloc m lo hi n = if n < 0 ∨ 1048576 < n then (m, 0, -59)
  else match Heap.blocks m lo hi with
    | none => (m, 0, -2052)
    | some l => match Heap.pick (Heap.need n) l with
      | none => (m, 0, -59)
      | some b => Heap.give m b (Heap.need n)) := rfl
  generalize Heap.alloc m lo hi n = r at HD ⊢
  by_cases hn : n < 0 ∨ 1048576 < n
  · have hr := HD.out
    rw [if_pos hn] at hr
    have HR := Lib.hid hr
    clear hr HD
    rcases hn with hn | hn
    · go_enter Try.func72, Try.ntmps72
      go_wp2_with fail
      go_ret2
      rw [HR.out]
      exact ⟨rfl, H.out, Keeps.refl _ _⟩
    · have hn' : decide (n < 0) = false := decide_eq_false (by omega)
      go_enter Try.func72, Try.ntmps72
      go_wp2_with fail
      go_ret2
      rw [HR.out]
      exact ⟨rfl, H.out, Keeps.refl _ _⟩
  · have hr := HD.out
    rw [if_neg hn] at hr
    have n0 : decide (n < 0) = false := decide_eq_false (by omega)
    have n1 : decide (1048576 < n) = false := decide_eq_false (by omega)
    have n2 : 0 ≤ n := by omega
    have n3 : n ≤ 1048576 := by omega
    have hN := Lib.hid fun w => heap_need w n (by omega) (by omega)
    have hbl := Lib.hid (heap_blocks w h b bb m lo hi H.out)
    have hmem := Lib.hid (fun l (e : Heap.blocks m lo hi = some l) => Heap.blocks_mem e)
    have hlen := Lib.hid (fun l (e : Heap.blocks m lo hi = some l) => Heap.from_len m hi _ lo l b1 e)
    have hneed := Heap.need_bd n (by omega)
    generalize Heap.blocks m lo hi = q at hr hbl hmem hlen
    generalize Heap.need n = nd at hr hN hneed
    have HR := Lib.hid hr
    clear hr HD hn
    cases q with
    | none =>
      have hr := HR.out
      simp only at hr
      have HR' := Lib.hid hr
      clear hr
      unfold BlkPost at hbl
      go_enter Try.func72, Try.ntmps72
      go_wp2_with fail
      refine hbl.out.mono ?_
      rintro e w1 ⟨rfl, k1⟩
      have K1 := Lib.hid k1
      clear k1
      go_wp2_with fail
      go_ret2
      rw [HR'.out]
      exact ⟨rfl, H.out.keeps K1.out id id id, K1.out.mono (fun _ _ => False.elim)⟩
    | some l =>
      have hr := HR.out
      simp only at hr
      have HR' := Lib.hid hr
      have hlm := Lib.hid (hmem.out l rfl)
      have hll := hlen.out l rfl
      have hl6 : l.length ≤ 1000000 := by omega
      clear hll hlen
      clear hr HR hmem
      unfold BlkPost at hbl
      go_enter Try.func72, Try.ntmps72
      go_wp2_with fail
      refine hbl.out.mono ?_
      rintro e w1 ⟨a, c, rfl, o1, k1⟩
      have K1 := Lib.hid k1
      have O1 := Lib.hid o1
      have R1 := Lib.hid (H.out.keeps k1 id id id)
      clear k1 o1 hbl
      go_wp2_with fail
      refine (hN.out _).mono ?_
      rintro e w2 ⟨rfl, rfl⟩
      go_wp2_with fail
      go_loopw [34] (fun iv wr => ∃ i : Nat, iv = .int .i64 i ∧ i ≤ l.length ∧ Keeps (fun _ => False) w1 wr ∧ Heap.pick nd (l.drop i) = Heap.pick nd l) (fun iv _ => l.length - (intOf iv).toNat)
      case atStart => exact ⟨0, rfl, by omega, Keeps.refl _ _, rfl⟩
      case round =>
        obtain ⟨i, rfl, hil, hk, hf⟩ := hrel
        have HK := Lib.hid hk
        clear hk
        by_cases hlt : i < l.length
        · rw [List.drop_eq_getElem_cons hlt, Heap.pick] at hf
          have hbd := hlm.out l[i] (List.getElem_mem hlt)
          obtain ⟨g, rfl, hnc, c0', c1', c2'⟩ := O1.out.at hlt
          have c0 := HK.out.cell c0' id
          have c1 := HK.out.cell c1' id
          have c2 := HK.out.cell c2' id
          clear c0' c1' c2'
          generalize l[i] = p at c0 c1 c2 hf hbd
          obtain ⟨at_, size, used⟩ := p
          simp only at c0 c1 c2 hf hbd
          have hi0 : (0 : Int) ≤ (i : Int) := by omega
          have at0 : 0 ≤ at_ := by omega
          have at1 : at_ ≤ 4611686018427387 := by omega
          have sz0 : 16 ≤ size := by omega
          have sz1 : size ≤ 4611686018427387 := by omega
          have nd0 : 16 ≤ nd := by omega
          have nd1 : nd ≤ 1048592 := by omega
          have ka := Keeps.alloc (fun _ => False) wr (.cells #[.int .i64 at_, .int .i64 size, .bool used] 135)
          have KA := Lib.hid (HK.out.trans ka)
          have RA := Lib.hid (R1.out.keeps KA.out id id id)
          cases used with
          | true =>
            rw [if_pos (.inl rfl)] at hf
            have HF := Lib.hid hf
            clear hf ka
            go_wp2_with fail
            go_roundw
            case rel => exact ⟨i + 1, by go_num, by omega, KA.out, HF.out⟩
            case measure => simp [intOf]; omega
          | false =>
            by_cases hsz : size < nd
            · rw [if_pos (.inr hsz)] at hf
              have HF := Lib.hid hf
              have hd : decide (size < nd) = true := decide_eq_true hsz
              clear hf ka
              go_wp2_with fail
              go_roundw
              case rel => exact ⟨i + 1, by go_num, by omega, KA.out, HF.out⟩
              case measure => simp [intOf]; omega
            · rw [if_neg (by simp [hsz])] at hf
              have hr := HR'.out
              rw [← hf] at hr
              have hrg : r = Heap.give m ⟨at_, size, false⟩ nd := hr
              unfold Heap.give at hrg
              simp only at hrg
              have hd : decide (size < nd) = false := decide_eq_false hsz
              have hbw := RA.out.mem.lt
              have hhw := lt_of_heap RA.out.head
              have D0 := cell_of (i := 0) (halloc_at wr (.cells #[.int .i64 at_, .int .i64 size, .bool false] 135)) rfl
              have D1 := cell_of (i := 1) (halloc_at wr (.cells #[.int .i64 at_, .int .i64 size, .bool false] 135)) rfl
              have D2 := cell_of (i := 2) (halloc_at wr (.cells #[.int .i64 at_, .int .i64 size, .bool false] 135)) rfl
              clear hr hf HR'
              by_cases hrest : 16 ≤ size - nd
              · rw [if_pos hrest] at hrg
                have hd2 : decide (16 ≤ size - nd) = true := decide_eq_true hrest
                have HP1 := heap_put _ _ _ _ _ _ _ ⟨at_ + nd, size - nd, false⟩ RA.out (by simp only; omega) (by simp only; omega)
                have HP2 := Lib.hid fun w m H => heap_put w h b bb m lo hi ⟨at_, nd, true⟩ H (by simp only; omega) (by simp only; omega)
                have hz1 := heap_put_size m ⟨at_ + nd, size - nd, false⟩
                unfold Blk.val at HP1 HP2
                simp only at HP1 HP2
                generalize Heap.put m ⟨at_ + nd, size - nd, false⟩ = u at HP1 hrg hz1
                have HZ1 := Lib.hid hz1
                have HP := Lib.hid HP1
                have hz2 := heap_put_size u.1 ⟨at_, nd, true⟩
                have hP2 := fun w H => HP2.out w u.1 H
                generalize Heap.put u.1 ⟨at_, nd, true⟩ = v at hP2 hrg hz2
                have HZ2 := Lib.hid hz2
                have HPP := Lib.hid hP2
                have HRG := Lib.hid hrg
                have N9 := Lib.hid (show ¬ wr.heap.size = bb by have := (R1.out.keeps HK.out id id id).mem.lt; omega)
                clear hrg hrest hsz hz1 hz2 hP2 HP1 HP2
                go_wp2_with fail
                refine HP.out.mono ?_
                rintro e w3 ⟨rfl, m3, k3⟩
                have R3 := Lib.hid (RA.out.with m3 HZ1.out k3)
                have h9 := k3.heap (halloc_at wr (.cells #[.int .i64 at_, .int .i64 size, .bool false] 135)) N9.out
                have E0 := cell_of (i := 0) h9 rfl
                have E1 := cell_of (i := 1) h9 rfl
                have E2 := cell_of (i := 2) h9 rfl
                have f1 := free_of (i := 1) h9
                have f2 := free_of (i := 2) h9
                have hsz3 := k3.size
                rw [World.size_alloc] at hsz3
                have K3 := Lib.hid (((K1.out.trans KA.out).mono (fun _ _ => False.elim)).trans k3)
                have h9' := hset_same (i := 2) (hset_same (i := 1) h9 (.int .i64 nd)) (.bool true)
                have KS : Keeps (fun j => j = wr.heap.size) w3 ((w3.setCell ⟨wr.heap.size, 1, none⟩ (.int .i64 nd)).setCell ⟨wr.heap.size, 2, none⟩ (.bool true)) :=
                  Keeps.trans (Keeps.setCell (S := fun j => j = wr.heap.size) w3 ⟨wr.heap.size, 1, none⟩ (.int .i64 nd) (fun _ => rfl)) (Keeps.setCell (S := fun j => j = wr.heap.size) _ ⟨wr.heap.size, 2, none⟩ (.bool true) (fun _ => rfl))
                have H9 := Lib.hid h9'
                have KS' := Lib.hid KS
                clear m3 k3 h9 h9' KS D0 D1 D2
                go_wp2_with fail
                generalize (w3.setCell ⟨wr.heap.size, 1, none⟩ (.int .i64 nd)).setCell ⟨wr.heap.size, 2, none⟩ (.bool true) = w4 at H9 KS' ⊢
                have G0 := cell_of (i := 0) H9.out rfl
                have G1 := cell_of (i := 1) H9.out rfl
                have G2 := cell_of (i := 2) H9.out rfl
                have R4 := Lib.hid (R3.out.keeps (KS'.out.trans (Keeps.drew _ _)) (fun e => by have := lt_of_heap (R1.out.keeps HK.out id id id).head; omega) (fun e => by have := (R1.out.keeps HK.out id id id).mem.lt; omega) (fun e => N9.out e.symm))
                have K4 := Lib.hid (K3.out.trans' (KS'.out.trans (Keeps.drew _ _)) (fun j hj e => by have := K1.out.size; have := HK.out.size; omega))
                have HQ := Lib.hid (HPP.out _ R4.out)
                have hw8 : IntKind.i64.wrap (at_ + 8) = at_ + 8 := IntWalk.i64_in _ (by omega)
                go_wp2_with fail
                go_region_held3 (fun w' => w'.cell? ⟨wr.heap.size, 0, none⟩ = some (.int .i64 at_) ∧ w'.cell? ⟨wr.heap.size, 1, none⟩ = some (.int .i64 nd) ∧ w'.cell? ⟨wr.heap.size, 2, none⟩ = some (.bool true))
                  (first | go_keep | exact ⟨k5.cell G0 N9.out, k5.cell G1 N9.out, k5.cell G2 N9.out⟩)
                  ((go_at_call 69; refine HQ.out.mono ?_; rintro e w5 ⟨rfl, m5, k5⟩))
                have R5 := Lib.hid (R4.out.with m5 HZ2.out k5)
                have K5 := Lib.hid (K4.out.trans k5)
                clear m5 k5
                go_wp2_with fail
                go_ret2
                rw [HRG.out]
                exact ⟨rfl, R5.out, K5.out⟩
              · rw [if_neg hrest] at hrg
                have hd2 : decide (16 ≤ size - nd) = false := decide_eq_false hrest
                have HP2 := fun w H => heap_put w h b bb m lo hi ⟨at_, size, true⟩ H (by simp only; omega) (by simp only; omega)
                have hz2 := heap_put_size m ⟨at_, size, true⟩
                unfold Blk.val at HP2
                simp only at HP2
                generalize Heap.put m ⟨at_, size, true⟩ = v at HP2 hrg hz2
                have HZ2 := Lib.hid hz2
                have HPP := Lib.hid HP2
                have HRG := Lib.hid hrg
                have N9 := Lib.hid (show ¬ wr.heap.size = bb by have := (R1.out.keeps HK.out id id id).mem.lt; omega)
                have f2 := free_of (i := 2) (halloc_at wr (.cells #[.int .i64 at_, .int .i64 size, .bool false] 135))
                have h9 := halloc_at wr (.cells #[.int .i64 at_, .int .i64 size, .bool true] 135)
                have G0 := cell_of (i := 0) h9 rfl
                have G1 := cell_of (i := 1) h9 rfl
                have G2 := cell_of (i := 2) h9 rfl
                have k9 := (HK.out.trans (Keeps.alloc (fun _ => False) wr (.cells #[.int .i64 at_, .int .i64 size, .bool true] 135))).trans (Keeps.drew _ _)
                have R4 := Lib.hid (R1.out.keeps k9 id id id)
                have K4 := Lib.hid ((K1.out.trans k9).mono (T := fun k => k = bb) (fun _ _ => False.elim))
                have HQ := Lib.hid (HPP.out _ R4.out)
                have hw8 : IntKind.i64.wrap (at_ + 8) = at_ + 8 := IntWalk.i64_in _ (by omega)
                clear k9 h9 f2 D0 D1 ka
                go_wp2_with fail
                go_region_held3 (fun w' => w'.cell? ⟨wr.heap.size, 0, none⟩ = some (.int .i64 at_) ∧ w'.cell? ⟨wr.heap.size, 1, none⟩ = some (.int .i64 size) ∧ w'.cell? ⟨wr.heap.size, 2, none⟩ = some (.bool true))
                  (first | go_keep | exact ⟨k5.cell G0 N9.out, k5.cell G1 N9.out, k5.cell G2 N9.out⟩)
                  ((go_at_call 69; refine HQ.out.mono ?_; rintro e w5 ⟨rfl, m5, k5⟩))
                have R5 := Lib.hid (R4.out.with m5 HZ2.out k5)
                have K5 := Lib.hid (K4.out.trans k5)
                clear m5 k5
                go_wp2_with fail
                go_ret2
                rw [HRG.out]
                exact ⟨rfl, R5.out, K5.out⟩
        · rw [List.drop_eq_nil_of_le (by omega), Heap.pick] at hf
          have hr := HR'.out
          rw [← hf] at hr
          have HRG := Lib.hid hr
          clear hr hf HR'
          go_wp2_with fail
          go_ret2
          rw [HRG.out]
          exact ⟨rfl, (R1.out.keeps HK.out id id id), (K1.out.trans HK.out).mono (fun _ _ => False.elim)⟩
end Go.Proofs.Shed
