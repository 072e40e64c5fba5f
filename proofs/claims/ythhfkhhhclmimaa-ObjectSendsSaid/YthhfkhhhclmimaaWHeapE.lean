/- Layer 5: Free. Conditions: the heap lies in three blocks. -/
import Derived.Test.YthhfkhhhclmimaaWHeapD
import Derived.Test.YthhfkhhhclmimaaPD
set_option linter.unusedVariables false
set_option linter.unusedSimpArgs false
set_option maxRecDepth 10000
set_option maxHeartbeats 8000000
namespace Go.Proofs.Shed
open Go Go.RowKit Go.Proofs.K

def FreePost (h b bb : Nat) (lo hi : Int) (r : Mem × Int) (w : World) (e : Ending) (w' : World) : Prop :=
  e = .returned (.int .i64 r.2) ∧ RHp w' h b bb r.1 lo hi ∧ Keeps (fun k => k = bb) w w'
theorem nth_at (p : List Blk) (c : Blk) (r : List Blk) (h : p.length < (p ++ c :: r).length) : (p ++ c :: r)[p.length] = c := by simp

theorem join_eq (p : List Blk) (u : Blk) (s : List Blk) : Heap.join (p ++ u :: s) p.length =
    (if 0 < p.length ∧ ((p ++ u :: s).getD (p.length - 1) ⟨0, 0, true⟩).used = false then
      ⟨((p ++ u :: s).getD (p.length - 1) ⟨0, 0, true⟩).at_, (if 0 < s.length ∧ (s.getD 0 ⟨0, 0, true⟩).used = false then u.size + (s.getD 0 ⟨0, 0, true⟩).size else u.size) + ((p ++ u :: s).getD (p.length - 1) ⟨0, 0, true⟩).size, false⟩
     else ⟨u.at_, if 0 < s.length ∧ (s.getD 0 ⟨0, 0, true⟩).used = false then u.size + (s.getD 0 ⟨0, 0, true⟩).size else u.size, false⟩) := by
  have e0 : (p ++ u :: s).getD p.length ⟨0, 0, false⟩ = u := by simp
  have e1 : (p ++ u :: s).getD (p.length + 1) ⟨0, 0, true⟩ = s.getD 0 ⟨0, 0, true⟩ := by
    rw [List.getD_eq_getElem?_getD, List.getD_eq_getElem?_getD, List.getElem?_append_right (by omega), show p.length + 1 - p.length = 0 + 1 by omega, List.getElem?_cons_succ]
  have e2 : (p.length + 1 < (p ++ u :: s).length) = (0 < s.length) := by
    rw [List.length_append, List.length_cons]
    exact propext ⟨fun h => by omega, fun h => by omega⟩
  unfold Heap.join
  simp only [e0, e1, e2]

theorem heap_put_at (w V : World) (h b bb : Nat) (m : Mem) (lo hi : Int) (x : Blk) (H : RHp w h b bb m lo hi) (k : Keeps (fun _ => False) w V) (h0 : -4611686018427387904 ≤ x.size) (h1 : x.size ≤ 4611686018427387904) :
    Calls Try.prog 69 #[.pointer (some ⟨h, 0, none⟩), .agg #[.int .i64 x.at_, .int .i64 x.size, .bool x.used]] V (FreePost h b bb lo hi (Heap.put m x) w) := by
  refine (heap_put V h b bb m lo hi x (H.keeps k id id id) h0 h1).mono ?_
  rintro e w' ⟨rfl, m', k'⟩
  exact ⟨rfl, (H.keeps k id id id).with m' (heap_put_size _ _) k', (k.mono (fun _ _ => False.elim)).trans k'⟩
/-- A block of a slice lies at a place. -/
def BlkAt (l : List Blk) (i : Nat) (v : Blk) : Prop := ∀ B w a c, OwnB B w a c l → ∃ g, a = some ⟨g, 0, none⟩ ∧ l.length ≤ c ∧ w.cell? ⟨g, i * 3, none⟩ = some (.int .i64 v.at_) ∧ w.cell? ⟨g, i * 3 + 1, none⟩ = some (.int .i64 v.size) ∧ w.cell? ⟨g, i * 3 + 2, none⟩ = some (.bool v.used)
theorem blkAt (l : List Blk) (i : Nat) (h : i < l.length) : BlkAt l i l[i] := fun B w a c o => o.at h
def Blk.Fit (v : Blk) : Prop := 0 ≤ v.at_ ∧ v.at_ ≤ 4194304 ∧ 16 ≤ v.size ∧ v.size ≤ 4194304
def joinN (u : Blk) (nx : Option Blk) : Int := match nx with | some n => if n.used = false then u.size + n.size else u.size | none => u.size
def joinO (u : Blk) (nx pv : Option Blk) : Blk := match pv with
  | some v => if v.used = false then ⟨v.at_, joinN u nx + v.size, false⟩ else ⟨u.at_, joinN u nx, false⟩
  | none => ⟨u.at_, joinN u nx, false⟩


theorem free_walk (w : World) (h b bb : Nat) (m : Mem) (lo hi x : Int) (H : Hid (RHp w h b bb m lo hi)) (l : List Blk) (len k : Nat) (hlen : Hid (l.length = len)) (hl6 : len ≤ 1000000) (hk : k < len)
    (hbl : Hid (Calls Try.prog 74 #[.pointer (some ⟨h, 0, none⟩)] w fun e w' => ∃ a c, e = .returned (.tuple #[.slice a len c, .int .i64 0]) ∧ OwnB w.heap.size w' a c l ∧ Keeps (fun _ => False) w w'))
    (hF : Hid (∀ a c w1, OwnB w.heap.size w1 a c l → Calls Try.prog 75 #[.slice a len c, .int .i64 x] w1 fun e w' => e = .returned (.int .i64 (k : Int)) ∧ Keeps (fun _ => False) w1 w'))
    (u : Blk) (uf : u.Fit) (hU : Hid (BlkAt l k u)) (nx pv : Option Blk) (hN : match nx with | none => k + 1 = len | some n => k + 1 < len ∧ n.Fit ∧ BlkAt l (k + 1) n) (hP : match pv with | none => k = 0 | some v => 0 < k ∧ v.Fit ∧ BlkAt l (k - 1) v) :
    Calls Try.prog 39 #[.pointer (some ⟨h, 0, none⟩), .int .i64 x] w (FreePost h b bb lo hi (Heap.put m (joinO u nx pv)) w) := by
  obtain ⟨ua, us, uu⟩ := u
  unfold Blk.Fit at uf
  simp only at uf
  obtain ⟨u0, u1, u2, u3⟩ := uf
  have hk0 : (0 : Int) ≤ (k : Int) := by omega
  have hk1 : decide ((k : Int) < 0) = false := decide_eq_false (by omega)
  cases nx with
  | none =>
    have hn : decide ((k : Int) + 1 < len) = false := decide_eq_false (by simp only at hN; omega)
    clear hN
    cases pv with
    | none =>
      have hp : decide (0 < (k : Int)) = false := decide_eq_false (by simp only at hP; omega)
      have hp2 : decide (0 < k) = false := decide_eq_false (by simp only at hP; omega)
      have HJ : Hid (joinO ⟨ua, us, uu⟩ none none = ⟨ua, us, false⟩) := rfl
      rw [HJ.out]
      clear hP HJ
      go_enter Try.func39, Try.ntmps39
      go_wp2_with fail
      refine hbl.out.mono ?_
      rintro e w1 ⟨a, c, rfl, o1, k1⟩
      have K1 := Lib.hid k1
      have O1 := Lib.hid o1
      clear k1 o1 hbl
      go_wp2_with fail
      refine (hF.out _ _ _ O1.out).mono ?_
      rintro e w2 ⟨rfl, k2⟩
      have K2 := Lib.hid (K1.out.trans k2)
      have hw2 := K2.out.size
      have O2 := Lib.hid (O1.out.keeps k2 (fun _ _ => id))
      clear k2
      obtain ⟨g, rfl, hnc, c0, c1, c2⟩ := hU.out _ _ _ _ O2.out
      rw [hlen.out] at hnc
      simp only at c0 c1 c2
      go_wp2_with fail
      refine (heap_put_at w _ h b bb m lo hi ⟨ua, us, false⟩ H.out (by
        repeat (first | exact K2.out | refine Keeps.setNew ?_ _ _ (by simp; omega) | refine (Keeps.trans ?_ (Keeps.drew _ _)) | refine (Keeps.trans ?_ (Keeps.alloc _ _ _)))) (by simp only; omega) (by simp only; omega)).mono ?_
      rintro e w9 ⟨rfl, m9, k9⟩
      have M9 := Lib.hid m9
      have K9 := Lib.hid k9
      clear m9 k9
      go_wp2_with fail
      go_ret
      exact ⟨rfl, M9.out, K9.out⟩
    | some v =>
      simp only at hP
      obtain ⟨hp0, vf, hV⟩ := hP
      have HV := Lib.hid hV
      obtain ⟨va, vs, vu⟩ := v
      unfold Blk.Fit at vf
      simp only at vf
      obtain ⟨v0, v1, v2, v3⟩ := vf
      have hp : decide (0 < (k : Int)) = true := decide_eq_true (by omega)
      have hp2 : decide (0 < k) = true := decide_eq_true (by omega)
      have hkm : (0 : Int) ≤ (k : Int) - 1 := by omega
      have hkm1 : (k : Int) - 1 < len := by omega
      have hkm2 : ((k : Int) - 1).toNat = k - 1 := by omega
      clear hV
      cases vu with
      | true =>
        have HJ : Hid (joinO ⟨ua, us, uu⟩ none (some ⟨va, vs, true⟩) = ⟨ua, us, false⟩) := rfl
        rw [HJ.out]
        clear HJ
        go_enter Try.func39, Try.ntmps39
        go_wp2_with fail
        refine hbl.out.mono ?_
        rintro e w1 ⟨a, c, rfl, o1, k1⟩
        have K1 := Lib.hid k1
        have O1 := Lib.hid o1
        clear k1 o1 hbl
        go_wp2_with fail
        refine (hF.out _ _ _ O1.out).mono ?_
        rintro e w2 ⟨rfl, k2⟩
        have K2 := Lib.hid (K1.out.trans k2)
        have hw2 := K2.out.size
        have O2 := Lib.hid (O1.out.keeps k2 (fun _ _ => id))
        clear k2
        obtain ⟨g, rfl, hnc, c0, c1, c2⟩ := hU.out _ _ _ _ O2.out
        rw [hlen.out] at hnc
        simp only at c0 c1 c2
        obtain ⟨g', hg', _, p0, p1, p2⟩ := HV.out _ _ _ _ O2.out
        cases hg'
        simp only at p0 p1 p2
        have q0 := fun o => (Keeps.alloc (fun _ => False) w2 o).cell p0 id
        have q1 := fun o => (Keeps.alloc (fun _ => False) w2 o).cell p1 id
        have q2 := fun o => (Keeps.alloc (fun _ => False) w2 o).cell p2 id
        go_wp2_with fail
        refine (heap_put_at w _ h b bb m lo hi ⟨ua, us, false⟩ H.out (by
          repeat (first | exact K2.out | refine Keeps.setNew ?_ _ _ (by simp; omega) | refine (Keeps.trans ?_ (Keeps.drew _ _)) | refine (Keeps.trans ?_ (Keeps.alloc _ _ _)))) (by simp only; omega) (by simp only; omega)).mono ?_
        rintro e w9 ⟨rfl, m9, k9⟩
        have M9 := Lib.hid m9
        have K9 := Lib.hid k9
        clear m9 k9
        go_wp2_with fail
        go_ret
        exact ⟨rfl, M9.out, K9.out⟩
      | false =>
        have HJ : Hid (joinO ⟨ua, us, uu⟩ none (some ⟨va, vs, false⟩) = ⟨va, us + vs, false⟩) := rfl
        rw [HJ.out]
        clear HJ
        go_enter Try.func39, Try.ntmps39
        go_wp2_with fail
        refine hbl.out.mono ?_
        rintro e w1 ⟨a, c, rfl, o1, k1⟩
        have K1 := Lib.hid k1
        have O1 := Lib.hid o1
        clear k1 o1 hbl
        go_wp2_with fail
        refine (hF.out _ _ _ O1.out).mono ?_
        rintro e w2 ⟨rfl, k2⟩
        have K2 := Lib.hid (K1.out.trans k2)
        have hw2 := K2.out.size
        have O2 := Lib.hid (O1.out.keeps k2 (fun _ _ => id))
        clear k2
        obtain ⟨g, rfl, hnc, c0, c1, c2⟩ := hU.out _ _ _ _ O2.out
        rw [hlen.out] at hnc
        simp only at c0 c1 c2
        obtain ⟨g', hg', _, p0, p1, p2⟩ := HV.out _ _ _ _ O2.out
        cases hg'
        simp only at p0 p1 p2
        have q0 := fun o => (Keeps.alloc (fun _ => False) w2 o).cell p0 id
        have q1 := fun o => (Keeps.alloc (fun _ => False) w2 o).cell p1 id
        have q2 := fun o => (Keeps.alloc (fun _ => False) w2 o).cell p2 id
        go_wp2_with fail
        go_region
        go_wp2_with fail
        refine (heap_put_at w _ h b bb m lo hi ⟨va, (us + vs), false⟩ H.out (by
          repeat (first | exact K2.out | refine Keeps.setNew ?_ _ _ (by simp; omega) | refine (Keeps.trans ?_ (Keeps.drew _ _)) | refine (Keeps.trans ?_ (Keeps.alloc _ _ _)))) (by simp only; omega) (by simp only; omega)).mono ?_
        rintro e w9 ⟨rfl, m9, k9⟩
        have M9 := Lib.hid m9
        have K9 := Lib.hid k9
        clear m9 k9
        go_wp2_with fail
        go_ret
        exact ⟨rfl, M9.out, K9.out⟩
  | some n =>
    simp only at hN
    obtain ⟨hn1, nf, hNx⟩ := hN
    have HNX := Lib.hid hNx
    obtain ⟨na, ns, nu⟩ := n
    unfold Blk.Fit at nf
    simp only at nf
    obtain ⟨m0, m1, m2, m3⟩ := nf
    have hn : decide ((k : Int) + 1 < len) = true := decide_eq_true (by omega)
    have hn2 : (k : Int) + 1 < len := by omega
    clear hNx
    cases nu with
    | true =>
      cases pv with
      | none =>
        have hp : decide (0 < (k : Int)) = false := decide_eq_false (by simp only at hP; omega)
        have hp2 : decide (0 < k) = false := decide_eq_false (by simp only at hP; omega)
        have HJ : Hid (joinO ⟨ua, us, uu⟩ (some ⟨na, ns, true⟩) none = ⟨ua, us, false⟩) := rfl
        rw [HJ.out]
        clear hP HJ
        go_enter Try.func39, Try.ntmps39
        go_wp2_with fail
        refine hbl.out.mono ?_
        rintro e w1 ⟨a, c, rfl, o1, k1⟩
        have K1 := Lib.hid k1
        have O1 := Lib.hid o1
        clear k1 o1 hbl
        go_wp2_with fail
        refine (hF.out _ _ _ O1.out).mono ?_
        rintro e w2 ⟨rfl, k2⟩
        have K2 := Lib.hid (K1.out.trans k2)
        have hw2 := K2.out.size
        have O2 := Lib.hid (O1.out.keeps k2 (fun _ _ => id))
        clear k2
        obtain ⟨g, rfl, hnc, c0, c1, c2⟩ := hU.out _ _ _ _ O2.out
        rw [hlen.out] at hnc
        simp only at c0 c1 c2
        obtain ⟨g', hg', _, n0, n1, n2⟩ := HNX.out _ _ _ _ O2.out
        cases hg'
        simp only at n0 n1 n2
        have y0 := fun o => (Keeps.alloc (fun _ => False) w2 o).cell n0 id
        have y1 := fun o => (Keeps.alloc (fun _ => False) w2 o).cell n1 id
        have y2 := fun o => (Keeps.alloc (fun _ => False) w2 o).cell n2 id
        go_wp2_with fail
        refine (heap_put_at w _ h b bb m lo hi ⟨ua, (us), false⟩ H.out (by
          repeat (first | exact K2.out | refine Keeps.setNew ?_ _ _ (by simp; omega) | refine (Keeps.trans ?_ (Keeps.drew _ _)) | refine (Keeps.trans ?_ (Keeps.alloc _ _ _)))) (by simp only; omega) (by simp only; omega)).mono ?_
        rintro e w9 ⟨rfl, m9, k9⟩
        have M9 := Lib.hid m9
        have K9 := Lib.hid k9
        clear m9 k9
        go_wp2_with fail
        go_ret
        exact ⟨rfl, M9.out, K9.out⟩
      | some v =>
        simp only at hP
        obtain ⟨hp0, vf, hV⟩ := hP
        have HV := Lib.hid hV
        obtain ⟨va, vs, vu⟩ := v
        unfold Blk.Fit at vf
        simp only at vf
        obtain ⟨v0, v1, v2, v3⟩ := vf
        have hp : decide (0 < (k : Int)) = true := decide_eq_true (by omega)
        have hp2 : decide (0 < k) = true := decide_eq_true (by omega)
        have hkm : (0 : Int) ≤ (k : Int) - 1 := by omega
        have hkm1 : (k : Int) - 1 < len := by omega
        have hkm2 : ((k : Int) - 1).toNat = k - 1 := by omega
        clear hV
        cases vu with
        | true =>
          have HJ : Hid (joinO ⟨ua, us, uu⟩ (some ⟨na, ns, true⟩) (some ⟨va, vs, true⟩) = ⟨ua, us, false⟩) := rfl
          rw [HJ.out]
          clear HJ
          go_enter Try.func39, Try.ntmps39
          go_wp2_with fail
          refine hbl.out.mono ?_
          rintro e w1 ⟨a, c, rfl, o1, k1⟩
          have K1 := Lib.hid k1
          have O1 := Lib.hid o1
          clear k1 o1 hbl
          go_wp2_with fail
          refine (hF.out _ _ _ O1.out).mono ?_
          rintro e w2 ⟨rfl, k2⟩
          have K2 := Lib.hid (K1.out.trans k2)
          have hw2 := K2.out.size
          have O2 := Lib.hid (O1.out.keeps k2 (fun _ _ => id))
          clear k2
          obtain ⟨g, rfl, hnc, c0, c1, c2⟩ := hU.out _ _ _ _ O2.out
          rw [hlen.out] at hnc
          simp only at c0 c1 c2
          obtain ⟨g', hg', _, n0, n1, n2⟩ := HNX.out _ _ _ _ O2.out
          cases hg'
          simp only at n0 n1 n2
          have y0 := fun o => (Keeps.alloc (fun _ => False) w2 o).cell n0 id
          have y1 := fun o => (Keeps.alloc (fun _ => False) w2 o).cell n1 id
          have y2 := fun o => (Keeps.alloc (fun _ => False) w2 o).cell n2 id
          obtain ⟨g', hg', _, p0, p1, p2⟩ := HV.out _ _ _ _ O2.out
          cases hg'
          simp only at p0 p1 p2
          have q0 := fun o => (Keeps.alloc (fun _ => False) w2 o).cell p0 id
          have q1 := fun o => (Keeps.alloc (fun _ => False) w2 o).cell p1 id
          have q2 := fun o => (Keeps.alloc (fun _ => False) w2 o).cell p2 id
          go_wp2_with fail
          refine (heap_put_at w _ h b bb m lo hi ⟨ua, (us), false⟩ H.out (by
            repeat (first | exact K2.out | refine Keeps.setNew ?_ _ _ (by simp; omega) | refine (Keeps.trans ?_ (Keeps.drew _ _)) | refine (Keeps.trans ?_ (Keeps.alloc _ _ _)))) (by simp only; omega) (by simp only; omega)).mono ?_
          rintro e w9 ⟨rfl, m9, k9⟩
          have M9 := Lib.hid m9
          have K9 := Lib.hid k9
          clear m9 k9
          go_wp2_with fail
          go_ret
          exact ⟨rfl, M9.out, K9.out⟩
        | false =>
          have HJ : Hid (joinO ⟨ua, us, uu⟩ (some ⟨na, ns, true⟩) (some ⟨va, vs, false⟩) = ⟨va, us + vs, false⟩) := rfl
          rw [HJ.out]
          clear HJ
          go_enter Try.func39, Try.ntmps39
          go_wp2_with fail
          refine hbl.out.mono ?_
          rintro e w1 ⟨a, c, rfl, o1, k1⟩
          have K1 := Lib.hid k1
          have O1 := Lib.hid o1
          clear k1 o1 hbl
          go_wp2_with fail
          refine (hF.out _ _ _ O1.out).mono ?_
          rintro e w2 ⟨rfl, k2⟩
          have K2 := Lib.hid (K1.out.trans k2)
          have hw2 := K2.out.size
          have O2 := Lib.hid (O1.out.keeps k2 (fun _ _ => id))
          clear k2
          obtain ⟨g, rfl, hnc, c0, c1, c2⟩ := hU.out _ _ _ _ O2.out
          rw [hlen.out] at hnc
          simp only at c0 c1 c2
          obtain ⟨g', hg', _, n0, n1, n2⟩ := HNX.out _ _ _ _ O2.out
          cases hg'
          simp only at n0 n1 n2
          have y0 := fun o => (Keeps.alloc (fun _ => False) w2 o).cell n0 id
          have y1 := fun o => (Keeps.alloc (fun _ => False) w2 o).cell n1 id
          have y2 := fun o => (Keeps.alloc (fun _ => False) w2 o).cell n2 id
          obtain ⟨g', hg', _, p0, p1, p2⟩ := HV.out _ _ _ _ O2.out
          cases hg'
          simp only at p0 p1 p2
          have q0 := fun o => (Keeps.alloc (fun _ => False) w2 o).cell p0 id
          have q1 := fun o => (Keeps.alloc (fun _ => False) w2 o).cell p1 id
          have q2 := fun o => (Keeps.alloc (fun _ => False) w2 o).cell p2 id
          go_wp2_with fail
          go_region
          go_wp2_with fail
          refine (heap_put_at w _ h b bb m lo hi ⟨va, (us + vs), false⟩ H.out (by
            repeat (first | exact K2.out | refine Keeps.setNew ?_ _ _ (by simp; omega) | refine (Keeps.trans ?_ (Keeps.drew _ _)) | refine (Keeps.trans ?_ (Keeps.alloc _ _ _)))) (by simp only; omega) (by simp only; omega)).mono ?_
          rintro e w9 ⟨rfl, m9, k9⟩
          have M9 := Lib.hid m9
          have K9 := Lib.hid k9
          clear m9 k9
          go_wp2_with fail
          go_ret
          exact ⟨rfl, M9.out, K9.out⟩
    | false =>
      cases pv with
      | none =>
        have hp : decide (0 < (k : Int)) = false := decide_eq_false (by simp only at hP; omega)
        have hp2 : decide (0 < k) = false := decide_eq_false (by simp only at hP; omega)
        have HJ : Hid (joinO ⟨ua, us, uu⟩ (some ⟨na, ns, false⟩) none = ⟨ua, us + ns, false⟩) := rfl
        rw [HJ.out]
        clear hP HJ
        go_enter Try.func39, Try.ntmps39
        go_wp2_with fail
        refine hbl.out.mono ?_
        rintro e w1 ⟨a, c, rfl, o1, k1⟩
        have K1 := Lib.hid k1
        have O1 := Lib.hid o1
        clear k1 o1 hbl
        go_wp2_with fail
        refine (hF.out _ _ _ O1.out).mono ?_
        rintro e w2 ⟨rfl, k2⟩
        have K2 := Lib.hid (K1.out.trans k2)
        have hw2 := K2.out.size
        have O2 := Lib.hid (O1.out.keeps k2 (fun _ _ => id))
        clear k2
        obtain ⟨g, rfl, hnc, c0, c1, c2⟩ := hU.out _ _ _ _ O2.out
        rw [hlen.out] at hnc
        simp only at c0 c1 c2
        obtain ⟨g', hg', _, n0, n1, n2⟩ := HNX.out _ _ _ _ O2.out
        cases hg'
        simp only at n0 n1 n2
        have y0 := fun o => (Keeps.alloc (fun _ => False) w2 o).cell n0 id
        have y1 := fun o => (Keeps.alloc (fun _ => False) w2 o).cell n1 id
        have y2 := fun o => (Keeps.alloc (fun _ => False) w2 o).cell n2 id
        go_wp2_with fail
        go_region
        go_wp2_with fail
        refine (heap_put_at w _ h b bb m lo hi ⟨ua, (us + ns), false⟩ H.out (by
          repeat (first | exact K2.out | refine Keeps.setNew ?_ _ _ (by simp; omega) | refine (Keeps.trans ?_ (Keeps.drew _ _)) | refine (Keeps.trans ?_ (Keeps.alloc _ _ _)))) (by simp only; omega) (by simp only; omega)).mono ?_
        rintro e w9 ⟨rfl, m9, k9⟩
        have M9 := Lib.hid m9
        have K9 := Lib.hid k9
        clear m9 k9
        go_wp2_with fail
        go_ret
        exact ⟨rfl, M9.out, K9.out⟩
      | some v =>
        simp only at hP
        obtain ⟨hp0, vf, hV⟩ := hP
        have HV := Lib.hid hV
        obtain ⟨va, vs, vu⟩ := v
        unfold Blk.Fit at vf
        simp only at vf
        obtain ⟨v0, v1, v2, v3⟩ := vf
        have hp : decide (0 < (k : Int)) = true := decide_eq_true (by omega)
        have hp2 : decide (0 < k) = true := decide_eq_true (by omega)
        have hkm : (0 : Int) ≤ (k : Int) - 1 := by omega
        have hkm1 : (k : Int) - 1 < len := by omega
        have hkm2 : ((k : Int) - 1).toNat = k - 1 := by omega
        clear hV
        cases vu with
        | true =>
          have HJ : Hid (joinO ⟨ua, us, uu⟩ (some ⟨na, ns, false⟩) (some ⟨va, vs, true⟩) = ⟨ua, us + ns, false⟩) := rfl
          rw [HJ.out]
          clear HJ
          go_enter Try.func39, Try.ntmps39
          go_wp2_with fail
          refine hbl.out.mono ?_
          rintro e w1 ⟨a, c, rfl, o1, k1⟩
          have K1 := Lib.hid k1
          have O1 := Lib.hid o1
          clear k1 o1 hbl
          go_wp2_with fail
          refine (hF.out _ _ _ O1.out).mono ?_
          rintro e w2 ⟨rfl, k2⟩
          have K2 := Lib.hid (K1.out.trans k2)
          have hw2 := K2.out.size
          have O2 := Lib.hid (O1.out.keeps k2 (fun _ _ => id))
          clear k2
          obtain ⟨g, rfl, hnc, c0, c1, c2⟩ := hU.out _ _ _ _ O2.out
          rw [hlen.out] at hnc
          simp only at c0 c1 c2
          obtain ⟨g', hg', _, n0, n1, n2⟩ := HNX.out _ _ _ _ O2.out
          cases hg'
          simp only at n0 n1 n2
          have y0 := fun o => (Keeps.alloc (fun _ => False) w2 o).cell n0 id
          have y1 := fun o => (Keeps.alloc (fun _ => False) w2 o).cell n1 id
          have y2 := fun o => (Keeps.alloc (fun _ => False) w2 o).cell n2 id
          obtain ⟨g', hg', _, p0, p1, p2⟩ := HV.out _ _ _ _ O2.out
          cases hg'
          simp only at p0 p1 p2
          have q0 := fun o => (Keeps.alloc (fun _ => False) w2 o).cell p0 id
          have q1 := fun o => (Keeps.alloc (fun _ => False) w2 o).cell p1 id
          have q2 := fun o => (Keeps.alloc (fun _ => False) w2 o).cell p2 id
          go_wp2_with fail
          go_region
          go_wp2_with fail
          refine (heap_put_at w _ h b bb m lo hi ⟨ua, (us + ns), false⟩ H.out (by
            repeat (first | exact K2.out | refine Keeps.setNew ?_ _ _ (by simp; omega) | refine (Keeps.trans ?_ (Keeps.drew _ _)) | refine (Keeps.trans ?_ (Keeps.alloc _ _ _)))) (by simp only; omega) (by simp only; omega)).mono ?_
          rintro e w9 ⟨rfl, m9, k9⟩
          have M9 := Lib.hid m9
          have K9 := Lib.hid k9
          clear m9 k9
          go_wp2_with fail
          go_ret
          exact ⟨rfl, M9.out, K9.out⟩
        | false =>
          have HJ : Hid (joinO ⟨ua, us, uu⟩ (some ⟨na, ns, false⟩) (some ⟨va, vs, false⟩) = ⟨va, us + ns + vs, false⟩) := rfl
          rw [HJ.out]
          clear HJ
          go_enter Try.func39, Try.ntmps39
          go_wp2_with fail
          refine hbl.out.mono ?_
          rintro e w1 ⟨a, c, rfl, o1, k1⟩
          have K1 := Lib.hid k1
          have O1 := Lib.hid o1
          clear k1 o1 hbl
          go_wp2_with fail
          refine (hF.out _ _ _ O1.out).mono ?_
          rintro e w2 ⟨rfl, k2⟩
          have K2 := Lib.hid (K1.out.trans k2)
          have hw2 := K2.out.size
          have O2 := Lib.hid (O1.out.keeps k2 (fun _ _ => id))
          clear k2
          obtain ⟨g, rfl, hnc, c0, c1, c2⟩ := hU.out _ _ _ _ O2.out
          rw [hlen.out] at hnc
          simp only at c0 c1 c2
          obtain ⟨g', hg', _, n0, n1, n2⟩ := HNX.out _ _ _ _ O2.out
          cases hg'
          simp only at n0 n1 n2
          have y0 := fun o => (Keeps.alloc (fun _ => False) w2 o).cell n0 id
          have y1 := fun o => (Keeps.alloc (fun _ => False) w2 o).cell n1 id
          have y2 := fun o => (Keeps.alloc (fun _ => False) w2 o).cell n2 id
          obtain ⟨g', hg', _, p0, p1, p2⟩ := HV.out _ _ _ _ O2.out
          cases hg'
          simp only at p0 p1 p2
          have q0 := fun o => (Keeps.alloc (fun _ => False) w2 o).cell p0 id
          have q1 := fun o => (Keeps.alloc (fun _ => False) w2 o).cell p1 id
          have q2 := fun o => (Keeps.alloc (fun _ => False) w2 o).cell p2 id
          go_wp2_with fail
          go_region
          go_wp2_with fail
          go_region
          go_wp2_with fail
          refine (heap_put_at w _ h b bb m lo hi ⟨va, (us + ns + vs), false⟩ H.out (by
            repeat (first | exact K2.out | refine Keeps.setNew ?_ _ _ (by simp; omega) | refine (Keeps.trans ?_ (Keeps.drew _ _)) | refine (Keeps.trans ?_ (Keeps.alloc _ _ _)))) (by simp only; omega) (by simp only; omega)).mono ?_
          rintro e w9 ⟨rfl, m9, k9⟩
          have M9 := Lib.hid m9
          have K9 := Lib.hid k9
          clear m9 k9
          go_wp2_with fail
          go_ret
          exact ⟨rfl, M9.out, K9.out⟩

theorem join_joinO (p : List Blk) (u : Blk) (s : List Blk) : Heap.join (p ++ u :: s) p.length = joinO u (s[0]?) (if p.length = 0 then none else (p ++ u :: s)[p.length - 1]?) := by
  rw [join_eq]
  have e1 : (if 0 < s.length ∧ (s.getD 0 ⟨0, 0, true⟩).used = false then u.size + (s.getD 0 ⟨0, 0, true⟩).size else u.size) = joinN u s[0]? := by
    unfold joinN
    cases s with
    | nil => rfl
    | cons n s => simp
  rw [e1]
  by_cases hp : p.length = 0
  · rw [if_pos hp, if_neg (by omega)]
    rfl
  · rw [if_neg hp]
    have hlt : p.length - 1 < (p ++ u :: s).length := by rw [List.length_append]; omega
    rw [List.getD_eq_getElem?_getD, List.getElem?_eq_getElem hlt]
    generalize (p ++ u :: s)[p.length - 1] = v
    unfold joinO
    simp only [Option.getD_some]
    by_cases hu : v.used = false
    · rw [if_pos ⟨by omega, hu⟩, if_pos hu]
    · rw [if_neg (fun h => hu h.2), if_neg hu]
theorem heap_free (w : World) (h b bb : Nat) (m : Mem) (lo hi x : Int) (H0 : RHp w h b bb m lo hi) :
    Calls Try.prog 39 #[.pointer (some ⟨h, 0, none⟩), .int .i64 x] w (FreePost h b bb lo hi (Heap.free m lo hi x) w) := by
  have H := Lib.hid H0
  have b0 := H0.lo0
  have b1 := H0.lt
  have b2 := H0.top
  have b3 := H0.mem.le
  have HD : Hid (Heap.free m lo hi x = match Heap.blocks m lo hi with
  | none => (m, -2052)
  | some l => if Heap.find l x < 0 then (m, -60) else Heap.put m (Heap.join l (Heap.find l x).toNat)) := rfl
  clear H0
  generalize Heap.free m lo hi x = r at HD ⊢
  have hr := HD.out
  have hbl := Lib.hid (heap_blocks w h b bb m lo hi H.out)
  have hmem := Lib.hid (fun l (e : Heap.blocks m lo hi = some l) => Heap.blocks_mem e)
  have hlen := Lib.hid (fun l (e : Heap.blocks m lo hi = some l) => Heap.from_len m hi _ lo l b1 e)
  generalize Heap.blocks m lo hi = q at hr hbl hmem hlen
  clear HD
  cases q with
  | none =>
    simp only at hr
    have HR := Lib.hid hr
    clear hr
    unfold BlkPost at hbl
    go_enter Try.func39, Try.ntmps39
    go_wp2_with fail
    refine hbl.out.mono ?_
    rintro e w1 ⟨rfl, k1⟩
    have K1 := Lib.hid k1
    clear k1
    go_wp2_with fail
    go_ret
    rw [HR.out]
    exact ⟨rfl, H.out.keeps K1.out id id id, K1.out.mono (fun _ _ => False.elim)⟩
  | some l =>
    simp only at hr
    have HR := Lib.hid hr
    have hlm := Lib.hid (hmem.out l rfl)
    have hll := hlen.out l rfl
    have hl6 : l.length ≤ 1000000 := by omega
    clear hll hlen hr hmem
    unfold BlkPost at hbl
    have hF := Lib.hid fun a c w1 (o : OwnB w.heap.size w1 a c l) => heap_find w.heap.size w1 a c l x o (fun u hu => by have := hlm.out u hu; omega) hl6
    have hfl := Heap.findN_law x l 0
    have hfd : Heap.findN x 0 l = Heap.find l x := rfl
    rw [hfd] at hfl
    clear hfd
    rcases hfl with ⟨hf, _⟩ | ⟨p, u, s, hl, hf, hu1, hu2⟩
    · have hr := HR.out
      rw [if_pos (by omega)] at hr
      have HR' := Lib.hid hr
      rw [hf] at hF
      clear hr HR hf
      go_enter Try.func39, Try.ntmps39
      go_wp2_with fail
      refine hbl.out.mono ?_
      rintro e w1 ⟨a, c, rfl, o1, k1⟩
      have K1 := Lib.hid k1
      have O1 := Lib.hid o1
      clear k1 o1 hbl
      go_wp2_with fail
      refine (hF.out _ _ _ O1.out).mono ?_
      rintro e w2 ⟨rfl, k2⟩
      have K2 := Lib.hid (K1.out.trans k2)
      clear k2
      go_wp2_with fail
      go_ret
      rw [HR'.out]
      exact ⟨rfl, H.out.keeps K2.out id id id, K2.out.mono (fun _ _ => False.elim)⟩
    · have hf' : Heap.find l x = (p.length : Int) := by omega
      have hr := HR.out
      rw [hf', if_neg (by omega), show ((p.length : Int)).toNat = p.length by omega] at hr
      rw [hf'] at hF
      have hfit : ∀ v ∈ l, v.Fit := fun v hv => by
        have := hlm.out v hv
        unfold Blk.Fit
        omega
      rw [hl, join_joinO, ← hl] at hr
      rw [hr]
      have hpl : p.length < l.length := by rw [hl]; simp
      have hpu : l[p.length] = u := by simp [hl]
      refine free_walk w h b bb m lo hi x H l l.length p.length rfl hl6 hpl hbl hF u (hfit u (by rw [hl]; simp)) ?_ _ _ ?_ ?_
      · have := blkAt l p.length hpl
        rw [hpu] at this
        exact this
      · cases s with
        | nil => simp only [List.getElem?_nil]; rw [hl]; simp
        | cons n s =>
          simp only [List.getElem?_cons_zero]
          have h1 : p.length + 1 < l.length := by rw [hl]; simp
          refine ⟨h1, hfit n (by rw [hl]; simp), ?_⟩
          have := blkAt l (p.length + 1) h1
          have e : l[p.length + 1] = n := by
            simp only [hl]
            rw [List.getElem_append_right (by omega)]
            simp
          rw [e] at this
          exact this
      · by_cases hp : p.length = 0
        · rw [if_pos hp]
          exact hp
        · rw [if_neg hp]
          have h1 : p.length - 1 < l.length := by omega
          rw [List.getElem?_eq_getElem h1]
          exact ⟨by omega, hfit _ (List.getElem_mem h1), blkAt l _ h1⟩
end Go.Proofs.Shed
