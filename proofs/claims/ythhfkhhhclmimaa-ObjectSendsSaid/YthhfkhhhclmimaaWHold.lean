/- holds: each object has its class, its bytes, and the methods that the walk finds. Conditions: the world lies in blocks of its own, the objects in a slice. -/
import Derived.Test.YthhfkhhhclmimaaWWorldD
import Derived.Test.YthhfkhhhclmimaaWObj
import Derived.Test.YthhfkhhhclmimaaWM
import Derived.Test.YthhfkhhhclmimaaWRefB
import Derived.Test.YthhfkhhhclmimaaPD
import Derived.IntWalk
set_option linter.unusedVariables false
set_option linter.unusedSimpArgs false
set_option maxRecDepth 10000
set_option maxHeartbeats 8000000
namespace Go.Proofs.Shed
open Go Go.RowKit Go.Proofs.K

def thingV (O : List Thing) : List Value := O.flatMap fun o => [.int .i64 o.at_, .int .i64 (o.cls : Int), strV o.text]
theorem thingV_len (O : List Thing) : (thingV O).length = O.length * 3 := by
  induction O with
  | nil => rfl
  | cons p L ih => simp [thingV] at ih ⊢; omega
theorem thingV_app (P L : List Thing) : thingV (P ++ L) = thingV P ++ thingV L := by simp [thingV]
theorem thingV_get (O : List Thing) (i : Nat) (h : i < O.length) : (thingV O)[i * 3]? = some (.int .i64 O[i].at_) ∧ (thingV O)[i * 3 + 1]? = some (.int .i64 (O[i].cls : Int)) ∧ (thingV O)[i * 3 + 2]? = some (strV O[i].text) := by
  induction O generalizing i with
  | nil => cases h
  | cons p L ih =>
    have e : thingV (p :: L) = .int .i64 p.at_ :: .int .i64 (p.cls : Int) :: strV p.text :: thingV L := rfl
    rw [e]
    cases i with
    | zero => exact ⟨rfl, rfl, rfl⟩
    | succ i =>
      have := ih i (by simpa using h)
      rw [show (i + 1) * 3 = i * 3 + 3 by omega]
      exact this
def OwnT (w : World) (a : Option Addr) (c : Nat) (O : List Thing) : Prop := Own w 90 3 a O.length c (thingV O)
theorem OwnT.keeps {w w' : World} {a : Option Addr} {c : Nat} {O : List Thing} (h : OwnT w a c O) {S : Nat → Prop} (k : Keeps S w w') (hs : ∀ g, blk a = some g → ¬ S g) : OwnT w' a c O := Own.keeps h k hs
theorem OwnT.at {w : World} {a : Option Addr} {c : Nat} {O : List Thing} (h : OwnT w a c O) {i : Nat} (hi : i < O.length) :
    ∃ g, a = some ⟨g, 0, none⟩ ∧ O.length ≤ c ∧ w.cell? ⟨g, i * 3, none⟩ = some (.int .i64 O[i].at_) ∧ w.cell? ⟨g, i * 3 + 1, none⟩ = some (.int .i64 (O[i].cls : Int)) ∧ w.cell? ⟨g, i * 3 + 2, none⟩ = some (strV O[i].text) := by
  rcases Own.form h with ⟨_, hn, _⟩ | ⟨g, cur, hx, hh, hnc, _⟩
  · omega
  · have ho := h
    unfold OwnT at ho
    rw [hx] at ho
    obtain ⟨q0, q1, q2⟩ := thingV_get O i hi
    exact ⟨g, hx, hnc, Own.cell ho q0, Own.cell ho q1, Own.cell ho q2⟩
theorem wd_apart {x : Sp} {A T : List Int} {L : List RCls} {B : List Blk} {O : List Thing} {i : Nat} (h : Obj.Wd x A T L B O i) (j : Nat) (hj : j < O.length) (k : Nat) (hk : k < j) :
    O[k].at_ + 8 + (O[k].text.length : Int) ≤ O[j].at_ ∨ O[j].at_ + 8 + (O[j].text.length : Int) ≤ O[k].at_ :=
  List.pairwise_iff_getElem.1 h.apart k j (by omega) hj hk
theorem wd_ref {x : Sp} {A T : List Int} {L : List RCls} {B : List Blk} {O : List Thing} {i : Nat} (h : Obj.Wd x A T L B O i) : Ref.Ok L := h.good.ref

theorem holds_law (X : Nat → Prop) (w : World) (wb s b bb : Nat) (x : Sp) (A T : List Int) (L : List RCls) (B : List Blk) (O : List Thing) (i : Nat) (aA : Option Addr) (cA : Nat) (aL : Option Addr) (cL : Nat) (aT : Option Addr) (cT : Nat) (sel : Int)
    (hr : RWorld X w wb s b bb x 8 A L aA cA aL cL) (hw : Obj.Wd x A T L B O i) (hi : i ≤ 61) (hown : ∀ y ∈ L, y.own.length ≤ i) (ha : OwnT w aT cT O) (hO : O.length ≤ 100) :
    Calls Try.prog 43 #[.pointer (some ⟨wb, 0, none⟩), .slice aT O.length cT, .int .i64 sel] w fun e w' => e = .returned (.bool true) ∧ Keeps (fun _ => False) w w' := by
  have HR := Lib.hid hr
  have HW := Lib.hid hw
  have HOW := Lib.hid hown
  have HT := Lib.hid ha
  have hLl := hw.len
  clear hr hw hown ha
  go_enter Try.func43, Try.ntmps43
  go_wp2_with fail
  go_loopw [23] (fun iv wr => ∃ j : Nat, iv = .int .i64 j ∧ j ≤ O.length ∧ Keeps (fun _ => False) w wr) (fun iv _ => O.length - (intOf iv).toNat)
  case atStart => exact ⟨0, rfl, by omega, Keeps.refl _ _⟩
  case round =>
    obtain ⟨j, rfl, hj, hk⟩ := hrel
    have HK := Lib.hid hk
    clear hk
    by_cases hlt : j < O.length
    · obtain ⟨gT, rfl, hcT, d0', d1', d2'⟩ := HT.out.at hlt
      have d0 := HK.out.cell d0' id
      have d1 := HK.out.cell d1' id
      have d2 := HK.out.cell d2' id
      have HAP := Lib.hid (wd_apart HW.out j hlt)
      obtain ⟨hob, hob2⟩ := HW.out.obj O[j] (List.getElem_mem hlt)
      have hlies := HW.out.lies hob2
      have hcl := hob.cls
      have hcls := Obj.cls_law HW.out.good hob.cls hob.cell
      have htx := hob.text
      have hsl := HW.out.sl _ hob.cls
      obtain ⟨hs1, hs2, hs3⟩ := Obj.send_law HW.out.good hob.cls hob.cell sel
      clear d0' d1' d2' hob hob2
      unfold Obj.till at hlies
      generalize O[j] = o at d0 d1 d2 HAP hlies hcl hcls htx hsl hs1 hs2 hs3
      obtain ⟨at_, cls, text⟩ := o
      simp only at d0 d1 d2 HAP hlies hcl hcls htx hsl hs1 hs2 hs3
      have hj0 : (0 : Int) ≤ (j : Int) := by omega
      have a0 : 0 ≤ at_ := by omega
      have a1 : at_ ≤ 32768 := by omega
      have t0 : text.length ≤ 32768 := by omega
      have hclA : cls < A.length := by rw [HW.out.good.nA]; exact hcl
      -- what is read
      have KA := Keeps.alloc (fun _ => False) wr (.cells #[.int .i64 at_, .int .i64 (cls : Int), strV text] 90)
      have hA9 := halloc_at wr (.cells #[.int .i64 at_, .int .i64 (cls : Int), strV text] 90)
      generalize hW1 : wr.alloc (.cells #[.int .i64 at_, .int .i64 (cls : Int), strV text] 90) = W1 at KA hA9
      have HW1 := Lib.hid hW1
      have K1 := Lib.hid (HK.out.trans KA)
      have R1 := Lib.hid (HR.out.keeps9 K1.out)
      obtain ⟨gA, hgA, hga⟩ : ∃ g, aA = some ⟨g, 0, none⟩ ∧ W1.cell? ⟨g, cls, none⟩ = some (.int .i64 (Class.nth A cls)) := by
        have ho := R1.out.own
        rcases Own.form ho with ⟨_, h0, _⟩ | ⟨g, cur, hx, _⟩
        · omega
        · refine ⟨g, hx, ?_⟩
          rw [hx] at ho
          refine Own.cell ho ?_
          rw [List.getElem?_map]
          unfold Class.nth
          rw [List.getD_eq_getElem?_getD, List.getElem?_eq_getElem hclA]
          rfl
      subst hgA
      have hcA : A.length ≤ cA := by
        rcases Own.form R1.out.own with ⟨hx, _⟩ | ⟨g, cur, hx, hh, hnc, _⟩
        · cases hx
        · exact hnc
      obtain ⟨gL, oa, on, oc, rfl, _, hcL, _, _, hgs, _, _, _⟩ := R1.out.ref.get hcl
      rw [← Ref.get_at L cls hcl] at hgs
      have F0 := Lib.hid fun V (k : Keeps (fun _ => False) W1 V) => k.cell (cell_of (i := 0) R1.out.head rfl) id
      have F2 := Lib.hid fun V (k : Keeps (fun _ => False) W1 V) => k.cell (cell_of (i := 2) R1.out.head rfl) id
      have F3 := Lib.hid fun V (k : Keeps (fun _ => False) W1 V) => k.cell (cell_of (i := 3) R1.out.head rfl) id
      have F4 := Lib.hid fun V (k : Keeps (fun _ => False) W1 V) => k.cell (cell_of (i := 4) R1.out.head rfl) id
      have FA := Lib.hid fun V (k : Keeps (fun _ => False) W1 V) => k.cell hga id
      have FY := Lib.hid fun V (k : Keeps (fun _ => False) W1 V) => k.cell hgs id
      have Y0 := Lib.hid fun V (k : Keeps (fun _ => False) W1 V) => k.cell (cell_of (i := 0) hA9 rfl) id
      have Y1 := Lib.hid fun V (k : Keeps (fun _ => False) W1 V) => k.cell (cell_of (i := 1) hA9 rfl) id
      have Y2 := Lib.hid fun V (k : Keeps (fun _ => False) W1 V) => k.cell (cell_of (i := 2) hA9 rfl) id
      have hC := Lib.hid fun V (k : Keeps (fun _ => False) W1 V) => obj_class V b bb x.mem 8 at_ (R1.out.sp.mem.keeps k id id)
      have hX := Lib.hid fun V (k : Keeps (fun _ => False) W1 V) => mem_text V b bb x.mem (at_ + 8) text.length (R1.out.sp.mem.keeps k id id)
      have hS := Lib.hid fun V (k : Keeps (fun _ => False) W1 V) => obj_send V b bb x.mem 8 at_ sel (R1.out.sp.mem.keeps k id id)
      have hWk := Lib.hid fun V (k : Keeps (fun _ => False) W1 V) => ref_walk _ V _ _ _ L cls sel (R1.out.ref.keeps k (fun _ _ => id)) (wd_ref HW.out) (by omega) (by omega) (by omega) (fun y hy => by have := HOW.out y hy; omega)
      rw [hcls] at hC
      rw [htx] at hX
      have hslo : (Ref.get L cls).slots = 5 := hsl
      rw [hslo] at hs1 FY
      generalize Obj.send x.mem 8 at_ sel = q at hS hs1 hs2 hs3
      generalize Ref.walk L cls sel = p at hWk hs2 hs3
      generalize Class.nth A cls = ca at hga FA hC
      obtain ⟨qx, qn, qe⟩ := q
      simp only at hS hs1 hs2 hs3
      have QS := Lib.hid hs2
      have QN := Lib.hid hs3
      clear hA9 KA hga hgs hcls htx hsl hslo hs2 hs3 hW1
      unfold strV at d2 Y2 hX
      go_wp2_with fail
      have HW1' := HW1.out
      unfold strV at HW1'
      rw [HW1']
      clear HW1'
      have k0 := Keeps.refl (fun _ => False) W1
      have g0 := fun (i : Stay W1) => F0.out i.1 (k0.trans i.2)
      have g2 := fun (i : Stay W1) => F2.out i.1 (k0.trans i.2)
      have y0 := fun (i : Stay W1) => Y0.out i.1 (k0.trans i.2)
      have hC1 := Lib.hid fun (i : Stay W1) => hC.out i.1 i.2
      refine Go.Proofs.K.wp_region_calm ?calm1a ?calm1b ?_
      case calm1a => kernel_rfl
      case calm1b => kernel_rfl
      repeat ((with_reducible refine wpQuiet_step ?_); intro Kq hKq; go_simp; first | ((with_reducible refine hKq _ ?_); clear hKq Kq) | (refine hKq _ ?_; clear hKq Kq) | (apply Exists.intro; refine ⟨fun _ => ?_, hKq _ ?_⟩; (exact K.calm_of (hC1.out _)); clear hKq Kq))
      with_reducible refine wpQuiet_nil ?_
      intro v4 hw'
      obtain ⟨⟨wq, kq⟩, hw''⟩ := hw'
      subst hw''
      have K4 := Lib.hid kq
      clear g0 g2 y0
      clear kq hC1 k0
      go_wp2_with fail
      have g0 := fun (i : Stay v4) => F0.out i.1 (K4.out.trans i.2)
      have y0 := fun (i : Stay v4) => Y0.out i.1 (K4.out.trans i.2)
      have y2 := fun (i : Stay v4) => Y2.out i.1 (K4.out.trans i.2)
      have hw8 : IntKind.i64.wrap (at_ + 8) = at_ + 8 := IntWalk.i64_in _ (by omega)
      have hX1 := Lib.hid fun (i : Stay v4) => (hX.out i.1 (K4.out.trans i.2)).mono (fun e w' (h : _ ∧ _) => (⟨h.1, h.2 ▸ Keeps.refl (fun _ => False) _⟩ : _ ∧ Keeps (fun _ => False) i.1 w'))
      refine Go.Proofs.K.wp_region_calm ?calm2a ?calm2b ?_
      case calm2a => kernel_rfl
      case calm2b => kernel_rfl
      repeat ((with_reducible refine wpQuiet_step ?_); intro Kq hKq; go_simp; first | ((with_reducible refine hKq _ ?_); clear hKq Kq) | (refine hKq _ ?_; clear hKq Kq) | (apply Exists.intro; refine ⟨fun _ => ?_, hKq _ ?_⟩; (exact K.calm_of (hX1.out _)); clear hKq Kq))
      with_reducible refine wpQuiet_nil ?_
      intro v5 hw'
      obtain ⟨⟨wq, kq⟩, hw''⟩ := hw'
      subst hw''
      have K5 := Lib.hid (K4.out.trans kq)
      clear g0 y0 y2
      clear kq hX1 hw8
      go_wp2_with fail
      have g3 := fun (i : Stay v5) => F3.out i.1 (K5.out.trans i.2)
      have ga := fun (i : Stay v5) => FA.out i.1 (K5.out.trans i.2)
      have y1 := fun (i : Stay v5) => Y1.out i.1 (K5.out.trans i.2)
      have y2 := fun (i : Stay v5) => Y2.out i.1 (K5.out.trans i.2)
      refine Go.Proofs.K.wp_region_calm ?calm3a ?calm3b ?_
      case calm3a => kernel_rfl
      case calm3b => kernel_rfl
      repeat ((with_reducible refine wpQuiet_step ?_); intro Kq hKq; go_simp; first | ((with_reducible refine hKq _ ?_); clear hKq Kq) | (refine hKq _ ?_; clear hKq Kq) | (apply Exists.intro; refine ⟨fun _ => ?_, hKq _ ?_⟩; (fail); clear hKq Kq))
      with_reducible refine wpQuiet_nil ?_
      intro v6 hw'
      obtain ⟨⟨wq, kq⟩, hw''⟩ := hw'
      subst hw''
      have K6 := Lib.hid (K5.out.trans kq)
      clear g3 ga y1 y2
      clear kq
      go_wp2_with fail
      have g0 := fun (i : Stay v6) => F0.out i.1 (K6.out.trans i.2)
      have g2 := fun (i : Stay v6) => F2.out i.1 (K6.out.trans i.2)
      have y0 := fun (i : Stay v6) => Y0.out i.1 (K6.out.trans i.2)
      have hS1 := Lib.hid fun (i : Stay v6) => hS.out i.1 (K6.out.trans i.2)
      refine Go.Proofs.K.wp_region_calm ?calm4a ?calm4b ?_
      case calm4a => kernel_rfl
      case calm4b => kernel_rfl
      repeat ((with_reducible refine wpQuiet_step ?_); intro Kq hKq; go_simp; first | ((with_reducible refine hKq _ ?_); clear hKq Kq) | (refine hKq _ ?_; clear hKq Kq) | (apply Exists.intro; refine ⟨fun _ => ?_, hKq _ ?_⟩; (exact K.calm_of (hS1.out _)); clear hKq Kq))
      with_reducible refine wpQuiet_nil ?_
      intro v7 hw'
      obtain ⟨⟨wq, kq⟩, hw''⟩ := hw'
      subst hw''
      have K7 := Lib.hid (K6.out.trans kq)
      clear g0 g2 y0
      clear kq hS1
      go_wp2_with fail
      have g4 := fun (i : Stay v7) => F4.out i.1 (K7.out.trans i.2)
      have y1 := fun (i : Stay v7) => Y1.out i.1 (K7.out.trans i.2)
      have hW1 := Lib.hid fun (i : Stay v7) => hWk.out i.1 (K7.out.trans i.2)
      have hqn : decide (5 < qn) = false := decide_eq_false (by omega)
      cases p with
      | none =>
        obtain ⟨e1, e2⟩ := QN.out rfl
        subst e1 e2
        unfold walkV at hW1
        refine Go.Proofs.K.wp_region_calm ?calm5a ?calm5b ?_
        case calm5a => kernel_rfl
        case calm5b => kernel_rfl
        repeat ((with_reducible refine wpQuiet_step ?_); intro Kq hKq; go_simp; first | ((with_reducible refine hKq _ ?_); clear hKq Kq) | (refine hKq _ ?_; clear hKq Kq) | (apply Exists.intro; refine ⟨fun _ => ?_, hKq _ ?_⟩; (exact K.calm_of (hW1.out _)); clear hKq Kq))
        with_reducible refine wpQuiet_nil ?_
        intro v8 hw'
        obtain ⟨⟨wq, kq⟩, hw''⟩ := hw'
        subst hw''
        have K8 := Lib.hid (K7.out.trans kq)
        clear g4 y1
        clear kq hW1
        go_wp2_with fail
        have g4 := fun (i : Stay v8) => F4.out i.1 (K8.out.trans i.2)
        have y1 := fun (i : Stay v8) => Y1.out i.1 (K8.out.trans i.2)
        have gs := fun (i : Stay v8) => FY.out i.1 (K8.out.trans i.2)
        refine Go.Proofs.K.wp_region_calm ?calm6a ?calm6b ?_
        case calm6a => kernel_rfl
        case calm6b => kernel_rfl
        repeat ((with_reducible refine wpQuiet_step ?_); intro Kq hKq; go_simp; first | ((with_reducible refine hKq _ ?_); clear hKq Kq) | (refine hKq _ ?_; clear hKq Kq) | (apply Exists.intro; refine ⟨fun _ => ?_, hKq _ ?_⟩; (fail); clear hKq Kq))
        with_reducible refine wpQuiet_nil ?_
        intro v9 hw'
        obtain ⟨⟨wq, kq⟩, hw''⟩ := hw'
        subst hw''
        have K9 := Lib.hid (K8.out.trans kq)
        clear g4 y1 gs
        clear kq
        go_wp2_with fail
        have z0 : v9.cell? ⟨wr.heap.size, 0, none⟩ = some (.int .i64 at_) := Y0.out _ K9.out
        have z2 : v9.cell? ⟨wr.heap.size, 2, none⟩ = some (.string ⟨text.toArray⟩) := Y2.out _ K9.out
        obtain ⟨wr0, hwr0⟩ : ∃ v, v = wr.heap.size := ⟨_, rfl⟩
        rw [← hwr0] at z0 z2 ⊢
        have HWR := Lib.hid hwr0
        clear hwr0
        have K10 := Lib.hid (K1.out.trans K9.out)
        go_loopw [147] (fun iv wr' => ∃ k : Nat, iv = .int .i64 k ∧ k ≤ j ∧ Keeps (fun _ => False) v9 wr') (fun iv _ => j - (intOf iv).toNat)
        case atStart => exact ⟨0, rfl, by omega, Keeps.refl _ _⟩
        case round =>
          obtain ⟨k, rfl, hkj, hkk⟩ := hrel
          have HKK := Lib.hid hkk
          have x0 := hkk.cell z0 id
          have x2 := hkk.cell z2 id
          clear hkk
          by_cases hkl : k < j
          · obtain ⟨g', hg', _, b0', b1', b2'⟩ := HT.out.at (show k < O.length by omega)
            cases hg'
            have b0 := (K10.out.trans HKK.out).cell b0' id
            have b1 := (K10.out.trans HKK.out).cell b1' id
            have b2 := (K10.out.trans HKK.out).cell b2' id
            have hap := HAP.out k hkl
            obtain ⟨_, hkb2⟩ := HW.out.obj O[k] (List.getElem_mem (show k < O.length by omega))
            have hkl2 := HW.out.lies hkb2
            unfold Obj.till at hkl2
            clear b0' b1' b2' hkb2
            generalize O[k] = y at b0 b1 b2 hap hkl2
            obtain ⟨ya, yc, yt⟩ := y
            unfold strV at b2
            simp only at b0 b1 b2 hap hkl2
            have ya0 : 0 ≤ ya := by omega
            have ya1 : ya ≤ 32768 := by omega
            have yt0 : yt.length ≤ 32768 := by omega
            have hk0 : (0 : Int) ≤ (k : Int) := by omega
            have KB := Lib.hid (HKK.out.trans (Keeps.alloc (fun _ => False) _ (.cells #[.int .i64 ya, .int .i64 (yc : Int), .string ⟨yt.toArray⟩] 90)))
            have p0 := fun o => (Keeps.alloc (fun _ => False) _ o).cell x0 id
            have p2 := fun o => (Keeps.alloc (fun _ => False) _ o).cell x2 id
            by_cases h1 : at_ < ya + 8 + yt.length
            · have h2 : decide (ya < at_ + 8 + text.length) = false := decide_eq_false (by omega)
              have h1' : decide (at_ < ya + 8 + yt.length) = true := decide_eq_true h1
              clear hap hkl2 h1
              go_wp2_with fail
              go_roundw
              case rel => exact ⟨k + 1, by go_num, by omega, KB.out⟩
              case measure => simp [intOf]; omega
            · have h1' : decide (at_ < ya + 8 + yt.length) = false := decide_eq_false h1
              clear hap hkl2 h1
              go_wp2_with fail
              go_roundw
              case rel => exact ⟨k + 1, by go_num, by omega, KB.out⟩
              case measure => simp [intOf]; omega
          · go_wp2_with fail
            go_roundw
            case rel => exact ⟨j + 1, by go_num, by omega, (HK.out.trans (show Keeps (fun _ => False) _ W1 by rw [← HW1.out]; exact Keeps.alloc _ _ _)).trans (K9.out.trans HKK.out)⟩
            case measure => simp [intOf]; omega
      | some y =>
        obtain ⟨e1, e2⟩ := QS.out y rfl
        subst e1 e2
        unfold walkV at hW1
        refine Go.Proofs.K.wp_region_calm ?calm7a ?calm7b ?_
        case calm7a => kernel_rfl
        case calm7b => kernel_rfl
        repeat ((with_reducible refine wpQuiet_step ?_); intro Kq hKq; go_simp; first | ((with_reducible refine hKq _ ?_); clear hKq Kq) | (refine hKq _ ?_; clear hKq Kq) | (apply Exists.intro; refine ⟨fun _ => ?_, hKq _ ?_⟩; (exact K.calm_of (hW1.out _)); clear hKq Kq))
        with_reducible refine wpQuiet_nil ?_
        intro v8 hw'
        obtain ⟨⟨wq, kq⟩, hw''⟩ := hw'
        subst hw''
        have K8 := Lib.hid (K7.out.trans kq)
        clear g4 y1
        clear kq hW1
        go_wp2_with fail
        have g4 := fun (i : Stay v8) => F4.out i.1 (K8.out.trans i.2)
        have y1 := fun (i : Stay v8) => Y1.out i.1 (K8.out.trans i.2)
        have gs := fun (i : Stay v8) => FY.out i.1 (K8.out.trans i.2)
        refine Go.Proofs.K.wp_region_calm ?calm8a ?calm8b ?_
        case calm8a => kernel_rfl
        case calm8b => kernel_rfl
        repeat ((with_reducible refine wpQuiet_step ?_); intro Kq hKq; go_simp; first | ((with_reducible refine hKq _ ?_); clear hKq Kq) | (refine hKq _ ?_; clear hKq Kq) | (apply Exists.intro; refine ⟨fun _ => ?_, hKq _ ?_⟩; (fail); clear hKq Kq))
        with_reducible refine wpQuiet_nil ?_
        intro v9 hw'
        obtain ⟨⟨wq, kq⟩, hw''⟩ := hw'
        subst hw''
        have K9 := Lib.hid (K8.out.trans kq)
        clear g4 y1 gs
        clear kq
        go_wp2_with fail
        have z0 : v9.cell? ⟨wr.heap.size, 0, none⟩ = some (.int .i64 at_) := Y0.out _ K9.out
        have z2 : v9.cell? ⟨wr.heap.size, 2, none⟩ = some (.string ⟨text.toArray⟩) := Y2.out _ K9.out
        obtain ⟨wr0, hwr0⟩ : ∃ v, v = wr.heap.size := ⟨_, rfl⟩
        rw [← hwr0] at z0 z2 ⊢
        have HWR := Lib.hid hwr0
        clear hwr0
        have K10 := Lib.hid (K1.out.trans K9.out)
        go_loopw [147] (fun iv wr' => ∃ k : Nat, iv = .int .i64 k ∧ k ≤ j ∧ Keeps (fun _ => False) v9 wr') (fun iv _ => j - (intOf iv).toNat)
        case atStart => exact ⟨0, rfl, by omega, Keeps.refl _ _⟩
        case round =>
          obtain ⟨k, rfl, hkj, hkk⟩ := hrel
          have HKK := Lib.hid hkk
          have x0 := hkk.cell z0 id
          have x2 := hkk.cell z2 id
          clear hkk
          by_cases hkl : k < j
          · obtain ⟨g', hg', _, b0', b1', b2'⟩ := HT.out.at (show k < O.length by omega)
            cases hg'
            have b0 := (K10.out.trans HKK.out).cell b0' id
            have b1 := (K10.out.trans HKK.out).cell b1' id
            have b2 := (K10.out.trans HKK.out).cell b2' id
            have hap := HAP.out k hkl
            obtain ⟨_, hkb2⟩ := HW.out.obj O[k] (List.getElem_mem (show k < O.length by omega))
            have hkl2 := HW.out.lies hkb2
            unfold Obj.till at hkl2
            clear b0' b1' b2' hkb2
            generalize O[k] = y at b0 b1 b2 hap hkl2
            obtain ⟨ya, yc, yt⟩ := y
            unfold strV at b2
            simp only at b0 b1 b2 hap hkl2
            have ya0 : 0 ≤ ya := by omega
            have ya1 : ya ≤ 32768 := by omega
            have yt0 : yt.length ≤ 32768 := by omega
            have hk0 : (0 : Int) ≤ (k : Int) := by omega
            have KB := Lib.hid (HKK.out.trans (Keeps.alloc (fun _ => False) _ (.cells #[.int .i64 ya, .int .i64 (yc : Int), .string ⟨yt.toArray⟩] 90)))
            have p0 := fun o => (Keeps.alloc (fun _ => False) _ o).cell x0 id
            have p2 := fun o => (Keeps.alloc (fun _ => False) _ o).cell x2 id
            by_cases h1 : at_ < ya + 8 + yt.length
            · have h2 : decide (ya < at_ + 8 + text.length) = false := decide_eq_false (by omega)
              have h1' : decide (at_ < ya + 8 + yt.length) = true := decide_eq_true h1
              clear hap hkl2 h1
              go_wp2_with fail
              go_roundw
              case rel => exact ⟨k + 1, by go_num, by omega, KB.out⟩
              case measure => simp [intOf]; omega
            · have h1' : decide (at_ < ya + 8 + yt.length) = false := decide_eq_false h1
              clear hap hkl2 h1
              go_wp2_with fail
              go_roundw
              case rel => exact ⟨k + 1, by go_num, by omega, KB.out⟩
              case measure => simp [intOf]; omega
          · go_wp2_with fail
            go_roundw
            case rel => exact ⟨j + 1, by go_num, by omega, (HK.out.trans (show Keeps (fun _ => False) _ W1 by rw [← HW1.out]; exact Keeps.alloc _ _ _)).trans (K9.out.trans HKK.out)⟩
            case measure => simp [intOf]; omega
    · have hge : j = O.length := by omega
      subst hge
      go_wp2_with fail
      go_ret
      exact ⟨rfl, HK.out⟩
end Go.Proofs.Shed
