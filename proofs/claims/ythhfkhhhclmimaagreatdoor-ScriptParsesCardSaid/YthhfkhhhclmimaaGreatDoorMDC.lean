/- Layer 4: which names Two and One know, at ones. No condition. Layer 15: reckoning. No condition. maps.Copy of maps of primitives; vm.primitives. No condition. Layer 15: primitives: all that primitives do, by their names. No condition. Layer 15: the primitives by their numbers. No condition. -/
import Derived.Test.YthhfkhhhclmimaaGreatDoorMMA
import Derived.Test.YthhfkhhhclmimaaGreatDoorMDA
import Derived.Test.YthhfkhhhclmimaaGreatDoorMDB
import Derived.Laws.BitsAllLaws
import Derived.IntWalk
import Derived.Deep.RegionHeld3
import Derived.Deep.CutBlock
import Derived.LoopN
set_option linter.unusedVariables false
set_option linter.unusedSimpArgs false
set_option maxRecDepth 10000
set_option maxHeartbeats 4000000
namespace Go.Proofs.Ari
open Go Go.RowKit Go.Proofs.K
theorem flag_any (b : Bool) (w : World) : Calls Tryz.prog 412 #[.bool b] w fun e w' => e = .returned (.int .i64 (if b then -1 else 0)) ∧ w = w' := by
  cases b
  all_goals
    go_enter Tryz.func412, Tryz.ntmps412
    go_wp2
    go_ret
    exact ⟨rfl, rfl⟩
theorem shift_one (w : World) : Calls Tryz.prog 427 #[.int .i64 1] w fun e w' => e = .returned (.int .u64 1) ∧ w = w' := by
  go_enter Tryz.func427, Tryz.ntmps427
  go_wp2
  go_ret
  exact ⟨rfl, rfl⟩
theorem divide_one (w : World) : Calls Tryz.prog 410 #[.int .i64 1, .int .i64 1] w fun e w' => e = .returned (.tuple #[.int .i64 1, .int .i64 0]) ∧ Keeps (fun _ => False) w w' := by
  go_enter Tryz.func410, Tryz.ntmps410
  go_wp2_with fail
  go_region
  all_goals
    go_wp2_with fail
    go_ret2
    exact ⟨rfl, Keeps.drew _ _⟩
def isPlain (v : List UInt8) : Bool := v == [97, 110, 100] || v == [111, 114] || v == [120, 111, 114] || v == [108, 115, 104, 105, 102, 116] || v == [114, 115, 104, 105, 102, 116] || v == [61] || v == [60, 62] || v == [60] || v == [62] || v == [117, 60] || v == [109, 105, 110] || v == [109, 97, 120]
def isTwo (v : List UInt8) : Bool := v == [43] || v == [45] || v == [42] || v == [47] || v == [109, 111, 100] || isPlain v
def isOne (v : List UInt8) : Bool := v == [110, 101, 103, 97, 116, 101] || v == [105, 110, 118, 101, 114, 116] || v == [97, 98, 115] || v == [48, 61] || v == [48, 60] || v == [49, 43] || v == [99, 104, 97, 114, 43] || v == [49, 45] || v == [50, 42] || v == [50, 47] || v == [99, 101, 108, 108, 115] || v == [99, 101, 108, 108, 43] || v == [97, 108, 105, 103, 110, 101, 100]
theorem plain_one (v : List UInt8) (w : World) : Calls Tryz.prog 411 #[.string ⟨v.toArray⟩, .int .i64 1, .int .i64 1] w fun e w' => (∃ n : Int, e = .returned (.tuple #[.int .i64 n, .bool (isPlain v)])) ∧ w = w' := by
  go_enter Tryz.func411, Tryz.ntmps411
  go_wp2_with (first | (refine (shift_one _).mono ?_; rintro e w1 ⟨rfl, rfl⟩) | (refine (flag_any _ _).mono ?_; rintro e w1 ⟨rfl, rfl⟩))
  all_goals first
    | (exfalso; simp_all; done)
    | (go_ret2; rw [show isPlain v = true by simp [isPlain, *]]; exact ⟨⟨_, rfl⟩, rfl⟩)
    | (go_ret2; rw [show isPlain v = false by simp [isPlain, *]]; exact ⟨⟨_, rfl⟩, rfl⟩)
theorem two_one (v : List UInt8) (w : World) : Calls Tryz.prog 319 #[.string ⟨v.toArray⟩, .int .i64 1, .int .i64 1] w fun e w' => (∃ n c : Int, e = .returned (.tuple #[.int .i64 n, .int .i64 c, .bool (isTwo v)])) ∧ Keeps (fun _ => False) w w' := by
  have HP := Lib.hid fun w => plain_one v w
  have HI : Hid (isTwo v = (v == [43] || v == [45] || v == [42] || v == [47] || v == [109, 111, 100] || isPlain v)) := rfl
  generalize isPlain v = p at HP HI
  generalize isTwo v = q at HI ⊢
  go_enter Tryz.func319, Tryz.ntmps319
  go_wp2_with (first | (refine (divide_one _).mono ?_; rintro e w1 ⟨rfl, k1⟩; have K1 := Lib.hid k1; clear k1) | (refine (HP.out _).mono ?_; rintro e w1 ⟨⟨n, rfl⟩, rfl⟩))
  all_goals first
    | (exfalso; simp_all; done)
    | (go_ret3; rw [show q = true by rw [HI.out]; simp [*]]; exact ⟨⟨_, _, rfl⟩, by first | exact K1.out | exact Keeps.refl _ _⟩)
    | (go_ret3; rw [show q = p by rw [HI.out]; simp [*]]; exact ⟨⟨_, _, rfl⟩, by first | exact K1.out | exact Keeps.refl _ _⟩)
theorem one_one (v : List UInt8) (w : World) : Calls Tryz.prog 321 #[.string ⟨v.toArray⟩, .int .i64 1] w fun e w' => (∃ n : Int, e = .returned (.tuple #[.int .i64 n, .bool (isOne v)])) ∧ w = w' := by
  go_enter Tryz.func321, Tryz.ntmps321
  go_wp2_with (first | (refine (flag_any _ _).mono ?_; rintro e w1 ⟨rfl, rfl⟩))
  all_goals first
    | (exfalso; simp_all; done)
    | (go_ret2; rw [show isOne v = true by simp [isOne, *]]; exact ⟨⟨_, rfl⟩, rfl⟩)
    | (go_ret2; rw [show isOne v = false by simp [isOne, *]]; exact ⟨⟨_, rfl⟩, rfl⟩)
end Go.Proofs.Ari
set_option linter.unusedVariables false
set_option linter.unusedSimpArgs false
set_option maxRecDepth 10000
set_option maxHeartbeats 4000000
namespace Go.Proofs.Shed
open Go Go.RowKit Go.Proofs.K Go.Proofs.Cod Go.Proofs.Ari

theorem Dict.mono {w0 w : World} {b n n' : Nat} {K : List UInt8 → Option Pk} (h : Dict w0 w b n K) (hn : n ≤ n') : Dict w0 w b n' K := by
  obtain ⟨f, h1, h⟩ := h
  exact ⟨f, h1.mono hn, h⟩
theorem Dict.drew {w0 w : World} {b n : Nat} {K : List UInt8 → Option Pk} (h : Dict w0 w b n K) : Dict w0 w.drew b n K := h.keeps (Keeps.drew _ _)
theorem Dict.ge {w0 w : World} {b n : Nat} {K : List UInt8 → Option Pk} (h : Dict w0 w b n K) : w0.heap.size ≤ b := by
  obtain ⟨f, h1, h2, h3, h4⟩ := h
  exact h3
/-- m[s] = v, as an equation. -/
theorem dict_run {w0 : World} {w : World} {b n : Nat} {K : List UInt8 → Option Pk} (hown : Dict w0 w b n K) (hn : n < 1000) (s : List UInt8) (hs : s.length ≤ 1000) (val : Value) (kd : Pk) (gd : Good (fun g => w0.heap.size ≤ g) w kd val) :
    ∃ w', (Instr.mapUpdate 235 (.map (some b)) (.string ⟨s.toArray⟩) val).run Tryz.prog w = .ok () w' ∧ Dict w0 w' b (n + 1) (kput K s kd) ∧ Keeps (fun g => g = b) w w' := by
  obtain ⟨f, h1, h2, h3, h4⟩ := hown
  obtain ⟨D, hown, hr⟩ := h1
  have hD := (hown.tidy sk.kd).isMap
  obtain ⟨w', hrun, r1, r2⟩ := hown.update sk.kd Tryz.underlying235 (by unfold maxLen; omega) (sk.reads s (Nat.le_trans hs (by unfold maxLen; omega))) (show RV val = some (.held val, []) from rfl)
  have hk := Keeps.grown (S := fun g => g = b) r2 (fun j _ e => (Option.some.inj e).symm)
  have hx' := KeepX.of (X := fun g => w0.heap.size ≤ g) hk (fun g _ e => by
    have e : g = b := e
    rw [e]; exact MapIs.noRow (⟨D, hown, hr⟩ : MapIs sk w b n f))
  exact ⟨w', hrun, ⟨_, ⟨_, r1, hr.put hD s val⟩, (h2.keeps hx').put s (gd.keeps hx'), h3, h4.trans' hk (fun i hi e => by
    have e : i = b := e
    omega)⟩, hk⟩

/-- The names of what numbers come to. -/
def addK (K : List UInt8 → Option Pk) (op : List UInt8) : List UInt8 → Option Pk := if isTwo op = true then kput K op (.two op) else if isOne op = true then kput K op (.one op) else K
def K_reckoning : List UInt8 → Option Pk := names.foldl addK (fun _ => none)
theorem vm_reckoning (w : World) : Calls Tryz.prog 201 #[] w (DictPost w 86 K_reckoning) := by
  have hmm := @run_makeMap Tryz.prog
  have hmf := hmf
  have DK := Lib.hid (Dict.made w)
  have HN := Lib.hid fun w => names_any w
  have HR : Hid (K_reckoning = names.foldl addK (fun _ => none)) := rfl
  generalize K_reckoning = KR at HR ⊢
  go_enter Tryz.func201, Tryz.ntmps201
  go_wp2_with fail
  refine (HN.out _).mono ?_
  rintro e w1 ⟨rfl, rfl⟩
  have ON := Lib.hid (own_names (w.alloc (.map #[] 0)))
  replace DK := Lib.hid (DK.out.keeps (Keeps.alloc (fun _ => False) _ (.cells (names.map nm).toArray 9)))
  generalize hw2 : (w.alloc (.map #[] 0)).alloc (.cells (names.map nm).toArray 9) = w2 at ON DK
  have hs2 : w.heap.size + 1 < w2.heap.size := by rw [← hw2]; simp
  rw [show (w.alloc (.map #[] 0)).heap.size = w.heap.size + 1 by simp] at *
  clear hw2
  go_wp2_with fail
  go_loopw [12] (fun iv wr => ∃ i n : Nat, iv = .int .i64 i ∧ i ≤ 86 ∧ n ≤ i ∧ Dict w wr w.heap.size n ((names.take i).foldl addK (fun _ => none)) ∧ Keeps (fun g => g = w.heap.size) w2 wr) (fun iv _ => 86 - (intOf iv).toNat)
  case atStart => exact ⟨0, 0, rfl, by omega, by omega, DK.out, Keeps.refl _ _⟩
  case round =>
    obtain ⟨i, n, rfl, hi, hn, hd, hk⟩ := hrel
    have HD := Lib.hid hd
    have HK := Lib.hid hk
    clear hd hk
    by_cases hlt : i < 86
    · have hi' : i < names.length := by rw [names_len]; exact hlt
      obtain ⟨g, hg, hc⟩ := own_str (ON.out.keeps HK.out (fun g e => by cases e; exact fun h => by have h : w.heap.size + 1 = w.heap.size := h; omega)) i hi'
      cases hg
      have HT := Lib.hid (show (names.take (i + 1)).foldl addK (fun _ => none) = addK ((names.take i).foldl addK (fun _ => none)) names[i] by
        rw [List.take_succ_eq_append_getElem hi', List.foldl_append]; rfl)
      have hln : names[i].length ≤ 1000 := by
        have : ∀ s ∈ names, s.length ≤ 1000 := by decide +kernel
        exact this _ (List.getElem_mem hi')
      generalize hx : names[i] = x at hc HT hln
      generalize (names.take i).foldl addK (fun _ => none) = K at HT HD
      have HL := Lib.hid hln
      clear hx hln hi'
      have hi0 : (0 : Int) ≤ (i : Int) := by omega
      unfold nm at hc
      have HTW := Lib.hid fun w => two_one x w
      have HON := Lib.hid fun w => one_one x w
      go_wp2_with fail
      refine (HTW.out _).mono ?_
      rintro e w3 ⟨⟨x1, x2, rfl⟩, k3⟩
      have KW3 := Lib.hid k3
      have K3 := Lib.hid ((Keeps.alloc (fun _ => False) wr _).trans k3)
      clear k3 hc
      have HB := K3.out.size
      have NB := Lib.hid (show ¬ wr.heap.size = w.heap.size by obtain ⟨f, h1, _⟩ := HD.out; have := h1.lt; omega)
      have hb3 : (wr.alloc (.cells #[.string ⟨x.toArray⟩] 9)).heap[wr.heap.size]? = some (.cells #[.string ⟨x.toArray⟩] 9 (0, 0)) := halloc_at wr _
      have h3 := Lib.hid (show w3.heap[wr.heap.size]? = some (.cells #[.string ⟨x.toArray⟩] 9 (0, 0)) from KW3.out.heap hb3 id)
      have D3 := Lib.hid (HD.out.keeps K3.out)
      have hsw := Lib.hid HD.out.size
      clear hb3 HD
      have c3 : w3.cell? ⟨wr.heap.size, 0, none⟩ = some (.string ⟨x.toArray⟩) := cell_of h3.out rfl
      cases h1 : isTwo x with
      | true =>
        have KE := Lib.hid (show addK K x = kput K x (.two x) by unfold addK; rw [if_pos h1])
        have hW := Lib.hid fun (V : World) (k : Keeps (fun _ => False) w3 V) => vm_with V w.heap.size (by have := hsw.out; have := k.size; omega) 2 (.func 320) #[.pointer (some ⟨wr.heap.size, 0, none⟩)]
        clear h1
        go_wp2_with fail
        go_region_held3 (fun w' => w'.cell? ⟨wr.heap.size, 0, none⟩ = some (.string ⟨x.toArray⟩))
          (first | go_keep | exact k4.cell c3 id | exact k5.cell (k4.cell c3 id) NB.out)
          (first
            | (go_at_call 299; refine (hW.out _ (Keeps.drew _ _)).mono ?_; rintro e w4 ⟨v, rfl, gw, k4⟩; dsimp only; obtain ⟨w5, hrun, dk, k5⟩ := dict_run ((D3.out.drew).keeps k4) (by omega) x HL.out v (.two x) ⟨_, gw, ⟨wr.heap.size, _, rfl, hsw.out, k4.heap h3.out id⟩⟩))
        have DK5 := Lib.hid dk
        have K5 := Lib.hid ((HK.out.trans (K3.out.mono (fun _ _ e => e.elim))).trans (((Keeps.drew (fun g => g = w.heap.size) w3).trans (k4.mono (fun _ _ e => e.elim))).trans k5))
        clear dk k5 k4 gw hrun
        go_wp2_with fail
        go_roundw
        case rel => exact ⟨i + 1, n + 1, by go_num, by omega, by omega, by rw [HT.out, KE.out]; exact DK5.out, K5.out⟩
        case measure => simp [intOf]; omega
      | false =>
        have KE := Lib.hid (show addK K x = if isOne x = true then kput K x (.one x) else K by unfold addK; rw [if_neg (by simp [h1])])
        clear h1
        go_wp2_with fail
        refine (HON.out _).mono ?_
        rintro e w4 ⟨⟨x3, rfl⟩, rfl⟩
        cases h2 : isOne x with
        | true =>
          replace KE := Lib.hid (show addK K x = kput K x (.one x) by rw [KE.out, if_pos h2])
          have hW := Lib.hid fun (V : World) (k : Keeps (fun _ => False) w3 V) => vm_with V w.heap.size (by have := hsw.out; have := k.size; omega) 1 (.func 322) #[.pointer (some ⟨wr.heap.size, 0, none⟩)]
          clear h2
          go_wp2_with fail
          go_region_held3 (fun w' => w'.cell? ⟨wr.heap.size, 0, none⟩ = some (.string ⟨x.toArray⟩))
            (first | go_keep | exact k4.cell c3 id | exact k5.cell (k4.cell c3 id) NB.out)
            (first
              | (go_at_call 299; refine (hW.out _ (Keeps.drew _ _)).mono ?_; rintro e w4 ⟨v, rfl, gw, k4⟩; dsimp only; obtain ⟨w5, hrun, dk, k5⟩ := dict_run ((D3.out.drew).keeps k4) (by omega) x HL.out v (.one x) ⟨_, gw, ⟨wr.heap.size, _, rfl, hsw.out, k4.heap h3.out id⟩⟩))
          have DK5 := Lib.hid dk
          have K5 := Lib.hid ((HK.out.trans (K3.out.mono (fun _ _ e => e.elim))).trans (((Keeps.drew (fun g => g = w.heap.size) w3).trans (k4.mono (fun _ _ e => e.elim))).trans k5))
          clear dk k5 k4 gw hrun
          go_wp2_with fail
          go_roundw
          case rel => exact ⟨i + 1, n + 1, by go_num, by omega, by omega, by rw [HT.out, KE.out]; exact DK5.out, K5.out⟩
          case measure => simp [intOf]; omega
        | false =>
          replace KE := Lib.hid (show addK K x = K by rw [KE.out, if_neg (by simp [h2])])
          have K5 := Lib.hid (HK.out.trans (K3.out.mono (fun _ _ e => e.elim)))
          clear h2
          go_wp2_with fail
          go_roundw
          case rel => exact ⟨i + 1, n, by go_num, by omega, by omega, by rw [HT.out, KE.out]; exact D3.out, K5.out⟩
          case measure => simp [intOf]; omega
    · have hge : i = 86 := by omega
      subst hge
      have hT : names.take 86 = names := by rw [← names_len]; exact List.take_length
      rw [hT, ← HR.out] at HD
      clear hT
      go_wp2_with fail
      go_ret
      exact ⟨_, rfl, HD.out.mono hn⟩
end Go.Proofs.Shed
set_option linter.unusedVariables false
set_option linter.unusedSimpArgs false
set_option maxRecDepth 10000
set_option maxHeartbeats 4000000
namespace Go.Proofs.Shed
open Go Go.RowKit Go.Proofs.K

theorem copy_any (w : World) (b1 b2 n1 n2 : Nat) (f1 f2 : List UInt8 → Option Value) (h1 : MapIs sk w b1 n1 f1) (h2 : MapIs sk w b2 n2 f2) (hne : b1 ≠ b2) (hn : n1 + n2 ≤ 1000) :
    Calls Tryz.prog 206 #[.map (some b1), .map (some b2)] w fun e w' => e = .returned (.tuple #[]) ∧ MapIs sk w' b1 (n1 + n2) (over f2 f1) ∧ Keeps (fun g => g = b1) w w' := by
  have H1 := Lib.hid h1
  have H2 := Lib.hid h2
  have hb1 := h1.lt
  clear h1 h2
  go_enter Tryz.func206, Tryz.ntmps206
  go_wp2_with (first
    | (at_range; refine wpList_range sk _ rfl _ 235 rfl _ Tryz.underlying235 b2 n2 f2 rfl H2.out ?_; intro w0 cnt0 hrg0 hk0)
    | go_in)
  go_frame
  have HR0 := Lib.hid hrg0
  have HK0 := Lib.hid hk0
  clear hrg0 hk0
  go_loopw [8] (fun _ wr => ∃ (left : List UInt8 → Bool) (cnt m : Nat), MapRun sk wr b2 w.heap.size n2 f2 left cnt ∧ m + cnt ≤ n1 + n2 ∧ MapIs sk wr b1 m (blend f2 f1 left) ∧ Keeps (fun g => g = b1) w wr) (fun _ wr => wr.rangeLeft b2 w.heap.size)
  case atStart =>
    refine ⟨_, cnt0, n1, HR0.out, by have := HR0.out.cnt_le; omega, ?_, HK0.out.mono (fun _ _ e => e.elim)⟩
    rw [blend_start]
    exact H1.out.keeps HK0.out id
  case round =>
    obtain ⟨left, cnt, m, hrg, hm, hd, hk⟩ := hrel
    have HR := Lib.hid hrg
    have HD := Lib.hid hd
    have HK := Lib.hid hk
    clear hrg hd hk
    go_wp2_with (first
      | (at_next; refine wpList_mstep sk _ rfl _ rfl b2 w.heap.size n2 f2 left cnt rfl HR.out ?_ ?_)
      | go_in)
    · intro hl
      have HL := Lib.hid hl
      clear hl
      go_wp2_with fail
      go_end0
      exact ⟨rfl, (HD.out.mono (by omega)).congr (fun x hx => blend_end _ _ _ _ (HL.out x hx)), HK.out⟩
    · intro x v w1 cnt1 hok hlx hfx hrg1 hlt hg1 hen
      have hr := HR.out.lts
      have HR1 := Lib.hid hrg1
      have HD1 := Lib.hid (HD.out.keeps hg1 (fun e => by have e : b1 = w.heap.size := e; omega))
      have HK1 := Lib.hid (HK.out.trans' hg1 (fun i hi e => by have e : i = w.heap.size := e; omega))
      have HF := Lib.hid hfx
      have HO := Lib.hid hok
      change (Instr.entry (.pointer (some ⟨w.heap.size, 0, none⟩))).run Tryz.prog w1 = .ok (.tuple #[.string ⟨x.toArray⟩, v]) w1 at hen
      rw [show sk.val x = Value.string ⟨x.toArray⟩ from rfl]
      clear hrg1 hg1 hfx hok hlx
      go_wp2_with (first
        | (at_mapUpdate; refine wpList_put sk _ rfl _ _ _ 235 (.inl rfl) _ Tryz.underlying235 b1 m _ rfl HD1.out (by unfold maxLen; omega) x HO.out v rfl rfl ?_; intro w2 hd2 hk2; go_frame)
        | go_in)
      have HR2 := Lib.hid (HR1.out.keeps hk2 (fun e => hne (by have e : b2 = b1 := e; exact e.symm)) (fun e => by have e : w.heap.size = b1 := e; omega))
      have HK2 := Lib.hid (HK1.out.trans hk2)
      rw [blend_step _ _ _ _ _ HF.out] at hd2
      have HD2 := Lib.hid hd2
      clear hd2 hk2
      go_roundw
      case rel => exact ⟨_, cnt1, m + 1, HR2.out, by omega, HD2.out, HK2.out⟩
      case measure => rw [HR2.out.left_eq, HR.out.left_eq]; exact hlt
theorem Dict.rebase {w0 w1 w : World} {b n : Nat} {K : List UInt8 → Option Pk} (h : Dict w1 w b n K) (k : Keeps (fun _ => False) w0 w1) : Dict w0 w b n K := by
  obtain ⟨f, h1, h2, h3, h4⟩ := h
  exact ⟨f, h1, h2.mono (fun g _ hg => Nat.le_trans k.size hg), Nat.le_trans k.size h3, k.trans h4⟩
theorem Dict.noRow {w0 w : World} {b n : Nat} {K : List UInt8 → Option Pk} (h : Dict w0 w b n K) : NoRow w b := by
  obtain ⟨f, h1, _⟩ := h
  exact MapIs.noRow h1
theorem Dict.keepsB {w0 w w' : World} {b n b0 : Nat} {K : List UInt8 → Option Pk} (h : Dict w0 w b n K) (k : Keeps (fun g => g = b0) w w') (hne : b ≠ b0) (hr : NoRow w b0) (hb : w0.heap.size ≤ b0) : Dict w0 w' b n K := by
  obtain ⟨f, h1, h2, h3, h4⟩ := h
  exact ⟨f, h1.keeps k hne, h2.keeps (KeepX.of k (fun g _ e => by have e : g = b0 := e; rw [e]; exact hr)), h3, h4.trans' k (fun i hi e => by have e : i = b0 := e; omega)⟩
def kover (K2 K1 : List UInt8 → Option Pk) : List UInt8 → Option Pk := fun s => match K2 s with | some k => some k | none => K1 s
theorem Goods.over {X : Nat → Prop} {w : World} {K1 K2 : List UInt8 → Option Pk} {f1 f2 : List UInt8 → Option Value} (h1 : Goods X w K1 f1) (h2 : Goods X w K2 f2) : Goods X w (kover K2 K1) (over f2 f1) := by
  intro s
  have a1 := h1 s
  have a2 := h2 s
  unfold kover K.over
  cases hk : K2 s with
  | none =>
    rw [hk] at a2
    simp only at a2
    rw [a2]
    exact a1
  | some kd =>
    rw [hk] at a2
    simp only at a2
    obtain ⟨v, h3, h4⟩ := a2
    rw [h3]
    exact ⟨v, rfl, h4⟩
theorem copy_dict (w0 w : World) (b1 b2 n1 n2 : Nat) (K1 K2 : List UInt8 → Option Pk) (h1 : Dict w0 w b1 n1 K1) (h2 : Dict w0 w b2 n2 K2) (hne : b1 ≠ b2) (hn : n1 + n2 ≤ 1000) :
    Calls Tryz.prog 206 #[.map (some b1), .map (some b2)] w fun e w' => e = .returned (.tuple #[]) ∧ Dict w0 w' b1 (n1 + n2) (kover K2 K1) ∧ Keeps (fun g => g = b1) w w' := by
  have hr := h1.noRow
  obtain ⟨f1, m1, g1, l1, k1⟩ := h1
  obtain ⟨f2, m2, g2, l2, k2⟩ := h2
  refine (copy_any w b1 b2 n1 n2 f1 f2 m1 m2 hne hn).mono ?_
  rintro e w' ⟨rfl, h, k⟩
  have kx := KeepX.of (X := fun g => w0.heap.size ≤ g) k (fun g _ e => by have e : g = b1 := e; rw [e]; exact hr)
  exact ⟨rfl, ⟨_, h, (g1.keeps kx).over (g2.keeps kx), l1, k1.trans' k (fun i hi e => by have e : i = b1 := e; omega)⟩, k⟩
end Go.Proofs.Shed
set_option linter.unusedVariables false
set_option linter.unusedSimpArgs false
set_option maxRecDepth 10000
set_option maxHeartbeats 4000000
namespace Go.Proofs.Shed
open Go Go.RowKit Go.Proofs.K

def K_all : List UInt8 → Option Pk := kover K_objects (kover K_catching (kover K_telling (kover K_storing (kover K_reckoning (kover K_moving (kover K_flows (fun _ => none)))))))
/-- Maps that stand beside another one. -/
def Srcs (w0 w : World) (b0 : Nat) (l : List (Nat × Nat × (List UInt8 → Option Pk))) : Prop := ∀ p ∈ l, Dict w0 w p.1 p.2.1 p.2.2 ∧ p.1 ≠ b0
theorem Srcs.nil (w0 w : World) (b0 : Nat) : Srcs w0 w b0 [] := fun p h => by cases h
theorem Srcs.keeps {w0 w w' : World} {b0 n0 : Nat} {K0 : List UInt8 → Option Pk} {l : List (Nat × Nat × (List UInt8 → Option Pk))} (h : Srcs w0 w b0 l) (d : Dict w0 w b0 n0 K0) (k : Keeps (fun g => g = b0) w w') : Srcs w0 w' b0 l := fun p hp => ⟨(h p hp).1.keepsB k (h p hp).2 d.noRow d.ge, (h p hp).2⟩
theorem Srcs.cons {w0 w w' : World} {b0 n0 b n : Nat} {K0 K : List UInt8 → Option Pk} {l : List (Nat × Nat × (List UInt8 → Option Pk))} (h : Srcs w0 w b0 l) (d : Dict w0 w b0 n0 K0) (k0 : Keeps (fun _ => False) w0 w) (x : Dict w w' b n K) (kk : Keeps (fun _ => False) w w') : Srcs w0 w' b0 ((b, n, K) :: l) := by
  intro p hp
  rcases List.mem_cons.1 hp with rfl | hp
  · refine ⟨x.rebase k0, fun e => ?_⟩
    have := x.ge
    obtain ⟨f, h1, _⟩ := d
    have := h1.lt
    have e : b = b0 := e
    omega
  · exact ⟨(h p hp).1.keeps kk, (h p hp).2⟩
theorem Dict.kp {w0 w : World} {b n : Nat} {K : List UInt8 → Option Pk} (h : Dict w0 w b n K) : Keeps (fun _ => False) w0 w := by
  obtain ⟨f, h1, h2, h3, h4⟩ := h
  exact h4


theorem vm_primitives (w : World) : Calls Tryz.prog 120 #[] w (DictPost w 500 K_all) := by
  have hmm := @run_makeMap Tryz.prog
  have DK := Lib.hid (Dict.made w)
  have SS := Lib.hid (Srcs.nil w (w.alloc (.map #[] 0)) w.heap.size)
  have HF := Lib.hid vm_flows
  have HM := Lib.hid vm_moving
  have HR := Lib.hid vm_reckoning
  have HS' := Lib.hid vm_storing
  have HT := Lib.hid vm_telling
  have HC := Lib.hid vm_catching
  have HO := Lib.hid vm_objects
  go_enter Tryz.func120, Tryz.ntmps120
  go_wp2_with fail
  refine (HF.out _).mono ?_
  rintro e w1 ⟨bf, rfl, d1⟩
  replace SS := Lib.hid (SS.out.cons DK.out DK.out.kp d1 d1.kp)
  replace DK := Lib.hid (DK.out.keeps d1.kp)
  clear d1
  go_wp2_with fail
  refine (HM.out _).mono ?_
  rintro e w1 ⟨bm, rfl, d1⟩
  replace SS := Lib.hid (SS.out.cons DK.out DK.out.kp d1 d1.kp)
  replace DK := Lib.hid (DK.out.keeps d1.kp)
  clear d1
  go_wp2_with fail
  refine (HR.out _).mono ?_
  rintro e w1 ⟨br, rfl, d1⟩
  replace SS := Lib.hid (SS.out.cons DK.out DK.out.kp d1 d1.kp)
  replace DK := Lib.hid (DK.out.keeps d1.kp)
  clear d1
  go_wp2_with fail
  refine (HS'.out _).mono ?_
  rintro e w1 ⟨bs, rfl, d1⟩
  replace SS := Lib.hid (SS.out.cons DK.out DK.out.kp d1 d1.kp)
  replace DK := Lib.hid (DK.out.keeps d1.kp)
  clear d1
  go_wp2_with fail
  refine (HT.out _).mono ?_
  rintro e w1 ⟨bt, rfl, d1⟩
  replace SS := Lib.hid (SS.out.cons DK.out DK.out.kp d1 d1.kp)
  replace DK := Lib.hid (DK.out.keeps d1.kp)
  clear d1
  go_wp2_with fail
  refine (HC.out _).mono ?_
  rintro e w1 ⟨bc, rfl, d1⟩
  replace SS := Lib.hid (SS.out.cons DK.out DK.out.kp d1 d1.kp)
  replace DK := Lib.hid (DK.out.keeps d1.kp)
  clear d1
  go_wp2_with fail
  refine (HO.out _).mono ?_
  rintro e w1 ⟨bo, rfl, d1⟩
  replace SS := Lib.hid (SS.out.cons DK.out DK.out.kp d1 d1.kp)
  replace DK := Lib.hid (DK.out.keeps d1.kp)
  clear d1
  go_wp2_with fail
  have HS := Lib.hid (halloc_at w1 (.cells #[.map (some bf), .map (some bm), .map (some br), .map (some bs), .map (some bt), .map (some bc), .map (some bo)] 235))
  have NB := Lib.hid (show ¬ w1.heap.size = w.heap.size by obtain ⟨f, h1, _⟩ := DK.out; have := h1.lt; omega)
  replace DK := Lib.hid (DK.out.keeps (Keeps.alloc (fun _ => False) w1 (.cells #[.map (some bf), .map (some bm), .map (some br), .map (some bs), .map (some bt), .map (some bc), .map (some bo)] 235)))
  replace SS := Lib.hid (show Srcs _ _ _ _ from fun p hp => ⟨(SS.out p hp).1.keeps (Keeps.alloc (fun _ => False) w1 (.cells #[.map (some bf), .map (some bm), .map (some br), .map (some bs), .map (some bt), .map (some bc), .map (some bo)] 235)), (SS.out p hp).2⟩)
  generalize hg : w1.heap.size = g at HS NB ⊢
  generalize w1.alloc (.cells #[.map (some bf), .map (some bm), .map (some br), .map (some bs), .map (some bt), .map (some bc), .map (some bo)] 235) = w2 at HS DK SS ⊢
  clear hg
  refine wp_loop_rounds 8 ?_
  rw [rounds_succ]
  have HC0 := cell_of (i := 0) HS.out rfl
  go_wp2_with fail
  clear HC0
  refine (copy_dict w _ _ _ _ _ _ _ DK.out (SS.out (bf, 12, K_flows) (by simp)).1 (fun e => (SS.out (bf, 12, K_flows) (by simp)).2 e.symm) (by dsimp only; decide)).mono ?_
  rintro e w1 ⟨rfl, d1, k1⟩
  replace SS := Lib.hid (SS.out.keeps DK.out k1)
  replace HS := Lib.hid (k1.heap HS.out NB.out)
  replace DK := Lib.hid d1
  clear d1 k1
  go_wp2_with fail
  rw [rounds_succ]
  have HC0 := cell_of (i := 1) HS.out rfl
  go_wp2_with fail
  clear HC0
  refine (copy_dict w _ _ _ _ _ _ _ DK.out (SS.out (bm, 13, K_moving) (by simp)).1 (fun e => (SS.out (bm, 13, K_moving) (by simp)).2 e.symm) (by dsimp only; decide)).mono ?_
  rintro e w1 ⟨rfl, d1, k1⟩
  replace SS := Lib.hid (SS.out.keeps DK.out k1)
  replace HS := Lib.hid (k1.heap HS.out NB.out)
  replace DK := Lib.hid d1
  clear d1 k1
  go_wp2_with fail
  rw [rounds_succ]
  have HC0 := cell_of (i := 2) HS.out rfl
  go_wp2_with fail
  clear HC0
  refine (copy_dict w _ _ _ _ _ _ _ DK.out (SS.out (br, 86, K_reckoning) (by simp)).1 (fun e => (SS.out (br, 86, K_reckoning) (by simp)).2 e.symm) (by dsimp only; decide)).mono ?_
  rintro e w1 ⟨rfl, d1, k1⟩
  replace SS := Lib.hid (SS.out.keeps DK.out k1)
  replace HS := Lib.hid (k1.heap HS.out NB.out)
  replace DK := Lib.hid d1
  clear d1 k1
  go_wp2_with fail
  rw [rounds_succ]
  have HC0 := cell_of (i := 3) HS.out rfl
  go_wp2_with fail
  clear HC0
  refine (copy_dict w _ _ _ _ _ _ _ DK.out (SS.out (bs, 13, K_storing) (by simp)).1 (fun e => (SS.out (bs, 13, K_storing) (by simp)).2 e.symm) (by dsimp only; decide)).mono ?_
  rintro e w1 ⟨rfl, d1, k1⟩
  replace SS := Lib.hid (SS.out.keeps DK.out k1)
  replace HS := Lib.hid (k1.heap HS.out NB.out)
  replace DK := Lib.hid d1
  clear d1 k1
  go_wp2_with fail
  rw [rounds_succ]
  have HC0 := cell_of (i := 4) HS.out rfl
  go_wp2_with fail
  clear HC0
  refine (copy_dict w _ _ _ _ _ _ _ DK.out (SS.out (bt, 7, K_telling) (by simp)).1 (fun e => (SS.out (bt, 7, K_telling) (by simp)).2 e.symm) (by dsimp only; decide)).mono ?_
  rintro e w1 ⟨rfl, d1, k1⟩
  replace SS := Lib.hid (SS.out.keeps DK.out k1)
  replace HS := Lib.hid (k1.heap HS.out NB.out)
  replace DK := Lib.hid d1
  clear d1 k1
  go_wp2_with fail
  rw [rounds_succ]
  have HC0 := cell_of (i := 5) HS.out rfl
  go_wp2_with fail
  clear HC0
  refine (copy_dict w _ _ _ _ _ _ _ DK.out (SS.out (bc, 4, K_catching) (by simp)).1 (fun e => (SS.out (bc, 4, K_catching) (by simp)).2 e.symm) (by dsimp only; decide)).mono ?_
  rintro e w1 ⟨rfl, d1, k1⟩
  replace SS := Lib.hid (SS.out.keeps DK.out k1)
  replace HS := Lib.hid (k1.heap HS.out NB.out)
  replace DK := Lib.hid d1
  clear d1 k1
  go_wp2_with fail
  rw [rounds_succ]
  have HC0 := cell_of (i := 6) HS.out rfl
  go_wp2_with fail
  clear HC0
  refine (copy_dict w _ _ _ _ _ _ _ DK.out (SS.out (bo, 7, K_objects) (by simp)).1 (fun e => (SS.out (bo, 7, K_objects) (by simp)).2 e.symm) (by dsimp only; decide)).mono ?_
  rintro e w1 ⟨rfl, d1, k1⟩
  replace SS := Lib.hid (SS.out.keeps DK.out k1)
  replace HS := Lib.hid (k1.heap HS.out NB.out)
  replace DK := Lib.hid d1
  clear d1 k1
  go_wp2_with fail
  rw [rounds_succ]
  go_wp2_with fail
  go_ret
  exact ⟨_, rfl, DK.out.mono (by decide)⟩
end Go.Proofs.Shed
set_option linter.unusedVariables false
set_option linter.unusedSimpArgs false
set_option maxRecDepth 10000
namespace Go.Proofs.Shed
open Go Go.RowKit Go.Proofs.K Go.Proofs.Cod Go.Proofs.Ari

theorem place_get (v : List UInt8) (l : List (List UInt8)) (h : v ∈ l) : ∃ h : place v l < l.length, l[place v l] = v := by
  induction l with
  | nil => cases h
  | cons x l ih =>
    by_cases e : v = x
    · have hp : place v (x :: l) = 0 := by rw [place, if_pos e]
      exact ⟨by rw [hp]; simp, by simp only [hp]; simp [e]⟩
    · obtain ⟨h1, h2⟩ := ih (by rcases List.mem_cons.1 h with h | h; exact absurd h e; exact h)
      have hp : place v (x :: l) = place v l + 1 := by rw [place, if_neg e]
      exact ⟨by rw [hp]; simp; omega, by simp only [hp]; simpa using h2⟩
theorem num_inj {s t : List UInt8} (hs : s ∈ names) (ht : t ∈ names) (h : num s = num t) : s = t := by
  obtain ⟨h1, e1⟩ := place_get s names hs
  obtain ⟨h2, e2⟩ := place_get t names ht
  unfold num idx at h
  rw [if_pos h1, if_pos h2] at h
  have : place s names = place t names := by omega
  rw [← e1, ← e2]
  congr 1
def Kin (K : List UInt8 → Option Pk) : Prop := ∀ s, K s ≠ none → s ∈ names
theorem Kin.none : Kin (fun _ => none) := fun _ h => absurd rfl h
theorem Kin.put {K : List UInt8 → Option Pk} (h : Kin K) {x : List UInt8} (hx : x ∈ names) (kd : Pk) : Kin (kput K x kd) := by
  intro s hs
  unfold kput at hs
  by_cases e : s = x
  · rw [e]; exact hx
  · rw [if_neg e] at hs; exact h s hs
theorem Kin.over {K1 K2 : List UInt8 → Option Pk} (h2 : Kin K2) (h1 : Kin K1) : Kin (kover K2 K1) := by
  intro s hs
  unfold kover at hs
  cases e : K2 s with
  | none => rw [e] at hs; exact h1 s hs
  | some k => exact h2 s (by rw [e]; simp)
theorem Kin.add {K : List UInt8 → Option Pk} (h : Kin K) {x : List UInt8} (hx : x ∈ names) : Kin (addK K x) := by
  unfold addK
  split
  · exact h.put hx _
  · split
    · exact h.put hx _
    · exact h
theorem Kin.fold {K : List UInt8 → Option Pk} (h : Kin K) (l : List (List UInt8)) (hl : ∀ x ∈ l, x ∈ names) : Kin (l.foldl addK K) := by
  induction l generalizing K with
  | nil => exact h
  | cons x l ih => exact ih (h.add (hl x (by simp))) (fun y hy => hl y (by simp [hy]))
theorem kin_all : Kin K_all := by
  unfold K_all
  refine Kin.over ?_ (Kin.over ?_ (Kin.over ?_ (Kin.over ?_ (Kin.over ?_ (Kin.over ?_ (Kin.over ?_ Kin.none))))))
  · unfold K_objects; repeat (first | exact Kin.none | refine Kin.put ?_ (by decide +kernel) _)
  · unfold K_catching; repeat (first | exact Kin.none | refine Kin.put ?_ (by decide +kernel) _)
  · unfold K_telling; repeat (first | exact Kin.none | refine Kin.put ?_ (by decide +kernel) _)
  · unfold K_storing; repeat (first | exact Kin.none | refine Kin.put ?_ (by decide +kernel) _)
  · exact Kin.none.fold _ (fun _ h => h)
  · unfold K_moving; repeat (first | exact Kin.none | refine Kin.put ?_ (by decide +kernel) _)
  · unfold K_flows; repeat (first | exact Kin.none | refine Kin.put ?_ (by decide +kernel) _)

/-- Numbers as keys. -/
theorem ik_keyed : Go.Maps.Keyed Tryz.prog 2 := Go.Maps.int_keyed Tryz.underlying2
theorem ik_reads (n : Int) (hn : (Lit.int .i64 n).wf = true) : keyOf Tryz.prog 2 (.int .i64 n) = some (.int .i64 n) := (intKey Tryz.underlying2).reads n hn
theorem ik_inv (v : Value) (kl : Lit) (h : keyOf Tryz.prog 2 v = some kl) : ∃ n : Int, (Lit.int .i64 n).wf = true ∧ v = .int .i64 n ∧ kl = .int .i64 n := (intKey Tryz.underlying2).inv v kl h
def ik : Key Tryz.prog 2 Int where
  val n := .int .i64 n
  lit n := .int .i64 n
  ok n := (Lit.int .i64 n).wf = true
  kd := ik_keyed
  reads := ik_reads
  inv := ik_inv
  inj x y h := by injection h
  isk x := trivial
/-- The primitives' closures, by their numbers. -/
def Does (X : Nat → Prop) (w : World) (pb : Nat) : Prop := ∃ n g, n ≤ 500 ∧ MapIs ik w pb n g ∧ ∀ s kd, K_all s = some kd → ∃ v, g (num s) = some v ∧ Good X w kd v
theorem Does.keeps {X S : Nat → Prop} {w w' : World} {pb : Nat} (h : Does X w pb) (k : Keeps S w w') (h0 : ¬ S pb) (hx : ∀ g, X g → ¬ S g) : Does X w' pb := by
  obtain ⟨n, g, hn, h1, h2⟩ := h
  refine ⟨n, g, hn, h1.keeps k h0, fun s kd hs => ?_⟩
  obtain ⟨v, h3, h4⟩ := h2 s kd hs
  exact ⟨v, h3, h4.keeps (fun g cs t f hg hb => k.heap hb (hx g hg))⟩
end Go.Proofs.Shed
