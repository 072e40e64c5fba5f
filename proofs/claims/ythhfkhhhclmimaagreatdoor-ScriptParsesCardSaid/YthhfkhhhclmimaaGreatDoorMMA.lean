/- Layer 14: Names, Number, Name, Inline, Inner. No condition. What layer 15's beginning comes to: the machine's own words. No program in sight. Layer 15: a machine's primitives. Conditions: there is room for all. -/
import Derived.Test.YthhfkhhhclmimaaGreatDoorMWA
import Derived.Test.YthhfkhhhclmimaaGreatDoorMPA
import Derived.Test.YthhfkhhhclmimaaGreatDoorMMacS
import Derived.Test.YthhfkhhhclmimaaGreatDoorProg
set_option linter.unusedVariables false
set_option linter.unusedSimpArgs false
set_option maxRecDepth 10000
namespace Go.Proofs.Cod
open Go Go.RowKit Go.Proofs.K
def nm (l : List UInt8) : Value := .string ⟨l.toArray⟩
/-- The primitives' names, as bytes. -/
def names : List (List UInt8) := [[101, 120, 105, 116], [108, 105, 116], [98, 114, 97, 110, 99, 104], [48, 98, 114, 97, 110, 99, 104], [40, 100, 111, 41], [40, 108, 111, 111, 112, 41], [40, 43, 108, 111, 111, 112, 41], [105], [106], [117, 110, 108, 111, 111, 112], [100, 117, 112], [100, 114, 111, 112], [115, 119, 97, 112], [111, 118, 101, 114], [114, 111, 116], [110, 105, 112], [116, 117, 99, 107], [63, 100, 117, 112], [112, 105, 99, 107], [100, 101, 112, 116, 104], [62, 114], [114, 62], [114, 64], [43], [45], [42], [47], [109, 111, 100], [97, 110, 100], [111, 114], [120, 111, 114], [108, 115, 104, 105, 102, 116], [114, 115, 104, 105, 102, 116], [61], [60, 62], [60], [62], [117, 60], [109, 105, 110], [109, 97, 120], [110, 101, 103, 97, 116, 101], [105, 110, 118, 101, 114, 116], [97, 98, 115], [48, 61], [48, 60], [49, 43], [99, 104, 97, 114, 43], [49, 45], [50, 42], [50, 47], [99, 101, 108, 108, 115], [99, 101, 108, 108, 43], [97, 108, 105, 103, 110, 101, 100], [64], [33], [99, 64], [99, 33], [43, 33], [104, 101, 114, 101], [97, 108, 108, 111, 116], [44], [99, 44], [97, 108, 105, 103, 110], [101, 109, 105, 116], [99, 114], [115, 112, 97, 99, 101], [116, 121, 112, 101], [46], [117, 46], [107, 101, 121], [101, 120, 101, 99, 117, 116, 101], [99, 97, 116, 99, 104], [116, 104, 114, 111, 119], [40, 99, 97, 117, 103, 104, 116, 41], [97, 98, 111, 114, 116], [97, 108, 108, 111, 99, 97, 116, 101], [102, 114, 101, 101], [114, 101, 115, 105, 122, 101], [115, 101, 108, 102], [110, 101, 119], [99, 108, 97, 115, 115, 111, 102], [40, 115, 101, 110, 100, 41], [40, 99, 97, 108, 108, 41], [40, 115, 117, 112, 101, 114, 41], [40, 101, 120, 105, 116, 109, 41], [98, 121, 101]]
theorem names_len : names.length = 86 := by decide +kernel
theorem run_names (a : Act) (w : World) : (execOp a.eval (match Tryz.f208.body with
  | some (.seq _ (.seq (.region _ ops _) _)) => ops[0]!
  | _ => default)).run Tryz.prog w = .ok (.value (.slice (some ⟨w.heap.size, 0, none⟩) 86 86)) (w.alloc (.cells (names.map nm).toArray 9)) := by kernel_rfl

theorem names_any (w : World) : Calls Tryz.prog 208 #[] w fun e w' => e = .returned (.slice (some ⟨w.heap.size, 0, none⟩) 86 86) ∧ w.alloc (.cells (names.map nm).toArray 9) = w' := by
  go_enter Tryz.func208, Tryz.ntmps208
  go_wp2_with (with_reducible refine wpList_run rfl _ _ (run_names _ _) ?_)
  go_ret
  exact ⟨rfl, rfl⟩
theorem info9 : (Tryz.prog.info? 9).map (fun i => (i.zero, i.size, i.bytes)) = some (some (.string ⟨#[]⟩), 1, 16) := by kernel_rfl

/-- The place of a name in a list; its length, if it isn't there. -/
def place (v : List UInt8) : List (List UInt8) → Nat
  | [] => 0
  | x :: l => if v = x then 0 else place v l + 1
theorem place_le (v : List UInt8) (l : List (List UInt8)) : place v l ≤ l.length := by
  induction l with
  | nil => exact Nat.le_refl _
  | cons x l ih =>
    rw [place]
    split
    · simp
    · simp; omega
def idx (v : List UInt8) (l : List (List UInt8)) : Int := if place v l < l.length then place v l else -1

theorem place_hit {v : List UInt8} {l : List (List UInt8)} {k : Nat} (hk : k < l.length) (hno : ∀ j, j < k → (h : j < l.length) → v ≠ l[j]) (e : v = l[k]) : place v l = k := by
  induction l generalizing k with
  | nil => simp at hk
  | cons x l ih =>
    rw [place]
    cases k with
    | zero => rw [if_pos (show v = x from e)]
    | succ k =>
      rw [if_neg (show v ≠ x from hno 0 (by omega) (by simp)), ih (k := k) (by simpa using hk) (fun j hj h => hno (j + 1) (by omega) (by simpa using h)) (by simpa using e)]
theorem place_miss {v : List UInt8} {l : List (List UInt8)} (hno : ∀ j, (h : j < l.length) → v ≠ l[j]) : place v l = l.length := by
  induction l with
  | nil => rfl
  | cons x l ih =>
    rw [place, if_neg (show v ≠ x from hno 0 (by simp)), ih (fun j h => hno (j + 1) (by simpa using h))]
    rfl
theorem idx_hit {v : List UInt8} {l : List (List UInt8)} {k : Nat} (hk : k < l.length) (hno : ∀ j, j < k → (h : j < l.length) → v ≠ l[j]) (e : v = l[k]) : (k : Int) = idx v l := by
  rw [idx, place_hit hk hno e, if_pos hk]
theorem idx_miss {v : List UInt8} {l : List (List UInt8)} (hno : ∀ j, (h : j < l.length) → v ≠ l[j]) : (-1 : Int) = idx v l := by
  rw [idx, place_miss hno, if_neg (by omega)]
theorem ret_idx {a b : Int} (h : a = b) : Ending.returned (.int .i64 a) = .returned (.int .i64 b) := by rw [h]
theorem own_str {w : World} {a : Option Addr} {n c : Nat} {ss : List (List UInt8)} (h : Own w 9 1 a n c (ss.map nm)) (i : Nat) (hi : i < ss.length) :
    ∃ g, a = some ⟨g, 0, none⟩ ∧ w.cell? ⟨g, i, none⟩ = some (nm ss[i]) := by
  have hn : n = ss.length := by have := h.1; simp at this; omega
  obtain ⟨g, rfl⟩ : ∃ g, a = some ⟨g, 0, none⟩ := by
    rcases h.form with ⟨_, h, _⟩ | ⟨g, _, h, _⟩
    · omega
    · exact ⟨_, h⟩
  exact ⟨g, rfl, h.cell (by simp [hi])⟩

set_option maxRecDepth 10000 in
theorem index_any (a : Option Addr) (n c : Nat) (ss : List (List UInt8)) (v : List UInt8) (w : World) (h : Own w 9 1 a n c (ss.map nm)) (hn : n = ss.length) (hl : n ≤ 100000) :
    Calls Tryz.prog 207 #[.slice a n c, .string ⟨v.toArray⟩] w fun e w' => e = .returned (.int .i64 (idx v ss)) ∧ w = w' := by
  go_enter Tryz.func207, Tryz.ntmps207
  go_wp2
  go_loop [8] (fun i => ∃ k : Nat, k ≤ ss.length ∧ i = .int .i64 k ∧ ∀ j, j < k → (h : j < ss.length) → v ≠ ss[j]) (fun i => ss.length - (intOf i).toNat)
  case atStart => exact ⟨0, Nat.zero_le _, rfl, fun j hj => by omega⟩
  case round =>
    obtain ⟨k, hk, rfl, hno⟩ := hrel
    by_cases hlt : k < ss.length
    · obtain ⟨g, rfl, hc⟩ := own_str h k hlt
      have b1 : (k : Int) < n := by omega
      have b2 : (0 : Int) ≤ k := by omega
      have HN := Lib.hid hno
      have Hn := Lib.hid hn
      clear hno hn
      generalize hx : ss[k] = x at hc
      unfold nm at hc
      have HX := Lib.hid hx
      clear hx
      go_wp2
      · have e : v = ss[k] := by
          have : (v == x) = true := by assumption
          rw [HX.out]; simpa using this
        go_ret
        exact ⟨ret_idx (idx_hit hlt HN.out e), rfl⟩
      · have e : v ≠ ss[k] := by
          have : (v == x) = false := by assumption
          rw [HX.out]; simpa using this
        go_round
        case rel =>
          refine ⟨k + 1, by omega, by go_num, fun j hj hjl => ?_⟩
          by_cases hjk : j = k
          · subst hjk; exact e
          · exact HN.out j (by omega) hjl
        case measure => simp [intOf]; omega
    · have b1 : (n : Int) ≤ k := by omega
      have HN := Lib.hid hno
      have Hn := Lib.hid hn
      clear hno hn
      go_wp2
      go_ret
      exact ⟨ret_idx (idx_miss (fun j h => HN.out j (by omega) h)), rfl⟩

set_option maxRecDepth 10000 in
theorem contains_any (a : Option Addr) (n c : Nat) (ss : List (List UInt8)) (v : List UInt8) (w : World) (h : Own w 9 1 a n c (ss.map nm)) (hn : n = ss.length) (hl : n ≤ 100000) :
    Calls Tryz.prog 419 #[.slice a n c, .string ⟨v.toArray⟩] w fun e w' => e = .returned (.bool (decide (0 ≤ idx v ss))) ∧ w = w' := by
  have HN := Lib.hid hn
  clear hn
  go_enter Tryz.func419, Tryz.ntmps419
  go_wp2_with fail
  refine (index_any a n c ss v w h HN.out hl).mono ?_
  rintro e w1 ⟨rfl, rfl⟩
  go_wp2
  go_ret
  exact ⟨rfl, rfl⟩

theorem own_names (w : World) : Own (w.alloc (.cells (names.map nm).toArray 9)) 9 1 (some ⟨w.heap.size, 0, none⟩) 86 86 (names.map nm) := by
  refine ⟨by decide +kernel, .inr ⟨w.heap.size, 86, _, rfl, Nat.zero_le _, halloc_at _ _, Nat.le_refl _, by decide, by decide +kernel, ?_⟩⟩
  have : (names.map nm).length = 86 * 1 := by decide +kernel
  show (names.map nm).take (86 * 1) = names.map nm
  rw [← this]
  exact List.take_length

theorem idx_bd (v : List UInt8) (l : List (List UInt8)) (n : Nat) (hn : l.length = n) : -1 ≤ idx v l ∧ idx v l < n := by
  unfold idx
  split <;> omega

/-- A name's number. -/
def num (v : List UInt8) : Int := idx v names + 1

set_option maxRecDepth 10000 in
theorem number_any (v : List UInt8) (w : World) : Calls Tryz.prog 121 #[.string ⟨v.toArray⟩] w fun e w' => e = .returned (.int .i64 (num v)) ∧ Keeps (fun _ => False) w w' := by
  have hb := idx_bd v names 86 names_len
  have HF := Lib.hid (show num v = idx v names + 1 from rfl)
  generalize num v = r at HF ⊢
  have hi := fun w => index_any (some ⟨w.heap.size, 0, none⟩) 86 86 names v _ (own_names w) names_len.symm (by omega)
  generalize idx v names = q at hi hb HF
  have HI := Lib.hid hi
  clear hi
  go_enter Tryz.func121, Tryz.ntmps121
  go_wp2_with fail
  refine (names_any _).mono ?_
  rintro e w1 ⟨rfl, rfl⟩
  go_wp2_with fail
  refine (HI.out _).mono ?_
  rintro e w1 ⟨rfl, rfl⟩
  go_wp2
  go_ret
  exact ⟨ret_idx HF.out.symm, Keeps.alloc _ _ _⟩
/-- A number's name. -/
def nameOf (n : Int) : List UInt8 := if 1 ≤ n ∧ n ≤ 86 then names.getD (n - 1).toNat [] else []

set_option maxRecDepth 10000 in
theorem name_any (n : Int) (w : World) : Calls Tryz.prog 375 #[.int .i64 n] w fun e w' => e = .returned (nm (nameOf n)) ∧ Keeps (fun _ => False) w w' := by
  by_cases h : 1 ≤ n ∧ n ≤ 86
  · have HN : Hid (nameOf n = names.getD (n - 1).toNat []) := by unfold nameOf; rw [if_pos h]; exact rfl
    obtain ⟨h1, h2⟩ := h
    generalize nameOf n = r at HN ⊢
    obtain ⟨k, rfl⟩ : ∃ k : Nat, n = k + 1 := ⟨(n - 1).toNat, by omega⟩
    have hk : k < names.length := by rw [names_len]; omega
    obtain ⟨g, hg, hc⟩ := own_str (own_names w) k hk
    cases hg
    have hr : names[k] = r := by
      rw [HN.out, show ((k : Int) + 1 - 1).toNat = k by omega, List.getD_eq_getElem?_getD, List.getElem?_eq_getElem hk]
      rfl
    rw [hr] at hc
    have HR := Lib.hid hr
    clear hr HN
    unfold nm at hc
    go_enter Tryz.func375, Tryz.ntmps375
    go_wp2_with fail
    refine (names_any _).mono ?_
    rintro e w1 ⟨rfl, rfl⟩
    go_wp2
    go_ret
    refine ⟨?_, Keeps.alloc _ _ _⟩
    show Ending.returned (nm names[k]) = _
    rw [HR.out]
  · have HN : Hid (nameOf n = []) := by unfold nameOf; rw [if_neg h]; exact rfl
    rw [HN.out]
    have h : n < 1 ∨ (1 ≤ n ∧ 86 < n) := by omega
    rcases h with h | ⟨h, h2⟩
    all_goals
      go_enter Tryz.func375, Tryz.ntmps375
      go_wp2_with fail
      refine (names_any _).mono ?_
      rintro e w1 ⟨rfl, rfl⟩
      go_wp2
      go_ret
      exact ⟨rfl, Keeps.alloc _ _ _⟩



/-- How many cells stand behind a primitive. -/
def inl (v : List UInt8) : Int := if v == [108, 105, 116] then 1 else if v == [98, 114, 97, 110, 99, 104] then 1 else if v == [48, 98, 114, 97, 110, 99, 104] then 1 else if v == [40, 108, 111, 111, 112, 41] then 1 else if v == [40, 43, 108, 111, 111, 112, 41] then 1 else if v == [40, 115, 101, 110, 100, 41] then 1 else if v == [40, 99, 97, 108, 108, 41] then 1 else if v == [40, 115, 117, 112, 101, 114, 41] then 2 else 0
/-- The primitives that are inner, but for those with cells behind. -/
def inner0 : List (List UInt8) := [[101, 120, 105, 116], [40, 100, 111, 41], [40, 99, 97, 117, 103, 104, 116, 41], [40, 101, 120, 105, 116, 109, 41], [105], [106], [117, 110, 108, 111, 111, 112], [62, 114], [114, 62], [114, 64]]
theorem inl_bd (v : List UInt8) : 0 ≤ inl v ∧ inl v ≤ 2 := by
  unfold inl
  repeat' split
  all_goals decide

set_option maxRecDepth 10000 in
theorem inline_any (v : List UInt8) (w : World) : (Calls Tryz.prog 377 #[.string ⟨v.toArray⟩] w fun e w' => e = .returned (.int .i64 (inl v)) ∧ w = w') := by
  go_enter Tryz.func377, Tryz.ntmps377
  go_wp2
  all_goals first
    | (exfalso; simp_all; done)
    | (go_ret; exact ⟨ret_idx (by simp [inl, *]), rfl⟩)
theorem idx_mem (v : List UInt8) (l : List (List UInt8)) : (0 ≤ idx v l) ↔ v ∈ l := by
  have : place v l < l.length ↔ v ∈ l := by
    induction l with
    | nil => simp [place]
    | cons x l ih =>
      rw [place]
      split
      · rename_i h; simp [h]
      · rename_i h; simp [h, ← ih]
  unfold idx
  split
  · rename_i h; simp [this.1 h]
  · rename_i h; simp [mt this.2 h]

/-- Is it inner? -/
def inn (v : List UInt8) : Bool := decide (0 < inl v) || decide (v ∈ inner0)

theorem own_inner (w : World) : Own (w.alloc (.cells (inner0.map nm).toArray 9)) 9 1 (some ⟨w.heap.size, 0, none⟩) 10 10 (inner0.map nm) := by
  refine ⟨by decide +kernel, .inr ⟨w.heap.size, 10, _, rfl, Nat.zero_le _, halloc_at _ _, Nat.le_refl _, by decide, by decide +kernel, ?_⟩⟩
  have : (inner0.map nm).length = 10 * 1 := by decide +kernel
  show (inner0.map nm).take (10 * 1) = inner0.map nm
  rw [← this]
  exact List.take_length

set_option maxRecDepth 10000 in
theorem inner_any (v : List UInt8) (w : World) : (Calls Tryz.prog 376 #[.string ⟨v.toArray⟩] w fun e w' => e = .returned (.bool (inn v)) ∧ Keeps (fun _ => False) w w') := by
  have hb := inl_bd v
  have hI := fun w => inline_any v w
  have HD : Hid (inn v = (decide (0 < inl v) || decide (v ∈ inner0))) := rfl
  have hm := idx_mem v inner0
  have hC := fun w => contains_any (some ⟨w.heap.size, 0, none⟩) 10 10 inner0 v _ (own_inner w) (by decide +kernel) (by decide)
  generalize inl v = r at hb hI HD
  generalize inn v = q at HD ⊢
  have HI := Lib.hid hI
  have HC := Lib.hid hC
  have HM := Lib.hid hm
  clear hI hC hm
  by_cases hr : 0 < r
  · go_enter Tryz.func376, Tryz.ntmps376
    go_wp2_with fail
    refine (HI.out _).mono ?_
    rintro e w1 ⟨rfl, rfl⟩
    go_wp2_with fail
    go_ret
    refine ⟨?_, Keeps.refl _ _⟩
    rw [HD.out]
    simp [hr]
  · have hr' : decide (0 < r) = false := by simpa using hr
    go_enter Tryz.func376, Tryz.ntmps376
    go_wp2_with fail
    refine (HI.out _).mono ?_
    rintro e w1 ⟨rfl, rfl⟩
    go_wp2_with fail
    refine (HC.out _).mono ?_
    rintro e w1 ⟨rfl, rfl⟩
    go_wp2_with fail
    go_ret
    refine ⟨?_, Keeps.alloc _ _ _⟩
    rw [HD.out, hr']
    simp [HM.out]

end Go.Proofs.Cod
set_option linter.unusedVariables false
set_option linter.unusedSimpArgs false
namespace Go.Proofs.Shed
open Go.Proofs.Cod
namespace Vm
/-- The primitives' words, one behind the other; where the one of a catch lies. None: there is no room. -/
def primFold (list : Int) : List (List UInt8) → Sp → Int → Option (Sp × Int)
  | [], x, last => some (x, last)
  | nm :: r, x, last => if (x.create list nm 0 (num nm)).2.2 = 0 then primFold list r (x.create list nm 0 (num nm)).1 (if nm = [40, 99, 97, 117, 103, 104, 116, 41] then (x.create list nm 0 (num nm)).2.1.xt else last) else none
/-- The whole: the space, the base's cell, the list, what a catch comes back to. -/
def prims (x : Sp) : Option (Sp × Int × Int × Int) :=
  if (x.comma 10).2 ≠ 0 then none else
  if (x.comma 10).1.list.2.2 ≠ 0 then none else
  match primFold (x.comma 10).1.list.2.1 names (x.comma 10).1.list.1 0 with
  | none => none
  | some (y, last) =>
    let l := (x.comma 10).1.list.2.1
    let c := y.create l [98, 97, 115, 101] 0 1003
    if c.2.2 ≠ 0 then none else
    if (c.1.comma x.here).2 ≠ 0 then none else
    if ((c.1.comma x.here).1.comma last).2 ≠ 0 then none else
    some (((c.1.comma x.here).1.comma last).1, x.here, l, (c.1.comma x.here).1.here)
end Vm
end Go.Proofs.Shed
set_option linter.unusedVariables false
set_option linter.unusedSimpArgs false
set_option maxRecDepth 10000
set_option maxHeartbeats 4000000
namespace Go.Proofs.Shed
open Go Go.RowKit Go.Proofs.K Go.Proofs.Cod

theorem vm_prims (w : World) (mb s b bb : Nat) (c : Mc) (x y : Sp) (base list caught : Int) (hc : RMc w mb c) (hsp : c.sp = some s) (h : RSp w s b bb x) (hp : Vm.prims x = some (y, base, list, caught)) (n1 : mb ≠ s) (n2 : mb ≠ b) (n3 : mb ≠ bb) :
    Calls Tryz.prog 131 #[.pointer (some ⟨mb, 0, none⟩)] w fun e w' => e = .returned (.int .i64 0) ∧ RMc w' mb { c with base := base, list := list, caught := caught } ∧ RSp w' s b bb y ∧ Keeps (fun k => k = mb ∨ k = s ∨ k = bb) w w' := by
  unfold Vm.prims at hp
  by_cases p1 : (x.comma 10).2 = 0
  case neg => rw [if_pos p1] at hp; cases hp
  rw [if_neg (by simpa using p1)] at hp
  have C1 := Lib.hid fun V R => sp_comma V s b bb x 10 R
  generalize hx1 : x.comma 10 = x1 at hp p1 C1
  obtain ⟨x1, e1⟩ := x1
  simp only at hp p1
  subst p1
  by_cases p2 : x1.list.2.2 = 0
  case neg => rw [if_pos p2] at hp; cases hp
  rw [if_neg (by simpa using p2)] at hp
  have C2 := Lib.hid fun V R => head_list V s b bb x1 R
  generalize x1.list = x2 at hp p2 C2
  obtain ⟨x2, l, e2⟩ := x2
  simp only at hp p2
  subst p2
  generalize hf : Vm.primFold l names x2 0 = r3 at hp
  cases r3 with
  | none => simp only at hp; cases hp
  | some r3 =>
  obtain ⟨x3, last⟩ := r3
  simp only at hp
  have C4 := Lib.hid fun V R => head_create V s b bb x3 l [98, 97, 115, 101] 0 1003 R (by omega) (by omega)
  by_cases p4 : (x3.create l [98, 97, 115, 101] 0 1003).2.2 = 0
  case neg => rw [if_pos p4] at hp; cases hp
  rw [if_neg (by simpa using p4)] at hp
  generalize x3.create l [98, 97, 115, 101] 0 1003 = x4 at hp p4 C4
  obtain ⟨x4, wd4, e4⟩ := x4
  simp only at hp p4
  subst p4
  have C5 := Lib.hid fun V R => sp_comma V s b bb x4 x.here R
  by_cases p5 : (x4.comma x.here).2 = 0
  case neg => rw [if_pos p5] at hp; cases hp
  rw [if_neg (by simpa using p5)] at hp
  generalize x4.comma x.here = x5 at hp p5 C5
  obtain ⟨x5, e5⟩ := x5
  simp only at hp p5
  subst p5
  have C6 := Lib.hid fun V R => sp_comma V s b bb x5 last R
  by_cases p6 : (x5.comma last).2 = 0
  case neg => rw [if_pos p6] at hp; cases hp
  rw [if_neg (by simpa using p6)] at hp
  generalize x5.comma last = x6 at hp p6 C6
  obtain ⟨x6, e6⟩ := x6
  simp only at hp p6
  subst p6
  injection hp with hp
  injection hp with h1 hp
  injection hp with h2 hp
  injection hp with h3 h4
  subst h1
  subst h2
  subst h3
  subst h4
  have HF := Lib.hid hf
  have HNM := Lib.hid fun w => names_any w
  clear hf hx1
  obtain ⟨sp, dk, rk, hpp, nmb, ip, self, root, li, slots, fuel, out, inp, over, ba, ca, handler, does⟩ := c
  simp only at hsp
  subst hsp
  have c0 := hc.c0
  have f14 := hc.free 14
  have c14 := hc.c14
  have HC1 := Lib.hid (hc.setBase x.here)
  have K1 : Keeps (fun k => k = mb) w (w.setCell ⟨mb, 14, none⟩ (.int .i64 x.here)) := Keeps.setCell _ _ _ (fun _ => rfl)
  have HS := Lib.hid (sp_here w s b bb x h)
  have R1 := Lib.hid (h.keeps K1 (fun e => n1 e.symm) (fun e => n2 e.symm) (fun e => n3 e.symm))
  have KK1 := Lib.hid (K1.mono (T := fun k => k = mb ∨ k = s ∨ k = bb) (fun _ _ e => .inl e))
  have N1 := Lib.hid n1
  have N2 := Lib.hid n2
  have N3 := Lib.hid n3
  unfold optP at c0
  clear hc h K1 n1 n2 n3
  go_enter Tryz.func131, Tryz.ntmps131
  go_wp2_with fail
  refine HS.out.mono ?_
  rintro e w1 ⟨rfl, rfl⟩
  clear HS
  go_wp2_with fail
  clear c0 f14 c14
  refine (C1.out _ R1.out).mono ?_
  rintro e W ⟨rfl, r1, k1⟩
  replace HC1 := Lib.hid (HC1.out.keeps k1 (fun e => by rcases e with e | e; exact N1.out e; exact N3.out e))
  replace KK1 := Lib.hid (KK1.out.trans (k1.mono (fun _ _ e => .inr e)))
  replace R1 := Lib.hid r1
  clear r1 k1
  have c0 : W.cell? ⟨mb, 0, none⟩ = some (.pointer (some ⟨s, 0, none⟩)) := HC1.out.c0
  go_wp2_with fail
  refine (C2.out _ R1.out).mono ?_
  clear c0
  rintro e W ⟨rfl, r1, k1⟩
  replace HC1 := Lib.hid (HC1.out.keeps k1 (fun e => by rcases e with e | e; exact N1.out e; exact N3.out e))
  replace KK1 := Lib.hid (KK1.out.trans (k1.mono (fun _ _ e => .inr e)))
  replace R1 := Lib.hid r1
  clear r1 k1
  have c0 : W.cell? ⟨mb, 0, none⟩ = some (.pointer (some ⟨s, 0, none⟩)) := HC1.out.c0
  have hwW := KK1.out.size
  have f8 := HC1.out.free 8
  have c8 := HC1.out.c8
  have K8 : Keeps (fun k => k = mb) W (W.setCell ⟨mb, 8, none⟩ (.int .i64 l)) := Keeps.setCell _ _ _ (fun _ => rfl)
  replace HC1 := Lib.hid (HC1.out.setList l)
  replace R1 := Lib.hid (R1.out.keeps K8 (fun e => N1.out e.symm) (fun e => N2.out e.symm) (fun e => N3.out e.symm))
  replace KK1 := Lib.hid (KK1.out.trans (K8.mono (T := fun k => k = mb ∨ k = s ∨ k = bb) (fun _ _ e => .inl e)))
  clear K8
  go_wp2_with fail
  have hgn : mb < (W.setCell ⟨mb, 8, none⟩ (.int .i64 l)).heap.size := lt_of_heap HC1.out
  have KA := Lib.hid (Keeps.alloc (fun _ => False) (W.setCell ⟨mb, 8, none⟩ (.int .i64 l)) (.cells #[.int .i64 0, .int .i64 0, .int .i64 0, .string ⟨#[]⟩] 53))
  have AA := Lib.hid (halloc_at (W.setCell ⟨mb, 8, none⟩ (.int .i64 l)) (.cells #[.int .i64 0, .int .i64 0, .int .i64 0, .string ⟨#[]⟩] 53))
  have hsz : (W.setCell ⟨mb, 8, none⟩ (.int .i64 l)).heap.size = W.heap.size := by simp
  have hsA : ((W.setCell ⟨mb, 8, none⟩ (.int .i64 l)).alloc (.cells #[.int .i64 0, .int .i64 0, .int .i64 0, .string ⟨#[]⟩] 53)).heap.size = W.heap.size + 1 := by simp
  generalize hW1 : (W.setCell ⟨mb, 8, none⟩ (.int .i64 l)) = W1 at *
  generalize hW2 : W1.alloc (.cells #[.int .i64 0, .int .i64 0, .int .i64 0, .string ⟨#[]⟩] 53) = W2 at *
  clear hW1 hW2 f8 c8 c0
  have hgW : W1.heap.size = W.heap.size := hsz
  obtain ⟨gW, hg⟩ : ∃ gW, gW = W.heap.size := ⟨_, rfl⟩
  rw [← hg] at hsz hsA hgW ⊢
  rw [hgW] at hgn AA
  have hlts : s < gW ∧ bb < gW ∧ b < gW := by
    have := R1.out.head
    have h1 := lt_of_heap this
    have h2 := R1.out.mem.lt
    omega
  replace HC1 := Lib.hid (HC1.out.keeps KA.out id)
  replace R1 := Lib.hid (R1.out.keeps KA.out id id id)
  replace KK1 := Lib.hid (KK1.out.trans (KA.out.mono (fun _ _ e => e.elim)))
  have hg0 : w.heap.size ≤ gW := by omega
  have HG := Lib.hid hg
  clear hg KA
  refine (HNM.out _).mono ?_
  rintro e W3 ⟨rfl, hW3⟩
  have ON := Lib.hid (own_names W2)
  have KN := Lib.hid (Keeps.alloc (fun _ => False) W2 (.cells (names.map nm).toArray 9))
  rw [hW3] at ON KN
  rw [hsA] at ON ⊢
  clear hW3
  replace HC1 := Lib.hid (HC1.out.keeps KN.out id)
  replace R1 := Lib.hid (R1.out.keeps KN.out id id id)
  replace KK1 := Lib.hid (KK1.out.trans (KN.out.mono (fun _ _ e => e.elim)))
  replace AA := Lib.hid (show WdCells gW 0 0 0 [] W3 from KN.out.heap AA.out id)
  clear KN
  go_wp2_with fail
  go_loopw [45] (fun iv wr => ∃ (i : Nat) (y : Sp) (lst a f : Int) (n : List UInt8), iv = .int .i64 i ∧ i ≤ 86 ∧ Vm.primFold l (names.drop i) y lst = some (x3, last) ∧ RSp wr s b bb y ∧ WdCells gW a lst f n wr ∧ Keeps (fun k => k = gW ∨ k = s ∨ k = bb) W3 wr) (fun iv _ => 86 - (intOf iv).toNat)
  case atStart => exact ⟨0, x2, 0, 0, 0, [], rfl, by omega, HF.out, R1.out, AA.out, Keeps.refl _ _⟩
  case round =>
    obtain ⟨i, y, lst, a, f, n, rfl, hi, hf, hr, hw, hk⟩ := hrel
    have HY := Lib.hid hr
    have HWD := Lib.hid hw
    have HK := Lib.hid hk
    have HMC := Lib.hid (HC1.out.keeps hk (fun e => by rcases e with e | e | e; omega; exact N1.out e; exact N3.out e))
    clear hr hw hk
    by_cases hlt : i < 86
    · have hi' : i < names.length := by rw [names_len]; exact hlt
      obtain ⟨g, hg, hc⟩ := own_str (ON.out.keeps HK.out (fun g e => by cases e; exact fun e => by rcases e with e | e | e <;> (have e : gW + 1 = _ := e; omega))) i hi'
      cases hg
      rw [List.drop_eq_getElem_cons hi'] at hf
      have hln : names[i].length ≤ 31 := by
        have : ∀ s ∈ names, s.length ≤ 31 := by decide +kernel
        exact this _ (List.getElem_mem hi')
      generalize names[i] = nmn at hc hf hln
      rw [Vm.primFold] at hf
      by_cases pc : (y.create l nmn 0 (num nmn)).2.2 = 0
      case neg => rw [if_neg pc] at hf; cases hf
      rw [if_pos pc] at hf
      have HNU := Lib.hid fun V => number_any nmn V
      have HCR := Lib.hid fun V R => head_create V s b bb y l nmn 0 (num nmn) R (by omega) (by omega)
      generalize y.create l nmn 0 (num nmn) = y2 at hf pc HCR
      obtain ⟨y2, wd, e2⟩ := y2
      simp only at hf pc
      subst pc
      have HF2 := Lib.hid hf
      have hi0 : (0 : Int) ≤ (i : Int) := by omega
      unfold nm at hc
      clear hf hln hi'
      generalize num nmn = nu at HNU HCR
      go_upto_region 13 with fail
      have m0 : wr.cell? ⟨mb, 0, none⟩ = some (.pointer (some ⟨s, 0, none⟩)) := HMC.out.c0
      have m8 : wr.cell? ⟨mb, 8, none⟩ = some (.int .i64 l) := HMC.out.c8
      have hmw : mb < wr.heap.size := lt_of_heap HMC.out
      have hsw : s < wr.heap.size ∧ bb < wr.heap.size := ⟨lt_of_heap HY.out.head, HY.out.mem.lt.2⟩
      go_cut [8, 9] (fun v8 v9 wx => ∃ g8 : Nat, v8 = .pointer (some ⟨g8, 0, none⟩) ∧ v9 = .int .i64 0 ∧ WdCells g8 wd.at_ wd.xt wd.flags wd.name wx ∧ RSp wx s b bb y2 ∧ wr.heap.size ≤ g8 ∧ Keeps (fun k => k = s ∨ k = bb) wr wx)
      case first =>
        go_region_held3 (fun w' => w'.cell? ⟨mb, 0, none⟩ = some (.pointer (some ⟨s, 0, none⟩)) ∧ w'.cell? ⟨mb, 8, none⟩ = some (.int .i64 l))
          (first | go_keep)
          (first
            | (go_at_call 121; refine (HNU.out (wr.alloc (.cells #[.int .i64 0, .int .i64 0, .int .i64 0, .string ⟨#[]⟩] 53)).drew).mono ?_; rintro e w4 ⟨rfl, k4⟩; dsimp only
               have kk := ((Keeps.alloc (fun _ => False) wr (.cells #[.int .i64 0, .int .i64 0, .int .i64 0, .string ⟨#[]⟩] 53)).trans (Keeps.drew (fun _ => False) _)).trans k4
               have hz := k4.heap (show ((wr.alloc (.cells #[.int .i64 0, .int .i64 0, .int .i64 0, .string ⟨#[]⟩] 53)).drew).heap[wr.heap.size]? = _ from halloc_at wr _) id
               have p0 := kk.cell m0 id
               have p8 := kk.cell m8 id
               have r4 := HY.out.keeps kk id id id
               have l4 := kk.size
               have zz : wr.heap.size < w4.heap.size := lt_of_heap hz)
            | (go_at_call 121; refine (HNU.out wr.drew).mono ?_; rintro e w4 ⟨rfl, k4⟩; dsimp only
               have kk := (Keeps.drew (fun _ => False) wr).trans k4
               have p0 := kk.cell m0 id
               have p8 := kk.cell m8 id
               have r4 := HY.out.keeps kk id id id
               have l4 := kk.size)
            | (go_at_call 82; refine (HCR.out (w4.alloc (.cells #[.int .i64 0, .int .i64 0, .int .i64 0, .string ⟨#[]⟩] 53)) (r4.allocd _)).mono ?_; rintro e w5 ⟨rfl, r5, k5⟩; dsimp only [Wd.val]
               have hz := k5.heap (halloc_at w4 (.cells #[.int .i64 0, .int .i64 0, .int .i64 0, .string ⟨#[]⟩] 53)) (fun e => by rcases e with e | e <;> omega)
               have o0 := k5.cell ((Keeps.alloc (fun _ => False) w4 (.cells #[.int .i64 0, .int .i64 0, .int .i64 0, .string ⟨#[]⟩] 53)).cell p0 id) (fun e => by rcases e with e | e; exact N1.out e; exact N3.out e)
               have o8 := k5.cell ((Keeps.alloc (fun _ => False) w4 (.cells #[.int .i64 0, .int .i64 0, .int .i64 0, .string ⟨#[]⟩] 53)).cell p8 id) (fun e => by rcases e with e | e; exact N1.out e; exact N3.out e)
               have ks := (kk.mono (T := fun k => k = s ∨ k = bb) (fun _ _ e => e.elim)).trans (((Keeps.alloc (fun k => k = s ∨ k = bb) w4 (.cells #[.int .i64 0, .int .i64 0, .int .i64 0, .string ⟨#[]⟩] 53))).trans k5)
               have n0 : mb ≠ w4.heap.size := by omega
               have n0' : w4.heap.size ≠ mb := by omega
               have z0 : w5.cell? ⟨w4.heap.size, 0, none⟩ = some (.int .i64 0) := cell_of hz rfl
               have z1 : w5.cell? ⟨w4.heap.size, 1, none⟩ = some (.int .i64 0) := cell_of hz rfl
               have z2 : w5.cell? ⟨w4.heap.size, 2, none⟩ = some (.int .i64 0) := cell_of hz rfl
               have z3 : w5.cell? ⟨w4.heap.size, 3, none⟩ = some (.string ⟨#[]⟩) := cell_of hz rfl
               have q0 := free_of (i := 0) hz
               have q1 := free_of (i := 1) hz
               have q2 := free_of (i := 2) hz
               have q3 := free_of (i := 3) hz)
            | (go_at_call 82; refine (HCR.out w4 r4).mono ?_; rintro e w5 ⟨rfl, r5, k5⟩; dsimp only [Wd.val]
               have hz := k5.heap hz (fun e => by rcases e with e | e <;> omega)
               have o0 := k5.cell p0 (fun e => by rcases e with e | e; exact N1.out e; exact N3.out e)
               have o8 := k5.cell p8 (fun e => by rcases e with e | e; exact N1.out e; exact N3.out e)
               have ks := (kk.mono (T := fun k => k = s ∨ k = bb) (fun _ _ e => e.elim)).trans k5
               have n0 : mb ≠ wr.heap.size := by omega
               have n0' : wr.heap.size ≠ mb := by omega
               have z0 : w5.cell? ⟨wr.heap.size, 0, none⟩ = some (.int .i64 0) := cell_of hz rfl
               have z1 : w5.cell? ⟨wr.heap.size, 1, none⟩ = some (.int .i64 0) := cell_of hz rfl
               have z2 : w5.cell? ⟨wr.heap.size, 2, none⟩ = some (.int .i64 0) := cell_of hz rfl
               have z3 : w5.cell? ⟨wr.heap.size, 3, none⟩ = some (.string ⟨#[]⟩) := cell_of hz rfl
               have q0 := free_of (i := 0) hz
               have q1 := free_of (i := 1) hz
               have q2 := free_of (i := 2) hz
               have q3 := free_of (i := 3) hz)
            | (go_at_call 82; refine (HCR.out w4 r4).mono ?_; rintro e w5 ⟨rfl, r5, k5⟩; dsimp only [Wd.val]
               have o0 := k5.cell p0 (fun e => by rcases e with e | e; exact N1.out e; exact N3.out e)
               have o8 := k5.cell p8 (fun e => by rcases e with e | e; exact N1.out e; exact N3.out e)
               have ks := (kk.mono (T := fun k => k = s ∨ k = bb) (fun _ _ e => e.elim)).trans k5))
        all_goals
          go_wp2_with fail
          go_meet
          refine ⟨_, rfl, rfl, ?_⟩
          first
            | (have hB := set4 (g := w4.heap.size) hz (.int .i64 wd.at_) (.int .i64 wd.xt) (.int .i64 wd.flags) (.string ⟨wd.name.toArray⟩)
               have kB := keeps_set4 ks (w4.heap.size) (.int .i64 wd.at_) (.int .i64 wd.xt) (.int .i64 wd.flags) (.string ⟨wd.name.toArray⟩) (by omega)
               have hby := HY.out.mem.lt
               have rB := r5.keeps (keeps_set4g w5 (w4.heap.size) (.int .i64 wd.at_) (.int .i64 wd.xt) (.int .i64 wd.flags) (.string ⟨wd.name.toArray⟩)) (fun e => by have e : s = w4.heap.size := e; omega) (fun e => by have e : b = w4.heap.size := e; omega) (fun e => by have e : bb = w4.heap.size := e; omega)
               exact ⟨hB, rB, by omega, kB⟩)
            | (have hB := set4 (g := wr.heap.size) hz (.int .i64 wd.at_) (.int .i64 wd.xt) (.int .i64 wd.flags) (.string ⟨wd.name.toArray⟩)
               have kB := keeps_set4 ks (wr.heap.size) (.int .i64 wd.at_) (.int .i64 wd.xt) (.int .i64 wd.flags) (.string ⟨wd.name.toArray⟩) (by omega)
               have hby := HY.out.mem.lt
               have rB := r5.keeps (keeps_set4g w5 (wr.heap.size) (.int .i64 wd.at_) (.int .i64 wd.xt) (.int .i64 wd.flags) (.string ⟨wd.name.toArray⟩)) (fun e => by have e : s = wr.heap.size := e; omega) (fun e => by have e : b = wr.heap.size := e; omega) (fun e => by have e : bb = wr.heap.size := e; omega)
               exact ⟨hB, rB, by omega, kB⟩)
            | (have hA := halloc_at w5 (.cells #[.int .i64 wd.at_, .int .i64 wd.xt, .int .i64 wd.flags, .string ⟨wd.name.toArray⟩] 53)
               have kA := ks.trans (Keeps.alloc (fun k => k = s ∨ k = bb) w5 (.cells #[.int .i64 wd.at_, .int .i64 wd.xt, .int .i64 wd.flags, .string ⟨wd.name.toArray⟩] 53))
               have lA := ks.size
               exact ⟨hA, r5.allocd _, by omega, kA⟩)
      case rest =>
        obtain ⟨g8, rfl, rfl, hw8, r8, h8, k8⟩ := hcut
        have e0 : wc.cell? ⟨g8, 0, none⟩ = some (.int .i64 wd.at_) := cell_of hw8 rfl
        have e1 : wc.cell? ⟨g8, 1, none⟩ = some (.int .i64 wd.xt) := cell_of hw8 rfl
        have e2 : wc.cell? ⟨g8, 2, none⟩ = some (.int .i64 wd.flags) := cell_of hw8 rfl
        have e3 : wc.cell? ⟨g8, 3, none⟩ = some (.string ⟨wd.name.toArray⟩) := cell_of hw8 rfl
        have hWD := Lib.hid (show WdCells gW a lst f n wc from k8.heap HWD.out (fun e => by rcases e with e | e <;> omega))
        have R8 := Lib.hid r8
        have K8 := Lib.hid (HK.out.trans (k8.mono (T := fun k => k = gW ∨ k = s ∨ k = bb) (fun _ _ e => .inr e)))
        clear hw8 r8 k8
        by_cases hca : nmn = [40, 99, 97, 117, 103, 104, 116, 41]
        · have d : (nmn == [40, 99, 97, 117, 103, 104, 116, 41]) = true := by simp [hca]
          replace HF2 := Lib.hid (show Vm.primFold l (names.drop (i + 1)) y2 wd.xt = some (x3, last) by have := HF2.out; rw [if_pos hca] at this; exact this)
          have q0 : wc.cell? ⟨gW, 0, none⟩ = some (.int .i64 a) := cell_of hWD.out rfl
          have q1 : wc.cell? ⟨gW, 1, none⟩ = some (.int .i64 lst) := cell_of hWD.out rfl
          have q2 : wc.cell? ⟨gW, 2, none⟩ = some (.int .i64 f) := cell_of hWD.out rfl
          have q3 : wc.cell? ⟨gW, 3, none⟩ = some (.string ⟨n.toArray⟩) := cell_of hWD.out rfl
          have b0 := free_of (i := 0) hWD.out
          have b1 := free_of (i := 1) hWD.out
          have b2 := free_of (i := 2) hWD.out
          have b3 := free_of (i := 3) hWD.out
          have WN := Lib.hid (set4 hWD.out (.int .i64 wd.at_) (.int .i64 wd.xt) (.int .i64 wd.flags) (.string ⟨wd.name.toArray⟩))
          have KN := Lib.hid (K8.out.trans ((keeps_set4g wc gW (.int .i64 wd.at_) (.int .i64 wd.xt) (.int .i64 wd.flags) (.string ⟨wd.name.toArray⟩)).mono (T := fun k => k = gW ∨ k = s ∨ k = bb) (fun _ _ e => .inl e)))
          have RN := Lib.hid (R8.out.keeps (keeps_set4g wc gW (.int .i64 wd.at_) (.int .i64 wd.xt) (.int .i64 wd.flags) (.string ⟨wd.name.toArray⟩)) (fun e => by have e : s = gW := e; omega) (fun e => by have e : b = gW := e; omega) (fun e => by have e : bb = gW := e; omega))
          clear hca
          go_wp2_with fail
          go_roundw
          case rel => exact ⟨i + 1, y2, wd.xt, wd.at_, wd.flags, wd.name, by go_num, by omega, HF2.out, RN.out, WN.out, KN.out⟩
          case measure => simp [intOf]; omega
        · have d : (nmn == [40, 99, 97, 117, 103, 104, 116, 41]) = false := by simp [hca]
          replace HF2 := Lib.hid (show Vm.primFold l (names.drop (i + 1)) y2 lst = some (x3, last) by have := HF2.out; rw [if_neg hca] at this; exact this)
          clear hca
          go_wp2_with fail
          go_roundw
          case rel => exact ⟨i + 1, y2, lst, a, f, n, by go_num, by omega, HF2.out, R8.out, hWD.out, K8.out⟩
          case measure => simp [intOf]; omega
    · have hge : i = 86 := by omega
      subst hge
      rw [show names.drop 86 = [] by rw [← names_len]; exact List.drop_length] at hf
      rw [Vm.primFold] at hf
      injection hf with hf
      injection hf with h1 h2
      subst h1
      subst h2
      clear hlt
      have m0 : wr.cell? ⟨mb, 0, none⟩ = some (.pointer (some ⟨s, 0, none⟩)) := HMC.out.c0
      have m8 : wr.cell? ⟨mb, 8, none⟩ = some (.int .i64 l) := HMC.out.c8
      have hmw : mb < wr.heap.size := lt_of_heap HMC.out
      have hsw : s < wr.heap.size ∧ bb < wr.heap.size := ⟨lt_of_heap HY.out.head, HY.out.mem.lt.2⟩
      have hbw : b < wr.heap.size := HY.out.mem.lt.1
      have hgr : gW < wr.heap.size := lt_of_heap HWD.out
      go_wp2_with fail
      go_cut [10, 11] (fun v8 v9 wx => v9 = .int .i64 0 ∧ RSp wx s b bb x4 ∧ Keeps (fun k => k = s ∨ k = bb) wr wx)
      case first =>
        go_region_held3 (fun w' => w'.cell? ⟨mb, 0, none⟩ = some (.pointer (some ⟨s, 0, none⟩)) ∧ w'.cell? ⟨mb, 8, none⟩ = some (.int .i64 l))
          (first | go_keep)
          (first
            | (go_at_call 82; refine (C4.out (wr.alloc (.cells #[.int .i64 0, .int .i64 0, .int .i64 0, .string ⟨#[]⟩] 53)).drew ((HY.out.allocd _).drew)).mono ?_; rintro e w5 ⟨rfl, r5, k5⟩; dsimp only [Wd.val]
               have hz := k5.heap (show ((wr.alloc (.cells #[.int .i64 0, .int .i64 0, .int .i64 0, .string ⟨#[]⟩] 53)).drew).heap[wr.heap.size]? = _ from halloc_at wr _) (fun e => by rcases e with e | e <;> omega)
               have o0 := k5.cell ((Keeps.alloc (fun _ => False) wr (.cells #[.int .i64 0, .int .i64 0, .int .i64 0, .string ⟨#[]⟩] 53)).cell m0 id) (fun e => by rcases e with e | e; exact N1.out e; exact N3.out e)
               have o8 := k5.cell ((Keeps.alloc (fun _ => False) wr (.cells #[.int .i64 0, .int .i64 0, .int .i64 0, .string ⟨#[]⟩] 53)).cell m8 id) (fun e => by rcases e with e | e; exact N1.out e; exact N3.out e)
               have ks := ((Keeps.alloc (fun k => k = s ∨ k = bb) wr (.cells #[.int .i64 0, .int .i64 0, .int .i64 0, .string ⟨#[]⟩] 53)).trans (Keeps.drew _ _)).trans k5
               have n0 : mb ≠ wr.heap.size := by omega
               have n0' : wr.heap.size ≠ mb := by omega
               have z0 : w5.cell? ⟨wr.heap.size, 0, none⟩ = some (.int .i64 0) := cell_of hz rfl
               have z1 : w5.cell? ⟨wr.heap.size, 1, none⟩ = some (.int .i64 0) := cell_of hz rfl
               have z2 : w5.cell? ⟨wr.heap.size, 2, none⟩ = some (.int .i64 0) := cell_of hz rfl
               have z3 : w5.cell? ⟨wr.heap.size, 3, none⟩ = some (.string ⟨#[]⟩) := cell_of hz rfl
               have q0 := free_of (i := 0) hz
               have q1 := free_of (i := 1) hz
               have q2 := free_of (i := 2) hz
               have q3 := free_of (i := 3) hz)
            | (go_at_call 82; refine (C4.out wr.drew HY.out.drew).mono ?_; rintro e w5 ⟨rfl, r5, k5⟩; dsimp only [Wd.val]
               have o0 := k5.cell m0 (fun e => by rcases e with e | e; exact N1.out e; exact N3.out e)
               have o8 := k5.cell m8 (fun e => by rcases e with e | e; exact N1.out e; exact N3.out e)
               have ks := (Keeps.drew (fun k => k = s ∨ k = bb) wr).trans k5))
        all_goals
          go_wp2_with fail
          go_meet
          refine ⟨rfl, ?_⟩
          first
            | (have hB := set4 (g := wr.heap.size) hz (.int .i64 wd4.at_) (.int .i64 wd4.xt) (.int .i64 wd4.flags) (.string ⟨wd4.name.toArray⟩)
               have kB := keeps_set4 ks wr.heap.size (.int .i64 wd4.at_) (.int .i64 wd4.xt) (.int .i64 wd4.flags) (.string ⟨wd4.name.toArray⟩) (by omega)
               have rB := r5.keeps (keeps_set4g w5 wr.heap.size (.int .i64 wd4.at_) (.int .i64 wd4.xt) (.int .i64 wd4.flags) (.string ⟨wd4.name.toArray⟩)) (fun e => by have e : s = wr.heap.size := e; omega) (fun e => by have e : b = wr.heap.size := e; omega) (fun e => by have e : bb = wr.heap.size := e; omega)
               exact ⟨rB, kB⟩)
            | (have kA := ks.trans (Keeps.alloc (fun k => k = s ∨ k = bb) w5 (.cells #[.int .i64 wd4.at_, .int .i64 wd4.xt, .int .i64 wd4.flags, .string ⟨wd4.name.toArray⟩] 53))
               exact ⟨r5.allocd _, kA⟩)
      case rest =>
        obtain ⟨rfl, r9, k9⟩ := hcut
        have nS : ¬ (mb = s ∨ mb = bb) := fun e => by rcases e with e | e; exact N1.out e; exact N3.out e
        have M9 := Lib.hid (HMC.out.keeps k9 nS)
        have W9 := Lib.hid (show WdCells gW a lst f n wc from k9.heap HWD.out (fun e => by rcases e with e | e <;> omega))
        have R9 := Lib.hid r9
        have K9 := Lib.hid (HK.out.trans (k9.mono (T := fun k => k = gW ∨ k = s ∨ k = bb) (fun _ _ e => .inr e)))
        have NS := Lib.hid nS
        have m0 : wc.cell? ⟨mb, 0, none⟩ = some (.pointer (some ⟨s, 0, none⟩)) := M9.out.c0
        have m14 : wc.cell? ⟨mb, 14, none⟩ = some (.int .i64 x.here) := M9.out.c14
        clear r9 k9 m8 nS
        go_upto_region 22 with fail
        go_still_tail 8, (by kernel_rfl)
        change wpList _ _ _ _ _ wc.drew
        go_wp2_with fail
        refine (C5.out _ R9.out.drew).mono ?_
        rintro e W ⟨rfl, r1, k1⟩
        have k1 := (Keeps.drew (fun k => k = s ∨ k = bb) wc).trans k1
        replace M9 := Lib.hid (M9.out.keeps k1 NS.out)
        replace W9 := Lib.hid (show WdCells gW a lst f n W from k1.heap W9.out (fun e => by rcases e with e | e <;> omega))
        replace K9 := Lib.hid (K9.out.trans (k1.mono (T := fun k => k = gW ∨ k = s ∨ k = bb) (fun _ _ e => .inr e)))
        replace R9 := Lib.hid r1
        clear r1 k1 m0 m14
        have m0 : W.cell? ⟨mb, 0, none⟩ = some (.pointer (some ⟨s, 0, none⟩)) := M9.out.c0
        have m15 := M9.out.c15
        have f15 := M9.out.free 15
        have KX : Keeps (fun k => k = mb) W (W.setCell ⟨mb, 15, none⟩ (.int .i64 x5.here)) := Keeps.setCell _ _ _ (fun _ => rfl)
        have M10 := Lib.hid (M9.out.setCaught x5.here)
        have W10 := Lib.hid (show WdCells gW a lst f n (W.setCell ⟨mb, 15, none⟩ (.int .i64 x5.here)) from KX.heap W9.out (fun e => by have e : gW = mb := e; omega))
        have R10 := Lib.hid (R9.out.keeps KX (fun e => N1.out e.symm) (fun e => N2.out e.symm) (fun e => N3.out e.symm))
        have K10 := Lib.hid ((K9.out.mono (T := fun k => k = mb ∨ k = gW ∨ k = s ∨ k = bb) (fun _ _ e => .inr e)).trans (KX.mono (fun _ _ e => .inl e)))
        have n10 : (W.setCell ⟨mb, 15, none⟩ (.int .i64 x5.here)).cell? ⟨mb, 0, none⟩ = some (.pointer (some ⟨s, 0, none⟩)) := M10.out.c0
        have n11 : (W.setCell ⟨mb, 15, none⟩ (.int .i64 x5.here)).cell? ⟨gW, 1, none⟩ = some (.int .i64 lst) := cell_of W10.out rfl
        clear KX
        go_wp2_with fail
        refine (sp_here W s b bb _ R9.out).mono ?_
        rintro e w1 ⟨rfl, rfl⟩
        go_upto_region 26 with fail
        generalize hV : W.setCell ⟨mb, 15, none⟩ (.int .i64 x5.here) = V at M10 W10 R10 K10 n10 n11 ⊢
        clear hV m0 m15 f15
        go_still_tail 6, (by kernel_rfl)
        change wpList _ _ _ _ _ V.drew
        go_wp2_with fail
        refine (C6.out _ R10.out.drew).mono ?_
        rintro e W' ⟨rfl, r1, k1⟩
        have k1 := (Keeps.drew (fun k => k = s ∨ k = bb) V).trans k1
        have MF := Lib.hid (M10.out.keeps k1 NS.out)
        have RF := Lib.hid r1
        have KF := Lib.hid (KK1.out.trans' (K10.out.trans (k1.mono (T := fun k => k = mb ∨ k = gW ∨ k = s ∨ k = bb) (fun _ _ e => .inr (.inr e)))) (fun i hi e => by rcases e with e | e | e | e; exact .inl e; omega; exact .inr (.inl e); exact .inr (.inr e)))
        clear r1 k1
        go_wp2_with fail
        go_ret
        exact ⟨rfl, MF.out, RF.out, KF.out⟩
end Go.Proofs.Shed
