/- CodeNames returns true, whatever name and number come in: the walks of layer 14 and of its reference. No condition. -/
import Derived.Test.YthhfkhhhclmimaaProg
import Derived.Test.YthhfkhhhclmimaaKit
set_option maxRecDepth 10000
namespace Go.Proofs.Cod
open Go Go.RowKit Go.Proofs.K
/-- An operation whose run is known. -/
theorem wpList_run {P : Program} {w : World} {ops : Array Oper} {rest : List Oper} {o : Oper} {a : Act} {Q : Exit → Act → World → Prop} (hgd : o.guard = none) (v : Value) (w' : World)
    (h : (execOp a.eval o).run P w = .ok (.value v) w') (hk : wpList P ops Q rest (a.put o.dst v) w') : wpList P ops Q (o :: rest) a w := by
  refine wpList_plain hgd fun K hK => ?_
  unfold Oper.wp
  rw [h]
  exact hK _ _ hk

def nm (l : List UInt8) : Value := .string ⟨l.toArray⟩
/-- The primitives' names, as bytes. -/
def names : List (List UInt8) := [[101, 120, 105, 116], [108, 105, 116], [98, 114, 97, 110, 99, 104], [48, 98, 114, 97, 110, 99, 104], [40, 100, 111, 41], [40, 108, 111, 111, 112, 41], [40, 43, 108, 111, 111, 112, 41], [105], [106], [117, 110, 108, 111, 111, 112], [100, 117, 112], [100, 114, 111, 112], [115, 119, 97, 112], [111, 118, 101, 114], [114, 111, 116], [110, 105, 112], [116, 117, 99, 107], [63, 100, 117, 112], [112, 105, 99, 107], [100, 101, 112, 116, 104], [62, 114], [114, 62], [114, 64], [43], [45], [42], [47], [109, 111, 100], [97, 110, 100], [111, 114], [120, 111, 114], [108, 115, 104, 105, 102, 116], [114, 115, 104, 105, 102, 116], [61], [60, 62], [60], [62], [117, 60], [109, 105, 110], [109, 97, 120], [110, 101, 103, 97, 116, 101], [105, 110, 118, 101, 114, 116], [97, 98, 115], [48, 61], [48, 60], [49, 43], [99, 104, 97, 114, 43], [49, 45], [50, 42], [50, 47], [99, 101, 108, 108, 115], [99, 101, 108, 108, 43], [97, 108, 105, 103, 110, 101, 100], [64], [33], [99, 64], [99, 33], [43, 33], [104, 101, 114, 101], [97, 108, 108, 111, 116], [44], [99, 44], [97, 108, 105, 103, 110], [101, 109, 105, 116], [99, 114], [115, 112, 97, 99, 101], [116, 121, 112, 101], [46], [117, 46], [107, 101, 121], [101, 120, 101, 99, 117, 116, 101], [99, 97, 116, 99, 104], [116, 104, 114, 111, 119], [40, 99, 97, 117, 103, 104, 116, 41], [97, 98, 111, 114, 116], [97, 108, 108, 111, 99, 97, 116, 101], [102, 114, 101, 101], [114, 101, 115, 105, 122, 101], [115, 101, 108, 102], [110, 101, 119], [99, 108, 97, 115, 115, 111, 102], [40, 115, 101, 110, 100, 41], [40, 99, 97, 108, 108, 41], [40, 115, 117, 112, 101, 114, 41], [40, 101, 120, 105, 116, 109, 41], [98, 121, 101]]
theorem names_len : names.length = 86 := by decide +kernel
theorem run_names (a : Act) (w : World) : (execOp a.eval (match Try.f45.body with
  | some (.seq _ (.seq (.region _ ops _) _)) => ops[0]!
  | _ => default)).run Try.prog w = .ok (.value (.slice (some ⟨w.heap.size, 0, none⟩) 86 86)) (w.alloc (.cells (names.map nm).toArray 9)) := by kernel_rfl

theorem names_any (w : World) : Calls Try.prog 45 #[] w fun e w' => e = .returned (.slice (some ⟨w.heap.size, 0, none⟩) 86 86) ∧ w.alloc (.cells (names.map nm).toArray 9) = w' := by
  go_enter Try.func45, Try.ntmps45
  go_wp2_with (with_reducible refine wpList_run rfl _ _ (run_names _ _) ?_)
  go_ret
  exact ⟨rfl, rfl⟩
/-- The reference's text: each name, and one byte 32 behind it. -/
def text : List UInt8 := names.flatMap fun l => l ++ [32]
def textB : ByteArray := ⟨text.toArray⟩
theorem run_text (a : Act) (w : World) : (execOp a.eval (match Try.f86.body with
  | some (.seq _ (.seq (.region _ ops _) _)) => ops[0]!
  | _ => default)).run Try.prog w = .ok (.value (.string textB)) w := by kernel_rfl

theorem text_any (w : World) : Calls Try.prog 86 #[] w fun e w' => e = .returned (.string textB) ∧ w = w' := by
  go_enter Try.func86, Try.ntmps86
  go_wp2_with (with_reducible refine wpList_run rfl _ _ (run_text _ _) ?_)
  go_ret
  exact ⟨rfl, rfl⟩

/-- How far the reference has come behind k bytes: where the next name begins, and the names. -/
def st : Nat → Nat × List (List UInt8)
  | 0 => (0, [])
  | k + 1 => if text.getD k 0 = 32 then (k + 1, (st k).2 ++ [(text.take k).drop (st k).1]) else st k
theorem st_all : (st text.length).2 = names := by decide +kernel
theorem text_len : text.length = 401 := by decide +kernel
theorem st_le (k : Nat) : (st k).1 ≤ k := by
  induction k with
  | zero => exact Nat.le_refl _
  | succ k ih =>
    rw [st]; split
    · exact Nat.le_refl _
    · omega
theorem st_len (k : Nat) : (st k).2.length ≤ k := by
  induction k with
  | zero => exact Nat.le_refl _
  | succ k ih =>
    rw [st]; split
    · simp; omega
    · omega

theorem textB_size : textB.size = 401 := text_len
theorem textB_get (k : Nat) (h : k < textB.size) : textB[k] = text.getD k 0 := by
  have h' : k < text.length := h
  rw [List.getD_eq_getElem?_getD, List.getElem?_eq_getElem h']
  rfl
theorem info9 : (Try.prog.info? 9).map (fun i => (i.zero, i.size, i.bytes)) = some (some (.string ⟨#[]⟩), 1, 16) := by kernel_rfl

def RefPost (l : List (List UInt8)) (w : World) (e : Ending) (w' : World) : Prop :=
  ∃ a c, e = .returned (.slice a l.length c) ∧ Own w' 9 1 a l.length c (l.map nm) ∧ (∀ g, blk a = some g → w.heap.size ≤ g) ∧ Keeps (fun _ => False) w w'

set_option maxRecDepth 10000 in
theorem ref_names (w : World) : Calls Try.prog 46 #[] w (RefPost names w) := by
  go_enter Try.func46, Try.ntmps46
  go_wp2_with fail
  refine (text_any _).mono ?_
  rintro e w1 ⟨rfl, rfl⟩
  go_wp2_with fail
  have hs : textB.size = 401 := textB_size
  go_loopw [1, 3, 4] (fun o t i wr => ∃ (k : Nat) (a : Option Addr) (c : Nat), k ≤ 401 ∧ i = .int .i64 k ∧ t = .int .i64 (st k).1 ∧ o = .slice a (st k).2.length c ∧ Own wr 9 1 a (st k).2.length c ((st k).2.map nm) ∧ (∀ g, blk a = some g → w.heap.size ≤ g) ∧ Keeps (fun _ => False) w wr)
    (fun _ _ i _ => 401 - (intOf i).toNat)
  case atStart => exact ⟨0, none, 0, Nat.zero_le _, rfl, rfl, rfl, Own.nil _ _ _, by simp [blk], Keeps.refl _ _⟩
  case round =>
    obtain ⟨k, a, c, hk, rfl, rfl, rfl, ho, hn, hw⟩ := hrel
    have hst := st_le k
    have hsl := st_len k
    by_cases hlt : k < 401
    · have b1 : (k : Int) < 401 := by omega
      have b2 : (0 : Int) ≤ k := by omega
      have hx : Value.string (textB.extract (st k).1 k) = nm ((text.take k).drop (st k).1) := by
        show Value.string _ = Value.string _
        congr 1
        apply ByteArray.ext
        rw [ByteArray.data_extract]
        apply Array.ext'
        simp [textB, List.take_drop]
        congr 2
        omega
      have hget := textB_get k (by omega)
      have HX := Lib.hid hx
      have HG := Lib.hid hget
      clear hx hget
      go_wp2_with (first
        | (at_builtin; refine wpList_app rfl _ _ 98 rfl 9 _ 1 16 Try.underlying98 info9 rfl (by decide) a (st k).2.length c ((st k).2.map nm) rfl (ho.alloc _) ⟨wr.heap.size, 0, none⟩ 1 1 [nm ((text.take k).drop (st k).1)] rfl rfl ?c1 ?c2 ?c3 ?c4 ?_))
      case c1 => rw [← HX.out]; exact cell_one_new _ _ _
      case c2 => intro u hu; simp at hu; subst hu; rfl
      case c3 => unfold maxLen; omega
      case c4 => omega
      · intro a' c' w2 o2 k2 l2
        have ht : (textB[k].toNat : Int) == 32 := by assumption
        have hst1 : st (k + 1) = (k + 1, (st k).2 ++ [(text.take k).drop (st k).1]) := by
          rw [st, if_pos]
          rw [← HG.out]
          apply UInt8.toNat_inj.1
          have h2 : (textB[k].toNat : Int) = 32 := by simpa using ht
          show textB[k].toNat = 32
          omega
        have R : Hid (Own w2 9 1 a' (st (k + 1)).2.length c' ((st (k + 1)).2.map nm) ∧ (∀ g, blk a' = some g → w.heap.size ≤ g) ∧ Keeps (fun _ => False) w w2 ∧ (st (k + 1)).2.length = (st k).2.length + 1 ∧ (st (k + 1)).1 = k + 1) := by
          rw [hst1]
          refine ⟨by simpa using o2, ?_, hw.trans' ((Keeps.alloc _ _ _).trans' k2 (fun i _ e => e)) (fun i hi e => by have := hn i e; omega), by simp, rfl⟩
          intro g hg
          rcases l2 with e | e
          · exact hn g (by rw [← e, hg])
          · rw [e] at hg; simp at hg; have := hw.size; omega
        clear o2 k2 l2 ho hn hw hst1 ht
        go_wp2_with fail
        go_roundw
        case rel => exact ⟨k + 1, a', c', by omega, by go_num, by rw [R.out.2.2.2.2]; go_num, by rw [R.out.2.2.2.1], R.out.1, R.out.2.1, R.out.2.2.1⟩
        case measure => simp [intOf]; omega
      · have ht : ((textB[k].toNat : Int) == 32) = false := by assumption
        have hst1 : st (k + 1) = st k := by
          rw [st, if_neg]
          rw [← HG.out]
          intro e
          have h2 : textB[k].toNat = 32 := congrArg UInt8.toNat e
          rw [h2] at ht
          simp at ht
        have R := Lib.hid hst1
        clear hst1
        go_roundw
        case rel => exact ⟨k + 1, a, c, by omega, by go_num, by rw [R.out], by rw [R.out], by rw [R.out]; exact ho, hn, hw⟩
        case measure => simp [intOf]; omega
    · go_wp2_with fail
      go_ret
      have e : k = text.length := by rw [text_len]; omega
      subst e
      have := st_all
      rw [st_all] at *
      exact ⟨a, c, rfl, ho, hn, hw⟩
/-- The place of a name in a list; its length, if it isn't there. -/
def place (v : List UInt8) : List (List UInt8) → Nat
  | [] => 0
  | x :: l => if v = x then 0 else place v l + 1
theorem place_le (v : List UInt8) (l : List (List UInt8)) : place v l ≤ l.length := by
  induction l with
  | nil => exact Nat.le_refl _
  | cons x l ih =>
    rw [place]
    split
    · simp
    · simp; omega
def idx (v : List UInt8) (l : List (List UInt8)) : Int := if place v l < l.length then place v l else -1

theorem place_hit {v : List UInt8} {l : List (List UInt8)} {k : Nat} (hk : k < l.length) (hno : ∀ j, j < k → (h : j < l.length) → v ≠ l[j]) (e : v = l[k]) : place v l = k := by
  induction l generalizing k with
  | nil => simp at hk
  | cons x l ih =>
    rw [place]
    cases k with
    | zero => rw [if_pos (show v = x from e)]
    | succ k =>
      rw [if_neg (show v ≠ x from hno 0 (by omega) (by simp)), ih (k := k) (by simpa using hk) (fun j hj h => hno (j + 1) (by omega) (by simpa using h)) (by simpa using e)]
theorem place_miss {v : List UInt8} {l : List (List UInt8)} (hno : ∀ j, (h : j < l.length) → v ≠ l[j]) : place v l = l.length := by
  induction l with
  | nil => rfl
  | cons x l ih =>
    rw [place, if_neg (show v ≠ x from hno 0 (by simp)), ih (fun j h => hno (j + 1) (by simpa using h))]
    rfl
theorem idx_hit {v : List UInt8} {l : List (List UInt8)} {k : Nat} (hk : k < l.length) (hno : ∀ j, j < k → (h : j < l.length) → v ≠ l[j]) (e : v = l[k]) : (k : Int) = idx v l := by
  rw [idx, place_hit hk hno e, if_pos hk]
theorem idx_miss {v : List UInt8} {l : List (List UInt8)} (hno : ∀ j, (h : j < l.length) → v ≠ l[j]) : (-1 : Int) = idx v l := by
  rw [idx, place_miss hno, if_neg (by omega)]
theorem ret_idx {a b : Int} (h : a = b) : Ending.returned (.int .i64 a) = .returned (.int .i64 b) := by rw [h]
theorem own_str {w : World} {a : Option Addr} {n c : Nat} {ss : List (List UInt8)} (h : Own w 9 1 a n c (ss.map nm)) (i : Nat) (hi : i < ss.length) :
    ∃ g, a = some ⟨g, 0, none⟩ ∧ w.cell? ⟨g, i, none⟩ = some (nm ss[i]) := by
  have hn : n = ss.length := by have := h.1; simp at this; omega
  obtain ⟨g, rfl⟩ : ∃ g, a = some ⟨g, 0, none⟩ := by
    rcases h.form with ⟨_, h, _⟩ | ⟨g, _, h, _⟩
    · omega
    · exact ⟨_, h⟩
  exact ⟨g, rfl, h.cell (by simp [hi])⟩

set_option maxRecDepth 10000 in
theorem index_any (a : Option Addr) (n c : Nat) (ss : List (List UInt8)) (v : List UInt8) (w : World) (h : Own w 9 1 a n c (ss.map nm)) (hn : n = ss.length) (hl : n ≤ 100000) :
    Calls Try.prog 47 #[.slice a n c, .string ⟨v.toArray⟩] w fun e w' => e = .returned (.int .i64 (idx v ss)) ∧ w = w' := by
  go_enter Try.func47, Try.ntmps47
  go_wp2
  go_loop [8] (fun i => ∃ k : Nat, k ≤ ss.length ∧ i = .int .i64 k ∧ ∀ j, j < k → (h : j < ss.length) → v ≠ ss[j]) (fun i => ss.length - (intOf i).toNat)
  case atStart => exact ⟨0, Nat.zero_le _, rfl, fun j hj => by omega⟩
  case round =>
    obtain ⟨k, hk, rfl, hno⟩ := hrel
    by_cases hlt : k < ss.length
    · obtain ⟨g, rfl, hc⟩ := own_str h k hlt
      have b1 : (k : Int) < n := by omega
      have b2 : (0 : Int) ≤ k := by omega
      have HN := Lib.hid hno
      have Hn := Lib.hid hn
      clear hno hn
      generalize hx : ss[k] = x at hc
      unfold nm at hc
      have HX := Lib.hid hx
      clear hx
      go_wp2
      · have e : v = ss[k] := by
          have : (v == x) = true := by assumption
          rw [HX.out]; simpa using this
        go_ret
        exact ⟨ret_idx (idx_hit hlt HN.out e), rfl⟩
      · have e : v ≠ ss[k] := by
          have : (v == x) = false := by assumption
          rw [HX.out]; simpa using this
        go_round
        case rel =>
          refine ⟨k + 1, by omega, by go_num, fun j hj hjl => ?_⟩
          by_cases hjk : j = k
          · subst hjk; exact e
          · exact HN.out j (by omega) hjl
        case measure => simp [intOf]; omega
    · have b1 : (n : Int) ≤ k := by omega
      have HN := Lib.hid hno
      have Hn := Lib.hid hn
      clear hno hn
      go_wp2
      go_ret
      exact ⟨ret_idx (idx_miss (fun j h => HN.out j (by omega) h)), rfl⟩

set_option maxRecDepth 10000 in
theorem contains_any (a : Option Addr) (n c : Nat) (ss : List (List UInt8)) (v : List UInt8) (w : World) (h : Own w 9 1 a n c (ss.map nm)) (hn : n = ss.length) (hl : n ≤ 100000) :
    Calls Try.prog 48 #[.slice a n c, .string ⟨v.toArray⟩] w fun e w' => e = .returned (.bool (decide (0 ≤ idx v ss))) ∧ w = w' := by
  have HN := Lib.hid hn
  clear hn
  go_enter Try.func48, Try.ntmps48
  go_wp2_with fail
  refine (index_any a n c ss v w h HN.out hl).mono ?_
  rintro e w1 ⟨rfl, rfl⟩
  go_wp2
  go_ret
  exact ⟨rfl, rfl⟩

theorem own_names (w : World) : Own (w.alloc (.cells (names.map nm).toArray 9)) 9 1 (some ⟨w.heap.size, 0, none⟩) 86 86 (names.map nm) := by
  refine ⟨by decide +kernel, .inr ⟨w.heap.size, 86, _, rfl, Nat.zero_le _, halloc_at _ _, Nat.le_refl _, by decide, by decide +kernel, ?_⟩⟩
  have : (names.map nm).length = 86 * 1 := by decide +kernel
  show (names.map nm).take (86 * 1) = names.map nm
  rw [← this]
  exact List.take_length

theorem idx_bd (v : List UInt8) (l : List (List UInt8)) (n : Nat) (hn : l.length = n) : -1 ≤ idx v l ∧ idx v l < n := by
  unfold idx
  split <;> omega

/-- A name's number. -/
def num (v : List UInt8) : Int := idx v names + 1

set_option maxRecDepth 10000 in
theorem number_any (v : List UInt8) (w : World) : Calls Try.prog 15 #[.string ⟨v.toArray⟩] w fun e w' => e = .returned (.int .i64 (num v)) ∧ Keeps (fun _ => False) w w' := by
  have hb := idx_bd v names 86 names_len
  have HF := Lib.hid (show num v = idx v names + 1 from rfl)
  generalize num v = r at HF ⊢
  have hi := fun w => index_any (some ⟨w.heap.size, 0, none⟩) 86 86 names v _ (own_names w) names_len.symm (by omega)
  generalize idx v names = q at hi hb HF
  have HI := Lib.hid hi
  clear hi
  go_enter Try.func15, Try.ntmps15
  go_wp2_with fail
  refine (names_any _).mono ?_
  rintro e w1 ⟨rfl, rfl⟩
  go_wp2_with fail
  refine (HI.out _).mono ?_
  rintro e w1 ⟨rfl, rfl⟩
  go_wp2
  go_ret
  exact ⟨ret_idx HF.out.symm, Keeps.alloc _ _ _⟩
set_option maxRecDepth 10000 in
theorem ref_number (v : List UInt8) (w : World) : Calls Try.prog 16 #[.string ⟨v.toArray⟩] w fun e w' => e = .returned (.int .i64 (num v)) ∧ Keeps (fun _ => False) w w' := by
  go_enter Try.func16, Try.ntmps16
  go_wp2_with fail
  refine (ref_names _).mono ?_
  rintro e w1 ⟨a, c, rfl, ho, _, hk⟩
  have hl := names_len
  have hn : ∃ n, n = names.length := ⟨_, rfl⟩
  obtain ⟨n, hn⟩ := hn
  rw [← hn]
  have Hn := Lib.hid hn
  have hn2 : n ≤ 86 := by omega
  clear hn hl
  go_wp2_with fail
  go_loop [4] (fun i => ∃ k : Nat, k ≤ names.length ∧ i = .int .i64 k ∧ ∀ j, j < k → (h : j < names.length) → v ≠ names[j]) (fun i => names.length - (intOf i).toNat)
  case atStart => exact ⟨0, Nat.zero_le _, rfl, fun j hj => by omega⟩
  case round =>
    obtain ⟨k, hk', rfl, hno⟩ := hrel
    by_cases hlt : k < names.length
    · obtain ⟨g, rfl, hc⟩ := own_str ho k hlt
      have b1 : (k : Int) < n := by rw [Hn.out]; omega
      have b2 : (0 : Int) ≤ k := by omega
      have HN := Lib.hid hno
      clear hno
      generalize hx : names[k] = x at hc
      unfold nm at hc
      have HX := Lib.hid hx
      clear hx
      go_wp2
      · have e : v = names[k] := by
          have : (x == v) = true := by assumption
          rw [HX.out]; simpa using Eq.symm (by simpa using this)
        go_ret
        exact ⟨ret_idx (by rw [num, ← idx_hit hlt HN.out e]), hk⟩
      · have e : v ≠ names[k] := by
          have : (x == v) = false := by assumption
          rw [HX.out]; intro h; subst h; simp at this
        go_round
        case rel =>
          refine ⟨k + 1, by omega, by go_num, fun j hj hjl => ?_⟩
          by_cases hjk : j = k
          · subst hjk; exact e
          · exact HN.out j (by omega) hjl
        case measure => simp [intOf]; omega
    · have b1 : (n : Int) ≤ k := by rw [Hn.out]; omega
      have HN := Lib.hid hno
      clear hno
      go_wp2
      go_ret
      exact ⟨ret_idx (by rw [num, ← idx_miss (fun j h => HN.out j (by omega) h)]; rfl), hk⟩

/-- A number's name. -/
def nameOf (n : Int) : List UInt8 := if 1 ≤ n ∧ n ≤ 86 then names.getD (n - 1).toNat [] else []

set_option maxRecDepth 10000 in
theorem name_any (n : Int) (w : World) : Calls Try.prog 21 #[.int .i64 n] w fun e w' => e = .returned (nm (nameOf n)) ∧ Keeps (fun _ => False) w w' := by
  by_cases h : 1 ≤ n ∧ n ≤ 86
  · have HN : Hid (nameOf n = names.getD (n - 1).toNat []) := by unfold nameOf; rw [if_pos h]; exact rfl
    obtain ⟨h1, h2⟩ := h
    generalize nameOf n = r at HN ⊢
    obtain ⟨k, rfl⟩ : ∃ k : Nat, n = k + 1 := ⟨(n - 1).toNat, by omega⟩
    have hk : k < names.length := by rw [names_len]; omega
    obtain ⟨g, hg, hc⟩ := own_str (own_names w) k hk
    cases hg
    have hr : names[k] = r := by
      rw [HN.out, show ((k : Int) + 1 - 1).toNat = k by omega, List.getD_eq_getElem?_getD, List.getElem?_eq_getElem hk]
      rfl
    rw [hr] at hc
    have HR := Lib.hid hr
    clear hr HN
    unfold nm at hc
    go_enter Try.func21, Try.ntmps21
    go_wp2_with fail
    refine (names_any _).mono ?_
    rintro e w1 ⟨rfl, rfl⟩
    go_wp2
    go_ret
    refine ⟨?_, Keeps.alloc _ _ _⟩
    show Ending.returned (nm names[k]) = _
    rw [HR.out]
  · have HN : Hid (nameOf n = []) := by unfold nameOf; rw [if_neg h]; exact rfl
    rw [HN.out]
    have h : n < 1 ∨ (1 ≤ n ∧ 86 < n) := by omega
    rcases h with h | ⟨h, h2⟩
    all_goals
      go_enter Try.func21, Try.ntmps21
      go_wp2_with fail
      refine (names_any _).mono ?_
      rintro e w1 ⟨rfl, rfl⟩
      go_wp2
      go_ret
      exact ⟨rfl, Keeps.alloc _ _ _⟩



/-- How many cells stand behind a primitive. -/
def inl (v : List UInt8) : Int := if v == [108, 105, 116] then 1 else if v == [98, 114, 97, 110, 99, 104] then 1 else if v == [48, 98, 114, 97, 110, 99, 104] then 1 else if v == [40, 108, 111, 111, 112, 41] then 1 else if v == [40, 43, 108, 111, 111, 112, 41] then 1 else if v == [40, 115, 101, 110, 100, 41] then 1 else if v == [40, 99, 97, 108, 108, 41] then 1 else if v == [40, 115, 117, 112, 101, 114, 41] then 2 else 0
/-- The primitives that are inner, but for those with cells behind. -/
def inner0 : List (List UInt8) := [[101, 120, 105, 116], [40, 100, 111, 41], [40, 99, 97, 117, 103, 104, 116, 41], [40, 101, 120, 105, 116, 109, 41], [105], [106], [117, 110, 108, 111, 111, 112], [62, 114], [114, 62], [114, 64]]
theorem inl_bd (v : List UInt8) : 0 ≤ inl v ∧ inl v ≤ 2 := by
  unfold inl
  repeat' split
  all_goals decide

set_option maxRecDepth 10000 in
theorem inline_any (v : List UInt8) (w : World) : (Calls Try.prog 17 #[.string ⟨v.toArray⟩] w fun e w' => e = .returned (.int .i64 (inl v)) ∧ w = w') := by
  go_enter Try.func17, Try.ntmps17
  go_wp2
  all_goals first
    | (exfalso; simp_all; done)
    | (go_ret; exact ⟨ret_idx (by simp [inl, *]), rfl⟩)
set_option maxRecDepth 10000 in
theorem ref_inline (v : List UInt8) (w : World) : (Calls Try.prog 18 #[.string ⟨v.toArray⟩] w fun e w' => e = .returned (.int .i64 (inl v)) ∧ w = w') := by
  go_enter Try.func18, Try.ntmps18
  go_wp2
  all_goals first
    | (exfalso; simp_all; done)
    | (go_ret; exact ⟨ret_idx (by simp [inl, *]), rfl⟩)
theorem idx_mem (v : List UInt8) (l : List (List UInt8)) : (0 ≤ idx v l) ↔ v ∈ l := by
  have : place v l < l.length ↔ v ∈ l := by
    induction l with
    | nil => simp [place]
    | cons x l ih =>
      rw [place]
      split
      · rename_i h; simp [h]
      · rename_i h; simp [h, ← ih]
  unfold idx
  split
  · rename_i h; simp [this.1 h]
  · rename_i h; simp [mt this.2 h]

/-- Is it inner? -/
def inn (v : List UInt8) : Bool := decide (0 < inl v) || decide (v ∈ inner0)

theorem own_inner (w : World) : Own (w.alloc (.cells (inner0.map nm).toArray 9)) 9 1 (some ⟨w.heap.size, 0, none⟩) 10 10 (inner0.map nm) := by
  refine ⟨by decide +kernel, .inr ⟨w.heap.size, 10, _, rfl, Nat.zero_le _, halloc_at _ _, Nat.le_refl _, by decide, by decide +kernel, ?_⟩⟩
  have : (inner0.map nm).length = 10 * 1 := by decide +kernel
  show (inner0.map nm).take (10 * 1) = inner0.map nm
  rw [← this]
  exact List.take_length

set_option maxRecDepth 10000 in
theorem inner_any (v : List UInt8) (w : World) : (Calls Try.prog 19 #[.string ⟨v.toArray⟩] w fun e w' => e = .returned (.bool (inn v)) ∧ Keeps (fun _ => False) w w') := by
  have hb := inl_bd v
  have hI := fun w => inline_any v w
  have HD : Hid (inn v = (decide (0 < inl v) || decide (v ∈ inner0))) := rfl
  have hm := idx_mem v inner0
  have hC := fun w => contains_any (some ⟨w.heap.size, 0, none⟩) 10 10 inner0 v _ (own_inner w) (by decide +kernel) (by decide)
  generalize inl v = r at hb hI HD
  generalize inn v = q at HD ⊢
  have HI := Lib.hid hI
  have HC := Lib.hid hC
  have HM := Lib.hid hm
  clear hI hC hm
  by_cases hr : 0 < r
  · go_enter Try.func19, Try.ntmps19
    go_wp2_with fail
    refine (HI.out _).mono ?_
    rintro e w1 ⟨rfl, rfl⟩
    go_wp2_with fail
    go_ret
    refine ⟨?_, Keeps.refl _ _⟩
    rw [HD.out]
    simp [hr]
  · have hr' : decide (0 < r) = false := by simpa using hr
    go_enter Try.func19, Try.ntmps19
    go_wp2_with fail
    refine (HI.out _).mono ?_
    rintro e w1 ⟨rfl, rfl⟩
    go_wp2_with fail
    refine (HC.out _).mono ?_
    rintro e w1 ⟨rfl, rfl⟩
    go_wp2_with fail
    go_ret
    refine ⟨?_, Keeps.alloc _ _ _⟩
    rw [HD.out, hr']
    simp [HM.out]

set_option maxRecDepth 10000 in
set_option maxHeartbeats 1000000 in
theorem ref_inner (v : List UInt8) (w : World) : (Calls Try.prog 20 #[.string ⟨v.toArray⟩] w fun e w' => e = .returned (.bool (inn v)) ∧ w = w') := by
  have hI := fun w => ref_inline v w
  have HD : Hid (inn v = (decide (0 < inl v) || decide (v ∈ inner0))) := rfl
  generalize inl v = r at hI HD
  generalize inn v = q at HD ⊢
  have HI := Lib.hid hI
  clear hI
  go_enter Try.func20, Try.ntmps20
  go_wp2_with (go_at_call 18; refine (HI.out _).mono ?_; rintro e w1 ⟨rfl, rfl⟩)
  all_goals first
    | (exfalso; simp_all; done)
    | (go_ret
       refine ⟨?_, rfl⟩
       rw [HD.out]
       simp_all [inner0]
       done)
def Same (w w' : World) : Prop := ∃ n, w' = w.drewN n

set_option maxRecDepth 10000 in
theorem equal_strs (a a' : Option Addr) (n c n' c' : Nat) (ss : List (List UInt8)) (w : World) (h : Own w 9 1 a n c (ss.map nm)) (h' : Own w 9 1 a' n' c' (ss.map nm)) (hn : n = ss.length) (hn' : n' = ss.length) (hl : n ≤ 100000) :
   Calls Try.prog 44 #[.slice a n c, .slice a' n' c'] w fun e w' => e = .returned (.bool true) ∧ Same w w' := by
  obtain rfl : n' = n := by omega
  have hg : ((n' : Int) != n') = false := by simp
  have Hn := Lib.hid hn
  clear hn hn'
  go_enter Try.func44, Try.ntmps44
  go_wp2
  go_loopw [13] (fun i wr => ∃ k : Nat, k ≤ n' ∧ i = .int .i64 k ∧ Same w wr) (fun i _ => n' - (intOf i).toNat)
  case atStart => exact ⟨0, Nat.zero_le _, rfl, 0, rfl⟩
  case round =>
    obtain ⟨k, hk, rfl, n, rfl⟩ := hrel
    by_cases hlt : k < n'
    · obtain ⟨g, rfl, c1⟩ := own_str h k (by rw [← Hn.out]; exact hlt)
      obtain ⟨g', rfl, c2⟩ := own_str h' k (by rw [← Hn.out]; exact hlt)
      generalize ss[k]'(by rw [← Hn.out]; exact hlt) = x at c1 c2
      unfold nm at c1 c2
      have b1 : (k : Int) < n' := by omega
      have b2 : (0 : Int) ≤ k := by omega
      go_wp2
      go_quiet (fail)
      go_wp2
      go_roundw
      case rel => exact ⟨k + 1, by omega, by go_num, _, rfl⟩
      case measure => simp [intOf]; omega
    · go_wp2
      go_ret
      exact ⟨rfl, _, rfl⟩

theorem Same.keeps {w w' : World} (h : Same w w') (S : Nat → Prop) : Keeps S w w' := by obtain ⟨n, rfl⟩ := h; exact Keeps.drewN _ _ _
theorem num_dup : num [100, 117, 112] = 11 := by decide +kernel
theorem num_all : ∀ k : Fin 86, num (names.getD k.1 []) = (k.1 : Int) + 1 := by decide +kernel
theorem num_name (n : Int) (h : 1 ≤ n ∧ n ≤ 86) : num (nameOf n) = n := by
  unfold nameOf
  rw [if_pos h]
  have := num_all ⟨(n - 1).toNat, by omega⟩
  simp only at this
  rw [this]
  omega

set_option maxRecDepth 10000 in
theorem lives_true (w : World) : Calls Try.prog 14 #[] w fun e w' => e = .returned (.bool true) ∧ Keeps (fun _ => False) w w' := by
  go_enter Try.func14, Try.ntmps14
  go_wp2_with fail
  refine (number_any [100, 117, 112] _).mono ?_
  rintro e w1 ⟨rfl, k1⟩
  rw [num_dup]
  go_wp2_with fail
  refine (names_any _).mono ?_
  rintro e w2 ⟨rfl, hw2⟩
  have o2 : Own w2 9 1 (some ⟨w1.heap.size, 0, none⟩) 86 86 (names.map nm) := by rw [← hw2]; exact own_names w1
  have k2 : Keeps (fun _ => False) w w2 := by rw [← hw2]; exact k1.trans (Keeps.alloc _ _ _)
  clear hw2
  go_wp2_with fail
  refine (ref_names _).mono ?_
  rintro e w3 ⟨a, c, rfl, ho, _, k3⟩
  have hn : names.length = 86 := names_len
  rw [hn] at ho ⊢
  have o3 := o2.keeps k3 (fun _ _ h => h)
  have K3 := Lib.hid (k2.trans k3)
  clear k3 k2 k1 hn
  go_wp2_with fail
  refine (equal_strs _ a 86 86 86 c names _ o3 ho names_len.symm names_len.symm (by decide)).mono ?_
  rintro e w4 ⟨rfl, hs⟩
  have K4 := Lib.hid (K3.out.trans (hs.keeps _))
  clear hs K3
  go_wp2_with fail
  refine (names_any _).mono ?_
  rintro e w5 ⟨rfl, hw5⟩
  have K5 : Hid (Keeps (fun _ => False) w w5) := by rw [← hw5]; exact K4.out.trans (Keeps.alloc _ _ _)
  clear hw5 K4
  go_wp2
  go_ret
  exact ⟨rfl, K5.out⟩

def LawPost (W : World) (e : Ending) (w' : World) : Prop := e = .returned (.bool true) ∧ Keeps (fun _ => False) W w'

set_option maxRecDepth 10000 in
theorem law (v : List UInt8) (n : Int) (W : World) : Calls Try.prog 4 #[.string ⟨v.toArray⟩, .int .i64 n] W (LawPost W) := by
  have c1 := fun w => number_any v w
  have c2 := fun w => ref_number v w
  have c3 := fun w => inline_any v w
  have c4 := fun w => ref_inline v w
  have c5 := fun w => inner_any v w
  have c6 := fun w => ref_inner v w
  have bnum := idx_bd v names 86 names_len
  generalize num v = r1 at c1 c2
  generalize inl v = r2 at c3 c4
  generalize inn v = r3 at c5 c6
  have c1 := Lib.hid c1
  have c2 := Lib.hid c2
  have c3 := Lib.hid c3
  have c4 := Lib.hid c4
  have c5 := Lib.hid c5
  have c6 := Lib.hid c6
  clear bnum
  go_enter Try.func4, Try.ntmps4
  go_wp2_with fail
  refine (lives_true _).mono ?_
  rintro e w1 ⟨rfl, k1⟩
  have K1 := Lib.hid k1
  clear k1
  go_wp2_with fail
  refine (c1.out _).mono ?_
  rintro e w2 ⟨rfl, k2⟩
  have K2 := Lib.hid (K1.out.trans k2)
  clear k2
  go_wp2_with fail
  refine (c2.out _).mono ?_
  rintro e w3 ⟨rfl, k3⟩
  have K3 := Lib.hid (K2.out.trans k3)
  clear k3
  go_wp2_with fail
  refine (c3.out _).mono ?_
  rintro e w4 ⟨rfl, rfl⟩
  go_wp2_with fail
  refine (c4.out _).mono ?_
  rintro e w4 ⟨rfl, rfl⟩
  go_wp2_with fail
  refine (c5.out _).mono ?_
  rintro e w4 ⟨rfl, k4⟩
  have K4 := Lib.hid (K3.out.trans k4)
  clear k4
  go_wp2_with fail
  refine (c6.out _).mono ?_
  rintro e w5 ⟨rfl, rfl⟩
  by_cases hn : 1 ≤ n ∧ n ≤ 86
  · have hx := Lib.hid (num_name n hn)
    obtain ⟨h1, h2⟩ := hn
    go_wp2_with fail
    refine (name_any _ _).mono ?_
    rintro e w5 ⟨rfl, k5⟩
    have K5 := Lib.hid (K4.out.trans k5)
    clear k5
    unfold nm
    go_wp2_with fail
    refine (number_any _ _).mono ?_
    rintro e w6 ⟨rfl, k6⟩
    rw [hx.out]
    have K6 := Lib.hid (K5.out.trans k6)
    clear k6
    go_wp2
    go_ret
    exact ⟨by simp, K6.out⟩
  · have hx : Hid (nameOf n = []) := by unfold nameOf; rw [if_neg hn]; exact rfl
    have h : n < 1 ∨ (1 ≤ n ∧ 86 < n) := by omega
    clear hn
    rcases h with h | ⟨h, h2⟩
    all_goals
      go_wp2_with fail
      refine (name_any _ _).mono ?_
      rintro e w5 ⟨rfl, k5⟩
      have K5 := Lib.hid (K4.out.trans k5)
      clear k5
      rw [hx.out]
      unfold nm
      go_wp2
      go_ret
      exact ⟨by rfl, K5.out⟩
end Go.Proofs.Cod
