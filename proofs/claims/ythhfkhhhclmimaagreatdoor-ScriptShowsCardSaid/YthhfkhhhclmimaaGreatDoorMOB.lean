/- Layer 17: the words that aren't in the dictionary. No condition. Layer 3: the text '1' as a number, with base 10. No condition. -/
import Derived.Test.YthhfkhhhclmimaaGreatDoorMDA
import Derived.Test.YthhfkhhhclmimaaGreatDoorMNA
import Derived.LoopN
set_option linter.unusedVariables false
set_option linter.unusedSimpArgs false
set_option maxRecDepth 10000
set_option maxHeartbeats 4000000
namespace Go.Proofs.Shed
open Go Go.RowKit Go.Proofs.K

/-- What a word of the reader is made of: a function, or one that serves in definitions alone. -/
inductive Wk where
  | plain (f : Nat)
  | only (f : Nat)
  deriving DecidableEq
def GoodW (X : Nat → Prop) (w : World) : Wk → Value → Prop
  | .plain f, v => v = fnV f
  | .only f, v => ∃ a, v = .func (.func 372) #[] #[a] ∧ Box X w a (fnV f)
theorem GoodW.keeps {X : Nat → Prop} {w w' : World} {kd : Wk} {v : Value} (h : GoodW X w kd v) (k : KeepX X w w') : GoodW X w' kd v := by
  cases kd with
  | plain f => exact h
  | only f =>
    obtain ⟨a, rfl, h1⟩ := h
    exact ⟨a, rfl, h1.keeps k⟩
def GoodsW (X : Nat → Prop) (w : World) (K : List UInt8 → Option Wk) (f : List UInt8 → Option Value) : Prop := ∀ s, match K s with
  | none => f s = none
  | some kd => ∃ v, f s = some v ∧ GoodW X w kd v
theorem GoodsW.keeps {X : Nat → Prop} {w w' : World} {K : List UInt8 → Option Wk} {f : List UInt8 → Option Value} (h : GoodsW X w K f) (k : KeepX X w w') : GoodsW X w' K f := by
  intro s
  have hs := h s
  cases hk : K s with
  | none => simp only [hk] at hs ⊢; exact hs
  | some kd =>
    simp only [hk] at hs ⊢
    obtain ⟨v, h1, h2⟩ := hs
    exact ⟨v, h1, h2.keeps k⟩
def wput (K : List UInt8 → Option Wk) (x : List UInt8) (kd : Wk) : List UInt8 → Option Wk := fun y => if y = x then some kd else K y
theorem GoodsW.put {X : Nat → Prop} {w : World} {K : List UInt8 → Option Wk} {f : List UInt8 → Option Value} (h : GoodsW X w K f) (x : List UInt8) {kd : Wk} {v : Value} (g : GoodW X w kd v) : GoodsW X w (wput K x kd) (upd f x v) := by
  intro s
  unfold wput upd
  by_cases e : s = x
  · rw [if_pos e, if_pos e]; exact ⟨v, rfl, g⟩
  · rw [if_neg e, if_neg e]; exact h s
/-- A map of such words, in block b, that w0 did not have. -/
def DictW (w0 w : World) (b n : Nat) (K : List UInt8 → Option Wk) : Prop :=
  ∃ f, MapIs sk w b n f ∧ GoodsW (fun g => w0.heap.size ≤ g) w K f ∧ w0.heap.size ≤ b ∧ Keeps (fun _ => False) w0 w
theorem DictW.made (w : World) : DictW w (w.alloc (.map #[] 0)) w.heap.size 0 (fun _ => none) := ⟨_, MapIs.made sk w, fun _ => rfl, Nat.le_refl _, Keeps.alloc _ _ _⟩
theorem DictW.keeps {w0 w w' : World} {b n : Nat} {K : List UInt8 → Option Wk} (h : DictW w0 w b n K) (k : Keeps (fun _ => False) w w') : DictW w0 w' b n K := by
  obtain ⟨f, h1, h2, h3, h4⟩ := h
  exact ⟨f, h1.keeps k id, h2.keeps (KeepX.of0 k), h3, h4.trans k⟩
theorem DictW.size {w0 w : World} {b n : Nat} {K : List UInt8 → Option Wk} (h : DictW w0 w b n K) : w0.heap.size ≤ w.heap.size := by
  obtain ⟨f, h1, h2, h3, h4⟩ := h
  exact h4.size
theorem wpList_dictW {w0 : World} (w : World) {ops : Array Oper} {rest : List Oper} {o : Oper} {a : Act} {Q : Exit → Act → World → Prop} (hg : o.guard = none) (m x v : Operand) (hop : o.op = Op.mapUpdate 57 m x v ∨ o.op = Op.insert 57 m x v) (b n : Nat) (K : List UInt8 → Option Wk)
    (hm : a.eval m = .map (some b)) (hown : DictW w0 w b n K) (hn : n < 1000) (s : List UInt8) (hs : s.length ≤ 1000) (val : Value) (hx : a.eval x = .string ⟨s.toArray⟩) (hv : a.eval v = val) (kd : Wk) (gd : GoodW (fun g => w0.heap.size ≤ g) w kd val)
    (hK : ∀ w', DictW w0 w' b (n + 1) (wput K s kd) → wpList Tryz.prog ops Q rest (a.put o.dst undef) w') : wpList Tryz.prog ops Q (o :: rest) a w := by
  obtain ⟨f, h1, h2, h3, h4⟩ := hown
  refine wpList_put sk w hg m x v 57 hop _ Tryz.underlying57 b n f hm h1 (by unfold maxLen; omega) s (Nat.le_trans hs (by unfold maxLen; omega)) val hx hv ?_
  intro w' h5 h6
  have hx := KeepX.of (X := fun g => w0.heap.size ≤ g) h6 (fun g _ e => by
    have e : g = b := e
    rw [e]; exact MapIs.noRow h1)
  exact hK w' ⟨_, h5, (h2.keeps hx).put s (gd.keeps hx), h3, h4.trans' h6 (fun i hi e => by
    have e : i = b := e
    omega)⟩
theorem outer_only (w : World) (B : Nat) (hB : B ≤ w.heap.size) (fn : Nat) : Calls Tryz.prog 220 #[.func (.func fn) #[] #[]] w fun e w' => ∃ v, e = .returned v ∧ GoodW (fun g => B ≤ g) w' (.only fn) v ∧ Keeps (fun _ => False) w w' := by
  have hmf := hmf
  have HB := Lib.hid hB
  clear hB
  go_enter Tryz.func220, Tryz.ntmps220
  go_wp2_with fail
  go_ret
  exact ⟨_, rfl, ⟨_, rfl, ⟨w.heap.size, _, rfl, HB.out, halloc_at w _⟩⟩, Keeps.alloc _ _ _⟩
def K_words : List UInt8 → Option Wk := wput (wput (wput (wput (wput (wput (wput (wput (wput (wput (wput (wput (wput (wput (wput (wput (wput (wput (wput (wput (wput (wput (wput (wput (wput (fun _ => none) [58] (.plain 217)) [59] (.plain 218)) [105, 109, 109, 101, 100, 105, 97, 116, 101] (.plain 219)) [114, 101, 99, 117, 114, 115, 101] (.only 221)) [101, 120, 105, 116] (.only 222)) [118, 97, 114, 105, 97, 98, 108, 101] (.plain 223)) [99, 114, 101, 97, 116, 101] (.plain 225)) [99, 111, 110, 115, 116, 97, 110, 116] (.plain 226)) [105, 102] (.only 227)) [101, 108, 115, 101] (.only 229)) [116, 104, 101, 110] (.only 230)) [98, 101, 103, 105, 110] (.only 232)) [97, 103, 97, 105, 110] (.only 234)) [117, 110, 116, 105, 108] (.only 236)) [119, 104, 105, 108, 101] (.only 237)) [114, 101, 112, 101, 97, 116] (.only 238)) [100, 111] (.only 239)) [108, 111, 111, 112] (.only 240)) [43, 108, 111, 111, 112] (.only 241)) [40] (.plain 242)) [92] (.plain 244)) [115, 34] (.plain 245)) [46, 34] (.plain 246)) [99, 104, 97, 114] (.plain 247)) [39] (.plain 248)
def WordsPost (w : World) (e : Ending) (w' : World) : Prop := ∃ b, e = .returned (.map (some b)) ∧ DictW w w' b 25 K_words
theorem outer_words (w : World) : Calls Tryz.prog 142 #[] w (WordsPost w) := by
  have hmm := @run_makeMap Tryz.prog
  have DK := Lib.hid (DictW.made w)
  go_enter Tryz.func142, Tryz.ntmps142
  go_wp2_with (first
    | (refine wpList_dictW _ rfl _ _ _ (.inr rfl) _ 0 _ rfl DK.out (by decide) [58] (by decide) (fnV 217) rfl rfl (.plain 217) rfl ?_; intro w2 dk; replace DK := Lib.hid dk; clear dk)
    | (refine wpList_dictW _ rfl _ _ _ (.inr rfl) _ 1 _ rfl DK.out (by decide) [59] (by decide) (fnV 218) rfl rfl (.plain 218) rfl ?_; intro w2 dk; replace DK := Lib.hid dk; clear dk)
    | (refine wpList_dictW _ rfl _ _ _ (.inr rfl) _ 2 _ rfl DK.out (by decide) [105, 109, 109, 101, 100, 105, 97, 116, 101] (by decide) (fnV 219) rfl rfl (.plain 219) rfl ?_; intro w2 dk; replace DK := Lib.hid dk; clear dk))
  refine (outer_only _ _ DK.out.size 221).mono ?_
  rintro e w1 ⟨v, rfl, gd, kp⟩
  replace DK := Lib.hid (DK.out.keeps kp)
  replace GD := Lib.hid gd
  clear kp gd
  go_wp2_with (first
    | (refine wpList_dictW _ rfl _ _ _ (.inr rfl) _ 3 _ rfl DK.out (by decide) [114, 101, 99, 117, 114, 115, 101] (by decide) v rfl rfl (.only 221) GD.out ?_; intro w2 dk; replace DK := Lib.hid dk; clear dk))
  refine (outer_only _ _ DK.out.size 222).mono ?_
  rintro e w1 ⟨v, rfl, gd, kp⟩
  replace DK := Lib.hid (DK.out.keeps kp)
  replace GD := Lib.hid gd
  clear kp gd
  go_wp2_with (first
    | (refine wpList_dictW _ rfl _ _ _ (.inr rfl) _ 4 _ rfl DK.out (by decide) [101, 120, 105, 116] (by decide) v rfl rfl (.only 222) GD.out ?_; intro w2 dk; replace DK := Lib.hid dk; clear dk)
    | (refine wpList_dictW _ rfl _ _ _ (.inr rfl) _ 5 _ rfl DK.out (by decide) [118, 97, 114, 105, 97, 98, 108, 101] (by decide) (fnV 223) rfl rfl (.plain 223) rfl ?_; intro w2 dk; replace DK := Lib.hid dk; clear dk)
    | (refine wpList_dictW _ rfl _ _ _ (.inr rfl) _ 6 _ rfl DK.out (by decide) [99, 114, 101, 97, 116, 101] (by decide) (fnV 225) rfl rfl (.plain 225) rfl ?_; intro w2 dk; replace DK := Lib.hid dk; clear dk)
    | (refine wpList_dictW _ rfl _ _ _ (.inr rfl) _ 7 _ rfl DK.out (by decide) [99, 111, 110, 115, 116, 97, 110, 116] (by decide) (fnV 226) rfl rfl (.plain 226) rfl ?_; intro w2 dk; replace DK := Lib.hid dk; clear dk))
  refine (outer_only _ _ DK.out.size 227).mono ?_
  rintro e w1 ⟨v, rfl, gd, kp⟩
  replace DK := Lib.hid (DK.out.keeps kp)
  replace GD := Lib.hid gd
  clear kp gd
  go_wp2_with (first
    | (refine wpList_dictW _ rfl _ _ _ (.inr rfl) _ 8 _ rfl DK.out (by decide) [105, 102] (by decide) v rfl rfl (.only 227) GD.out ?_; intro w2 dk; replace DK := Lib.hid dk; clear dk))
  refine (outer_only _ _ DK.out.size 229).mono ?_
  rintro e w1 ⟨v, rfl, gd, kp⟩
  replace DK := Lib.hid (DK.out.keeps kp)
  replace GD := Lib.hid gd
  clear kp gd
  go_wp2_with (first
    | (refine wpList_dictW _ rfl _ _ _ (.inr rfl) _ 9 _ rfl DK.out (by decide) [101, 108, 115, 101] (by decide) v rfl rfl (.only 229) GD.out ?_; intro w2 dk; replace DK := Lib.hid dk; clear dk))
  refine (outer_only _ _ DK.out.size 230).mono ?_
  rintro e w1 ⟨v, rfl, gd, kp⟩
  replace DK := Lib.hid (DK.out.keeps kp)
  replace GD := Lib.hid gd
  clear kp gd
  go_wp2_with (first
    | (refine wpList_dictW _ rfl _ _ _ (.inr rfl) _ 10 _ rfl DK.out (by decide) [116, 104, 101, 110] (by decide) v rfl rfl (.only 230) GD.out ?_; intro w2 dk; replace DK := Lib.hid dk; clear dk))
  refine (outer_only _ _ DK.out.size 232).mono ?_
  rintro e w1 ⟨v, rfl, gd, kp⟩
  replace DK := Lib.hid (DK.out.keeps kp)
  replace GD := Lib.hid gd
  clear kp gd
  go_wp2_with (first
    | (refine wpList_dictW _ rfl _ _ _ (.inr rfl) _ 11 _ rfl DK.out (by decide) [98, 101, 103, 105, 110] (by decide) v rfl rfl (.only 232) GD.out ?_; intro w2 dk; replace DK := Lib.hid dk; clear dk))
  refine (outer_only _ _ DK.out.size 234).mono ?_
  rintro e w1 ⟨v, rfl, gd, kp⟩
  replace DK := Lib.hid (DK.out.keeps kp)
  replace GD := Lib.hid gd
  clear kp gd
  go_wp2_with (first
    | (refine wpList_dictW _ rfl _ _ _ (.inr rfl) _ 12 _ rfl DK.out (by decide) [97, 103, 97, 105, 110] (by decide) v rfl rfl (.only 234) GD.out ?_; intro w2 dk; replace DK := Lib.hid dk; clear dk))
  refine (outer_only _ _ DK.out.size 236).mono ?_
  rintro e w1 ⟨v, rfl, gd, kp⟩
  replace DK := Lib.hid (DK.out.keeps kp)
  replace GD := Lib.hid gd
  clear kp gd
  go_wp2_with (first
    | (refine wpList_dictW _ rfl _ _ _ (.inr rfl) _ 13 _ rfl DK.out (by decide) [117, 110, 116, 105, 108] (by decide) v rfl rfl (.only 236) GD.out ?_; intro w2 dk; replace DK := Lib.hid dk; clear dk))
  refine (outer_only _ _ DK.out.size 237).mono ?_
  rintro e w1 ⟨v, rfl, gd, kp⟩
  replace DK := Lib.hid (DK.out.keeps kp)
  replace GD := Lib.hid gd
  clear kp gd
  go_wp2_with (first
    | (refine wpList_dictW _ rfl _ _ _ (.inr rfl) _ 14 _ rfl DK.out (by decide) [119, 104, 105, 108, 101] (by decide) v rfl rfl (.only 237) GD.out ?_; intro w2 dk; replace DK := Lib.hid dk; clear dk))
  refine (outer_only _ _ DK.out.size 238).mono ?_
  rintro e w1 ⟨v, rfl, gd, kp⟩
  replace DK := Lib.hid (DK.out.keeps kp)
  replace GD := Lib.hid gd
  clear kp gd
  go_wp2_with (first
    | (refine wpList_dictW _ rfl _ _ _ (.inr rfl) _ 15 _ rfl DK.out (by decide) [114, 101, 112, 101, 97, 116] (by decide) v rfl rfl (.only 238) GD.out ?_; intro w2 dk; replace DK := Lib.hid dk; clear dk))
  refine (outer_only _ _ DK.out.size 239).mono ?_
  rintro e w1 ⟨v, rfl, gd, kp⟩
  replace DK := Lib.hid (DK.out.keeps kp)
  replace GD := Lib.hid gd
  clear kp gd
  go_wp2_with (first
    | (refine wpList_dictW _ rfl _ _ _ (.inr rfl) _ 16 _ rfl DK.out (by decide) [100, 111] (by decide) v rfl rfl (.only 239) GD.out ?_; intro w2 dk; replace DK := Lib.hid dk; clear dk))
  refine (outer_only _ _ DK.out.size 240).mono ?_
  rintro e w1 ⟨v, rfl, gd, kp⟩
  replace DK := Lib.hid (DK.out.keeps kp)
  replace GD := Lib.hid gd
  clear kp gd
  go_wp2_with (first
    | (refine wpList_dictW _ rfl _ _ _ (.inr rfl) _ 17 _ rfl DK.out (by decide) [108, 111, 111, 112] (by decide) v rfl rfl (.only 240) GD.out ?_; intro w2 dk; replace DK := Lib.hid dk; clear dk))
  refine (outer_only _ _ DK.out.size 241).mono ?_
  rintro e w1 ⟨v, rfl, gd, kp⟩
  replace DK := Lib.hid (DK.out.keeps kp)
  replace GD := Lib.hid gd
  clear kp gd
  go_wp2_with (first
    | (refine wpList_dictW _ rfl _ _ _ (.inr rfl) _ 18 _ rfl DK.out (by decide) [43, 108, 111, 111, 112] (by decide) v rfl rfl (.only 241) GD.out ?_; intro w2 dk; replace DK := Lib.hid dk; clear dk)
    | (refine wpList_dictW _ rfl _ _ _ (.inr rfl) _ 19 _ rfl DK.out (by decide) [40] (by decide) (fnV 242) rfl rfl (.plain 242) rfl ?_; intro w2 dk; replace DK := Lib.hid dk; clear dk)
    | (refine wpList_dictW _ rfl _ _ _ (.inr rfl) _ 20 _ rfl DK.out (by decide) [92] (by decide) (fnV 244) rfl rfl (.plain 244) rfl ?_; intro w2 dk; replace DK := Lib.hid dk; clear dk)
    | (refine wpList_dictW _ rfl _ _ _ (.inr rfl) _ 21 _ rfl DK.out (by decide) [115, 34] (by decide) (fnV 245) rfl rfl (.plain 245) rfl ?_; intro w2 dk; replace DK := Lib.hid dk; clear dk)
    | (refine wpList_dictW _ rfl _ _ _ (.inr rfl) _ 22 _ rfl DK.out (by decide) [46, 34] (by decide) (fnV 246) rfl rfl (.plain 246) rfl ?_; intro w2 dk; replace DK := Lib.hid dk; clear dk)
    | (refine wpList_dictW _ rfl _ _ _ (.inr rfl) _ 23 _ rfl DK.out (by decide) [99, 104, 97, 114] (by decide) (fnV 247) rfl rfl (.plain 247) rfl ?_; intro w2 dk; replace DK := Lib.hid dk; clear dk)
    | (refine wpList_dictW _ rfl _ _ _ (.inr rfl) _ 24 _ rfl DK.out (by decide) [39] (by decide) (fnV 248) rfl rfl (.plain 248) rfl ?_; intro w2 dk; replace DK := Lib.hid dk; clear dk))
  go_ret
  exact ⟨_, rfl, DK.out⟩
end Go.Proofs.Shed
set_option linter.unusedVariables false
set_option linter.unusedSimpArgs false
set_option maxRecDepth 10000
set_option maxHeartbeats 4000000
namespace Go.Proofs.Shed
open Go Go.RowKit Go.Proofs.K
theorem num_digit_one (w : World) : Calls Tryz.prog 380 #[.int .u8 49] w fun e w' => e = .returned (.int .i64 1) ∧ w = w' := by
  go_enter Tryz.func380, Tryz.ntmps380
  go_wp2_with fail
  go_ret
  exact ⟨rfl, rfl⟩
theorem num_prefix_one (w : World) : Calls Tryz.prog 251 #[.int .u8 49] w fun e w' => e = .returned (.int .i64 0) ∧ w = w' := by
  go_enter Tryz.func251, Tryz.ntmps251
  go_wp2_with fail
  go_ret
  exact ⟨rfl, rfl⟩
theorem num_figures_one (w : World) : Calls Tryz.prog 252 #[.string ⟨#[49]⟩, .int .i64 10] w fun e w' => e = .returned (.tuple #[.int .u64 1, .bool true]) ∧ Keeps (fun _ => False) w w' := by
  go_enter Tryz.func252, Tryz.ntmps252
  go_wp2_with fail
  refine wp_loop_rounds 2 ?_
  rw [rounds_succ]
  go_wp2_with fail
  refine (num_digit_one _).mono ?_
  rintro e w1 ⟨rfl, rfl⟩
  go_wp2_with fail
  rw [rounds_succ]
  go_wp2_with fail
  go_ret2
  exact ⟨rfl, Keeps.refl _ _⟩
theorem num_parse_one (w : World) : Calls Tryz.prog 144 #[.string ⟨#[49]⟩, .int .i64 10] w fun e w' => e = .returned (.tuple #[.int .i64 1, .bool true]) ∧ Keeps (fun _ => False) w w' := by
  go_enter Tryz.func144, Tryz.ntmps144
  go_wp2_with (first
    | (refine (num_prefix_one _).mono ?_; rintro e w1 ⟨rfl, rfl⟩)
    | (refine (num_right _ 10).mono ?_; rintro e w1 ⟨rfl, rfl⟩)
    | (refine (num_figures_one _).mono ?_; rintro e w1 ⟨rfl, k1⟩))
  go_ret2
  exact ⟨rfl, k1⟩
end Go.Proofs.Shed
