/- ScriptShowsCardSaid is proved: of any result the program's text is the reference's; the arguments read as they did. The library's listed variables hold what their text lays (the card ties them). -/
import Derived.Test.YthhfkhhhclmimaaGreatDoorMGA
import Derived.Test.YthhfkhhhclmimaaGreatDoorMFactShowG
import Derived.Test.YthhfkhhhclmimaaGreatDoorMWShow
import Derived.Test.YthhfkhhhclmimaaGreatDoorCards
import Derived.Test.YthhfkhhhclmimaaGreatDoorTie
import Derived.OpenShut
import Derived.ChangeOld
import Derived.Deep.Slices
import Derived.ChangeSame
import Derived.ChangeMaps5
import Derived.SevenTiedAt
namespace Go.Proofs.YthhfkhhhclmimaaGreatDoor.lawScriptShows
open Go.ChangeShapes Go.WideShapes Go.ChangeAt Go.RowKit Go.Deep
open Go.Proofs.Shed Go.Proofs.K Go.ChangeMaps
set_option linter.unusedVariables false
theorem laidOut : laidOutB Tryz.prog = true := by kernel_rfl
theorem list_of {α : Type} (n : Nat) (p : Nat → α → Prop) (h : ∀ i, i < n → ∃ x, p i x) : ∃ l : List α, l.length = n ∧ ∀ i (hi : i < l.length), p i l[i] := by
  induction n with
  | zero => exact ⟨[], rfl, fun i hi => by simp at hi⟩
  | succ n ih =>
    obtain ⟨l, hl, hp⟩ := ih fun i hi => h i (by omega)
    obtain ⟨x, hx⟩ := h n (by omega)
    refine ⟨l ++ [x], by simp [hl], fun i hi => ?_⟩
    by_cases hin : i < l.length
    · rw [List.getElem_append_left hin]; exact hp i hin
    · have : i = n := by simp at hi; omega
      subst this
      rw [List.getElem_append_right (by omega)]
      simpa [hl] using hx
theorem i64_bd {n : Int} (w : (Lit.int .i64 n).wf = true) : I64 n := by
  simp only [Lit.wf, Bool.and_eq_true, decide_eq_true_eq] at w
  have e0 : IntKind.i64.min = -9223372036854775808 := rfl
  have e1 : IntKind.i64.max = 9223372036854775807 := rfl
  rw [e0, e1] at w
  exact w
theorem ints_in {H : Type} {enc : TypeId × Value → H} {W : World} {a : Option Addr} {n c : Nat} {d : DataW H} {p : List MemPlace} (h : DataW.Trod enc Tryz.prog W 0 (fun _ => true) true 22 (.slice a n c) d p) :
    ∃ S : List Int, S.length = n ∧ ArgI W a S ∧ (∀ x ∈ S, I64 x) ∧ n ≤ maxLen := by
  obtain ⟨fuel, hf⟩ := h
  rcases open_slice1 Tryz.underlying22 (by kernel_rfl) hf with ⟨hcs, _⟩ | ⟨ad, l, c', m, k, V, D, Pl, hcs, _, hl, hm, hmm, _, hi⟩
  · simp [Value.cells] at hcs
    obtain ⟨rfl, rfl, rfl⟩ := hcs
    exact ⟨[], rfl, fun i hi => by simp at hi, (fun x hx => by cases hx), Nat.zero_le _⟩
  · simp [Value.cells] at hcs
    obtain ⟨rfl, rfl, rfl⟩ := hcs
    simp only [if_true] at hmm
    subst hmm
    obtain ⟨ms, h1, h2⟩ := list_of n (fun i (x : Int) => W.cell? (ad.add i) = some (.int .i64 x) ∧ I64 x) (fun i hin => by
      obtain ⟨c1, t1⟩ := hi i (by omega)
      obtain ⟨x1, e1, _, f1⟩ := DataW.trod_int Tryz.underlying2 t1
      simp at e1
      exact ⟨x1, by rw [c1, e1], i64_bd f1⟩)
    refine ⟨ms, h1, fun i hi => ?_, fun x hx => ?_, Nat.le_trans hl hm⟩
    · obtain ⟨c1, b1⟩ := h2 i hi
      obtain ⟨b, o, sp⟩ := ad
      have hsp : sp = none := by simpa [Addr.add] using World.cell?_spot (h2 0 (by omega)).1
      subst hsp
      rw [Addr.add_lit] at c1
      exact ⟨b, o, rfl, c1⟩
    · obtain ⟨i, hi, rfl⟩ := List.mem_iff_getElem.1 hx
      exact (h2 i hi).2
theorem walk (W : World) (code : Int) (hc : I64 code) (a : Option Addr) (n c : Nat) (s : ByteArray) (hs : s.size ≤ maxLen) (hg : Glob W) (h1 : ∃ S : List Int, S.length = n ∧ ArgI W a S ∧ (∀ x ∈ S, I64 x) ∧ n ≤ maxLen) :
    Calls Tryz.prog 3 #[.int .i64 code, .slice a n c, .string s] W fun e w' => e = .returned (.bool true) ∧ Below W.heap.size W w' := by
  obtain ⟨S, rfl, hS, hb, hn⟩ := h1
  unfold maxLen at hn hs
  have e : s = ⟨s.data.toList.toArray⟩ := by cases s; simp
  rw [e]
  exact (shows_walk W code a c S s.data.toList hg hS hb hc hn (by simpa using hs)).mono fun e w' h => ⟨h.1, h.2.below (Nat.le_refl _) (fun _ _ h => h)⟩
set_option maxRecDepth 100000 in
theorem lifted (os : Os) (started : os.Started) (H : Type) (enc : TypeId × Value → H) :
    ReturnsInLeavingWide {} Tryz.checked os 3 .any (fun w args => (Rows.scriptShowsSpec.pre enc Tryz.prog Tryz.f3 [] false w args ∧ laidMetH Tryz.prog Rows.scriptShowsRow.laid w) ∧ sizedMet enc Tryz.prog Tryz.f3 (OpenSpec.ofChange Rows.scriptShowsSpec) false w args)
      (Rows.scriptShowsSpec.post enc Tryz.prog Tryz.f3 false true false false) := by
  refine returnsLeaving_of_change (C := Tryz.checked) (X := fun w _ => laidMetH Tryz.prog Rows.scriptShowsRow.laid w) (fun _ _ _ hh h => h.of_heap hh) own_knob started (by kernel_rfl) Tryz.func3
    (ChangeSpec.witness_at (enc := enc) (C := Tryz.checked) (os := os) (X := fun w _ => laidMetH Tryz.prog Rows.scriptShowsRow.laid w) false (laidWorld os) #[.int .i64 0, .slice none 0 0, .string ⟨#[]⟩] 8 rfl (by kernel_rfl) (by kernel_rfl) (by kernel_rfl) (by kernel_rfl) (by kernel_rfl) (laid_met5 os _)) ?_
  intro W base args ds gs before hsh hval0 hW hcnd _ hL
  have hval : ∀ (j : Nat) t v, Tryz.f3.params[j]? = some t → args[j]? = some v → Value.okWide Tryz.prog W .any base t v := hval0
  have hW' := hW
  obtain ⟨p, q, hA0, hV, rfl, hfz, hnd⟩ := hW
  have hA : DataW.TrodAll enc Tryz.prog W 0 (fun _ => true) true Tryz.f3.params.toList args.toList ds p := hA0
  rw [Tryz.params3] at hA hval
  obtain ⟨v0, vs0, d0, ds0, p0, q0, hargs, rfl, rfl, h0, r0⟩ := trodAll_cons hA
  obtain ⟨v1, vs1, d1, ds1, p1, q1, rfl, rfl, rfl, h1, r1⟩ := trodAll_cons r0
  obtain ⟨v2, vs2, d2, ds2, p2, q2, rfl, rfl, rfl, h2, r2⟩ := trodAll_cons r1
  obtain ⟨rfl, rfl, rfl⟩ := trodAll_nil r2
  obtain rfl : args = #[v0, v1, v2] := by cases args; simp_all
  obtain ⟨rfl, rfl⟩ := trodVars_none hV
  obtain ⟨code, rfl, rfl, rfl, w0⟩ := open_int Tryz.underlying2 (hval 0 2 v0 rfl rfl) h0
  obtain ⟨a1, len1, cap1, rfl⟩ := okWide_slice Tryz.underlying22 (hval 1 22 v1 rfl rfl)
  have k2 := h2
  obtain ⟨s, rfl, rfl, rfl, w2⟩ := open_string Tryz.underlying9 (hval 2 9 v2 rfl rfl) h2
  have k1 := h1
  have lt1 : ∀ x ∈ p1, x.block < W.heap.size := by obtain ⟨m, hm⟩ := k1; exact DataW.trod_lt m _ _ _ hm
  clear hA0 hval0
  refine (walk W code (i64_bd w0) a1 len1 cap1 s w2 (glob_of hsh hL) (ints_in h1)).mono fun e W' ⟨he, bel⟩ => ?_
  subst he
  exact ⟨_, rfl, _, _, _, [], _, [], hW', trodAll_mk1 (shut_bool Tryz.underlying4 _), (trodAll_cons_mk (shut_int Tryz.underlying2 w0) (trodAll_cons_mk (Below.trod laidOut (by kernel_rfl) (of_decide_eq_true (by kernel_rfl)) k1 bel lt1) (trodAll_cons_mk (shut_string Tryz.underlying9 w2) trodAll_mk0))), rfl, bel.frame _, fun h => by cases h⟩
theorem over : Rows.ScriptShowsSaid :=
  OpenClaim.holds_of_wide_leaving 3 Tryz.f3 rfl rfl rfl rfl rfl rfl rfl ⟨rfl, rfl, rfl, rfl, rfl⟩ rfl rfl rfl rfl rfl (by kernel_rfl) Tryz.func3 closed
    (of_decide_eq_true (by kernel_rfl)) (by unfold Func.isWrapper; first | (rw [if_pos (by decide +kernel)]; kernel_rfl) | (rw [if_neg (by decide +kernel)]; exact ⟨rfl, rfl⟩))
    (fun os started H enc _ => lifted os started H enc)
theorem proved : Rows.ScriptShowsCardSaid :=
  holds_tied_goes .later [.data, .data, .data, .sentinel, .sentinel] true (true, "c8d7bac98332eda8b48885b3f91051c3db85ca661fcc5d769a619cd8733455d0") true
    over a8 scriptShows_row_tie rfl ⟨rfl, rfl⟩ (by kernel_rfl) rfl
    (fun f fn hf hfn => by
      obtain rfl : f = 3 := Option.some.inj ((show Tryz.prog.funcNamed "shed/shedlaw22.ScriptShows" = some 3 by kernel_rfl).symm.trans hf) |>.symm
      obtain rfl : fn = Tryz.f3 := (Option.some.inj (Tryz.func3.symm.trans hfn)).symm
      exact ⟨by kernel_rfl, fun j t ht => by
        rw [Tryz.params3] at ht
        have hm : t ∈ [2, 22, 9] := by simpa using Array.mem_of_getElem? ht
        have hall : ([2, 22, 9].all fun u => !Tryz.prog.wantsStandIn u) = true := by kernel_rfl
        exact (show Tryz.prog.wantsStandIn t = false by simpa using List.all_eq_true.1 hall t hm)⟩)
    a9
#print axioms proved
end Go.Proofs.YthhfkhhhclmimaaGreatDoor.lawScriptShows
