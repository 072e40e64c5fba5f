/- OuterErrorsCardSaid is proved: behind any texts two ends of a definition leave nothing open, and what is read then does what it does at first; the arguments read as they did. The library's listed variables hold what their text lays (the card ties them). -/
import Derived.Test.YthhfkhhhclmimaaGreatDoorM41
import Derived.Test.YthhfkhhhclmimaaGreatDoorM49
import Derived.Test.YthhfkhhhclmimaaGreatDoorM48
import Derived.Test.YthhfkhhhclmimaaGreatDoorCards
import Derived.Test.YthhfkhhhclmimaaGreatDoorTie
import Derived.OpenShut
import Derived.ChangeOld
import Derived.Deep.Slices
import Derived.Deep.Strs
import Derived.ChangeSame
import Derived.ChangeMaps5
import Derived.SevenTiedAt
set_option linter.unusedVariables false
set_option linter.unusedSimpArgs false
namespace Go.Proofs.YthhfkhhhclmimaaGreatDoor.lawOuterErrors
open Go.ChangeShapes Go.WideShapes Go.ChangeAt Go.RowKit Go.Deep
open Go.Proofs.Shed Go.Proofs.K Go.ChangeMaps
theorem laidOut : laidOutB Tryz.prog = true := by kernel_rfl
theorem list_of {α : Type} (n : Nat) (p : Nat → α → Prop) (h : ∀ i,i < n → ∃ x,p i x) : ∃ l : List α,l.length = n ∧ ∀ i (hi : i < l.length),p i l[i] := by
 induction n with
 | zero => exact ⟨[],rfl,fun i hi => by simp at hi⟩
 | succ n ih =>
  obtain ⟨l,hl,hp⟩ := ih fun i hi => h i (by omega)
  obtain ⟨x,hx⟩ := h n (by omega)
  refine ⟨l ++ [x],by simp [hl],fun i hi => ?_⟩
  by_cases hin : i < l.length
  · rw [List.getElem_append_left hin]; exact hp i hin
  · have : i = n := by simp at hi; omega
    subst this
    rw [List.getElem_append_right (by omega)]
    simpa [hl] using hx
theorem weights_strs {H : Type} (P : Program) (e : TypeId) (l : List Nat) (b : Nat → List UInt8) : DataW.weightsAll P e (l.map fun i => (.lit (.string (b i)) : DataW H)) = l.map fun i => (b i).length := by
 induction l with
 | nil => rfl
 | cons x l ih => rw [List.map_cons,List.map_cons,DataW.weightsAll,ih]; rfl
theorem texts_in {H : Type} {enc : TypeId × Value → H} {W : World} {a : Option Addr} {n c : Nat} {d : DataW H} {p : List MemPlace} (h : DataW.Trod enc Tryz.prog W 0 (fun _ => true) true 30 (.slice a n c) d p) (hw : (d.weights Tryz.prog 30).all (· ≤ reachBytes) = true) :
 ∃ L : List (List UInt8),L.length = n ∧ ArgT W a L ∧ (∀ t ∈ L,t.length ≤ 140737488351232) ∧ n ≤ 4611686018427387904 := by
 obtain ⟨fuel,hf⟩ := h
 rcases open_strs Tryz.underlying30 Tryz.underlying9 (by kernel_rfl) hf with ⟨hcs,_⟩ | ⟨ad,l,c',m,S,hcs,_,hl,hm,hmm,hx,hi⟩
 · simp [Value.cells] at hcs
   obtain ⟨rfl,rfl,rfl⟩ := hcs
   exact ⟨[],rfl,fun i hi => by simp at hi,(fun x hx => by cases hx),Nat.zero_le _⟩
 · simp [Value.cells] at hcs
   obtain ⟨rfl,rfl,rfl⟩ := hcs
   simp only [if_true] at hmm
   subst hmm
   obtain ⟨rfl,rfl⟩ := Prod.mk.inj hx
   have hb : Tryz.prog.bytesOf 9 = 16 := by kernel_rfl
   rw [DataW.weights] at hw
   simp only [Tryz.underlying30,hb,List.all_cons,List.all_append,Bool.and_eq_true,decide_eq_true_eq,List.length_map,List.length_range,weights_strs] at hw
   obtain ⟨hw1,hw2,hw3⟩ := hw
   have hr : reachBytes = 140737488351232 := rfl
   rw [hr] at hw1
   refine ⟨(List.range n).map fun i => (S i).data.toList,by simp,fun i hin => ?_,fun t ht => ?_,by omega⟩
   · have hin : i < n := by simpa using hin
     have c1 := (hi i (by omega)).1
     obtain ⟨b,o,sp⟩ := ad
     have hsp : sp = none := by simpa [Addr.add] using World.cell?_spot (hi 0 (by omega)).1
     subst hsp
     rw [Addr.add_lit] at c1
     refine ⟨b,o,rfl,?_⟩
     rw [c1]
     simp only [List.getElem_map,List.getElem_range]
     first | done | (cases S i; simp)
   · rw [List.mem_map] at ht
     obtain ⟨i,hir,rfl⟩ := ht
     have := List.all_eq_true.1 hw2 _ (List.mem_map.2 ⟨i,hir,rfl⟩)
     rw [hr] at this
     simpa using this
theorem u16_bd {n : Int} (w : (Lit.int .u16 n).wf = true) : 0 ≤ n ∧ n ≤ 65535 := by
 simp only [Lit.wf,Bool.and_eq_true,decide_eq_true_eq] at w
 have e0 : IntKind.u16.min = 0 := rfl
 have e1 : IntKind.u16.max = 65535 := rfl
 rw [e0,e1] at w
 exact w
theorem glo_of {w : World} (h : w.ShapedOpen Tryz.prog) (hl : laidMetH Tryz.prog Rows.outerErrorsRow.laid w) : Glo w := by
 have hl : laidMet Tryz.prog [("math/bits.deBruijn32tab", Rows.laid_math_bits_deBruijn32tab), ("math/bits.deBruijn64tab", Rows.laid_math_bits_deBruijn64tab), ("internal/strconv.uint64pow10", Rows.laid_internal_strconv_uint64pow10)] w := hl
 obtain ⟨v,f,hh⟩ := row_of_shape (g := 3) (t := 147) (zero := #[.nilIface]) h (of_decide_eq_true (by kernel_rfl)) (by kernel_rfl) rfl
 exact ⟨laid_tab hl.tail.tail,glob_most h,lt_of_heap hh⟩
theorem laid_met3 (os : Os) (args : Array Value) : laidMetH Tryz.prog Rows.outerErrorsRow.laid ((laidWorld os).forCall (fun _ _ => 0) ⟨#[],args,[]⟩).memory :=
 show laidMet _ _ _ from laidMet_of_run' 8 (by kernel_rfl) (by kernel_rfl)
theorem walk (W : World) (a : Option Addr) (n c : Nat) (f : Int) (hf : 0 ≤ f ∧ f ≤ 65535) (hg : Glo W) (h1 : ∃ L : List (List UInt8),L.length = n ∧ ArgT W a L ∧ (∀ t ∈ L,t.length ≤ 140737488351232) ∧ n ≤ 4611686018427387904) :
 Calls Tryz.prog 4 #[.slice a n c,.int .u16 f] W fun e w' => e = .returned (.bool true) ∧ Below W.heap.size W w' := by
 obtain ⟨L,rfl,hS,hb,hn⟩ := h1
 exact (errors17 W hg a c L hS hb hn f hf.1 hf.2).mono fun e w' h => ⟨h.1,h.2.below (Nat.le_refl _) (fun _ _ h => h)⟩
set_option maxRecDepth 100000 in
theorem lifted (os : Os) (started : os.Started) (H : Type) (enc : TypeId × Value → H) :
 ReturnsInLeavingWide {} Tryz.checked os 4 .any (fun w args => (Rows.outerErrorsSpec.pre enc Tryz.prog Tryz.f4 [] false w args ∧ laidMetH Tryz.prog Rows.outerErrorsRow.laid w) ∧ sizedMet enc Tryz.prog Tryz.f4 (OpenSpec.ofChange Rows.outerErrorsSpec) false w args)
  (Rows.outerErrorsSpec.post enc Tryz.prog Tryz.f4 false true false false) := by
 refine returnsLeaving_of_change (C := Tryz.checked) (X := fun w _ => laidMetH Tryz.prog Rows.outerErrorsRow.laid w) (fun _ _ _ hh h => h.of_heap hh) own_knob started (by kernel_rfl) Tryz.func4
  (ChangeSpec.witness_at (enc := enc) (C := Tryz.checked) (os := os) (X := fun w _ => laidMetH Tryz.prog Rows.outerErrorsRow.laid w) false (laidWorld os) #[.slice none 0 0,.int .u16 0] 8 rfl (by kernel_rfl) (by kernel_rfl) (by kernel_rfl) (by kernel_rfl) (by kernel_rfl) (laid_met3 os _)) ?_
 intro W base args ds gs before hsh hval0 hW hcnd hsz0 hL
 have hval : ∀ (j : Nat) t v,Tryz.f4.params[j]? = some t → args[j]? = some v → Value.okWide Tryz.prog W .any base t v := hval0
 have hW' := hW
 obtain ⟨p,q,hA0,hV,rfl,hfz,hnd⟩ := hW
 have hA : DataW.TrodAll enc Tryz.prog W 0 (fun _ => true) true Tryz.f4.params.toList args.toList ds p := hA0
 have hsz : (DataW.weightsEach Tryz.prog (Tryz.f4.params.toList ++ []) (ds ++ gs)).all (· ≤ reachBytes) = true := hsz0
 rw [Tryz.params4] at hA hval hsz
 obtain ⟨v0,vs0,d0,ds0,p0,q0,hargs,rfl,rfl,h0,r0⟩ := trodAll_cons hA
 obtain ⟨v1,vs1,d1,ds1,p1,q1,rfl,rfl,rfl,h1,r1⟩ := trodAll_cons r0
 obtain ⟨rfl,rfl,rfl⟩ := trodAll_nil r1
 obtain rfl : args = #[v0,v1] := by cases args; simp_all
 obtain ⟨rfl,rfl⟩ := trodVars_none hV
 obtain ⟨a0,len0,cap0,rfl⟩ := okWide_slice Tryz.underlying30 (hval 0 30 v0 rfl rfl)
 obtain ⟨fu,rfl,rfl,rfl,w1⟩ := open_int Tryz.underlying31 (hval 1 31 v1 rfl rfl) h1
 have k0 := h0
 have lt0 : ∀ x ∈ p0,x.block < W.heap.size := by obtain ⟨m,hm⟩ := k0; exact DataW.trod_lt m _ _ _ hm
 have hw0 : (d0.weights Tryz.prog 30).all (· ≤ reachBytes) = true := by
  have e : DataW.weightsEach Tryz.prog ([30,31] ++ []) ([d0,.lit (.int .u16 fu)] ++ []) = d0.weights Tryz.prog 30 ++ DataW.weightsEach Tryz.prog [31] [(.lit (.int .u16 fu) : DataW H)] := rfl
  have h2 : (d0.weights Tryz.prog 30 ++ DataW.weightsEach Tryz.prog [31] [(.lit (.int .u16 fu) : DataW H)]).all (· ≤ reachBytes) = true := e ▸ hsz
  rw [List.all_append,Bool.and_eq_true] at h2
  exact h2.1
 clear hA0 hval0
 refine (walk W a0 len0 cap0 fu (u16_bd w1) (glo_of hsh hL) (texts_in h0 hw0)).mono fun e W' ⟨he,bel⟩ => ?_
 subst he
 exact ⟨_,rfl,_,_,_,[],_,[],hW',trodAll_mk1 (shut_bool Tryz.underlying4 _),(trodAll_cons_mk (Below.trod laidOut (by kernel_rfl) (of_decide_eq_true (by kernel_rfl)) k0 bel lt0) (trodAll_cons_mk (shut_int Tryz.underlying31 w1) trodAll_mk0)),rfl,bel.frame _,fun h => by cases h⟩
theorem over : Rows.OuterErrorsSaid :=
 OpenClaim.holds_of_wide_leaving 4 Tryz.f4 rfl rfl rfl rfl rfl rfl rfl ⟨rfl,rfl,rfl,rfl,rfl⟩ rfl rfl rfl rfl rfl (by kernel_rfl) Tryz.func4 closed
  (of_decide_eq_true (by kernel_rfl)) (by unfold Func.isWrapper; first | (rw [if_pos (by decide +kernel)]; kernel_rfl) | (rw [if_neg (by decide +kernel)]; exact ⟨rfl,rfl⟩))
  (fun os started H enc _ => lifted os started H enc)
theorem proved : Rows.OuterErrorsCardSaid :=
 holds_tied_goes .later [.data, .data, .data] true (true, "c8d7bac98332eda8b48885b3f91051c3db85ca661fcc5d769a619cd8733455d0") true
  over a8 outerErrors_row_tie rfl ⟨rfl,rfl⟩ (by kernel_rfl) rfl
  (fun f fn hf hfn => by
    obtain rfl : f = 4 := Option.some.inj ((show Tryz.prog.funcNamed "shed/shedlaw17.OuterErrors" = some 4 by kernel_rfl).symm.trans hf) |>.symm
    obtain rfl : fn = Tryz.f4 := (Option.some.inj (Tryz.func4.symm.trans hfn)).symm
    exact ⟨by kernel_rfl,fun j t ht => by
     rw [Tryz.params4] at ht
     have hm : t ∈ [30,31] := by simpa using Array.mem_of_getElem? ht
     have hall : ([30,31].all fun u => !Tryz.prog.wantsStandIn u) = true := by kernel_rfl
     exact (show Tryz.prog.wantsStandIn t = false by simpa using List.all_eq_true.1 hall t hm)⟩)
  a9
#print axioms proved
end Go.Proofs.YthhfkhhhclmimaaGreatDoor.lawOuterErrors
