/- From a contract of one goroutine to a row that says 'leaving': whoever starts no goroutine leaves none behind. No condition. What the rows' cell 'laid' gives of the library's variables; a world that meets it. No condition. -/
import Derived.Test.YthhfkhhhclmimaaGreatDoorMSA
import Derived.Conc.Holds
import Derived.ProofKit
import Derived.SizedLaws
import Derived.LoneHanded
import Derived.SevenTiedAt
import Derived.Test.YthhfkhhhclmimaaGreatDoorRows
import Derived.Lib.LaidTab
import Derived.Stop.LaidErr
import Derived.LaidHandle
set_option linter.unusedVariables false
set_option linter.unusedSimpArgs false
namespace Go.Proofs.K
open Go Go.Conc
theorem onlyLeaving_lone (P : Program) (fr : Frame) (w : World) : (lone fr [] w).OnlyLeaving P := ⟨fun g hg => by simp [lone] at hg, rfl⟩
theorem endHearing_lone (P : Program) (fr : Frame) (w : World) (t : Trace) : (lone fr [] w).EndHearing P t := fun i g hg hi => by
  cases i with
  | zero => exact absurd rfl hi
  | succ k => simp [lone] at hg
theorem returnsLeaving_of_calls {a : Assume} {C : Checked} {os : Os} {f : FuncId} {r : Reach} {Pre : World → Array Value → Prop} {Post : World → Array Value → Value → World → Prop}
    (own : ownKnob C.prog.godebug = none) (started : os.Started) (noInit : C.prog.inits.idxOf? f = none)
    (witness : ∃ (w : World) (tape : Tape) (i : Input), w.os = os ∧ (w.forCall tape i).Shaped C.prog ∧ i.vars = [] ∧ Input.okWide C.prog (w.forCall tape i) r w.heap.size f i ∧ Pre (w.forCall tape i).memory i.args ∧
      a.holds C.prog (lone (Frame.enter C.prog f i.args .normal) [] (w.forCall tape i)))
    (contract : ∀ (w : World) (tape : Tape) (i : Input), w.os = os → (w.forCall tape i).ShapedOpen C.prog → i.vars = [] → Input.okWide C.prog (w.forCall tape i) r w.heap.size f i → Pre (w.forCall tape i).memory i.args →
      a.holds C.prog (lone (Frame.enter C.prog f i.args .normal) [] (w.forCall tape i)) →
      Calls C.prog f i.args (w.forCall tape i) fun
        | .returned v, w' => Post (w.forCall tape i).blind i.args v w'.blind
        | _, _ => False) :
    ReturnsInLeavingWide a C os f r Pre Post := fun enter => by
  obtain ⟨w0, t0, i0, a1, a2, a3, a4, a5, a6⟩ := witness
  refine ⟨enter, own, started, ⟨w0, t0, i0, a1, a2, a3, a4, a5, a6, trivial⟩, fun w tape i h => ?_⟩
  obtain ⟨n, v, w', fr, hn, hend, hp⟩ := (contract w tape i h.1 h.2.1 h.2.2.1 h.2.2.2.1 h.2.2.2.2.1 h.2.2.2.2.2.1).done_lone noInit
  exact ⟨n + 1, v, w', hend, (clean_of_lone hn).2, roomy_placeholder .., hp, ⟨n, _, hn, step_of_runs hn hend, handedOver_of_lone hn, onlyLeaving_lone _ _ _, endHearing_lone _ _ _ _⟩, fun _ _ _ => trivial⟩
theorem returnsLeaving_of_change {H : Type} {enc : TypeId × Value → H} {a : Assume} {C : Checked} {os : Os} {f : FuncId} {fn : Func} {s : ChangeSpec} {conds : List PathCond} {apart fresh handsOn again : Bool} {X : World → Array Value → Prop}
    (hX : ∀ (w w' : World) (args : Array Value), w.heap = w'.heap → X w args → X w' args)
    (own : ownKnob C.prog.godebug = none) (started : os.Started) (noInit : C.prog.inits.idxOf? f = none) (hfn : C.prog.funcs[f]? = some fn)
    (witness : ∃ (w : World) (tape : Tape) (i : Input), w.os = os ∧ (w.forCall tape i).Shaped C.prog ∧ i.vars = [] ∧ Input.okWide C.prog (w.forCall tape i) .any w.heap.size f i ∧
      ((s.pre enc C.prog fn conds apart (w.forCall tape i).memory i.args ∧ X (w.forCall tape i).memory i.args) ∧ sizedMet enc C.prog fn (OpenSpec.ofChange s) apart (w.forCall tape i).memory i.args) ∧ a.holds C.prog (lone (Frame.enter C.prog f i.args .normal) [] (w.forCall tape i)))
    (contract : ∀ (W : World) (base : Nat) (args : Array Value) (ds gs : List (DataW H)) (before : List MemPlace), W.ShapedOpen C.prog →
      (∀ (j : Nat) t v, fn.params[j]? = some t → args[j]? = some v → Value.okWide C.prog W .any base t v) →
      DataW.Whole enc C.prog fn.params.toList s.vars apart W args.toList ds gs before →
      conds.all (PathCond.test C.prog ⟨fn.params.toList, ds, s.plain.varTypes C.prog, gs⟩) = true →
      (DataW.weightsEach C.prog (fn.params.toList ++ s.plain.varTypes C.prog) (ds ++ gs)).all (· ≤ reachBytes) = true → X W args →
      Calls C.prog f args W fun e W' => ∃ v, e = .returned v ∧ s.post enc C.prog fn apart fresh handsOn again W args v W') :
    ReturnsInLeavingWide a C os f .any (fun w args => (s.pre enc C.prog fn conds apart w args ∧ X w args) ∧ sizedMet enc C.prog fn (OpenSpec.ofChange s) apart w args) (s.post enc C.prog fn apart fresh handsOn again) := by
  refine returnsLeaving_of_calls own started noInit witness ?_
  intro w tape i _ hsh _ hok hpre hholds
  obtain ⟨_, _, _, fn', hfn', _, _, _, _, hval⟩ := hok
  have e : fn' = fn := Option.some.inj (hfn'.symm.trans hfn)
  subst e
  obtain ⟨⟨⟨ds, gs, before, hw, hc⟩, hx⟩, hz⟩ := hpre
  have hw' := DataW.Whole.of_heap (w' := w.forCall tape i) (by rfl) hw
  refine (contract (w.forCall tape i) w.heap.size i.args ds gs before hsh hval hw' hc (hz.weights hw) (hX _ _ _ (by rfl) hx)).mono fun e W' ⟨v, he, hp⟩ => ?_
  subst he
  exact ChangeSpec.post_blind hp
/-- A tied card of a function whose road comes to a 'go' statement. -/
theorem holds_tied_goes (Lk : Looks) {p : Pinned} {s : OpenSpec} {c : OpenClaim} (kinds : List LaidKind) (tests : Bool) (har : Bool × String) (lk : Bool)
    (hc : c.holds p s) (hw : c.wfByText s = true) (htie : c.laidByTextAt Lk p kinds tests)
    (hst : c.start = .entering) (hnb : c.noBlocks = false ∧ c.again = false) (hm : p.checked.prog.mainIs = some (har.1, har.2.toList)) (hn : (!har.1 && har.2.isEmpty && !lk) = false)
    (hl : ∀ f fn, p.checked.prog.funcNamed c.func = some f → p.checked.prog.funcs[f]? = some fn → lk = p.checked.prog.looks [] ∧ ∀ (j : Nat) t, fn.params[j]? = some t → p.checked.prog.wantsStandIn t = false)
    (hg : true = c.goesBy p.checked.prog) :
    Claim7.holds p (.plain s) { stood := { row := c, standIns := [], harness := har, looks := lk }, kinds := [], alts := [], goes := true, laidByText := true, laidKinds := kinds, laidTests := tests, laidLooks := Lk } := by
  have h6 : Claim7.isSixth { stood := { row := c, standIns := [], harness := har, looks := lk }, kinds := [] } = false := by simpa [Claim7.isSixth] using hn
  exact ⟨Claim7.tied_new_at Lk kinds tests (Claim7.new_of_sixth hc har lk hst hnb hm h6 hl) hw, fun D hD => (by cases hD), htie, (fun h => by cases h), hg⟩
end Go.Proofs.K
set_option linter.unusedVariables false
set_option linter.unusedSimpArgs false
set_option maxRecDepth 10000
namespace Go.Proofs.Shed
open Go Go.RowKit Go.Proofs.K Go.Proofs.YthhfkhhhclmimaaGreatDoor
theorem own_knob : ownKnob Tryz.prog.godebug = none := by kernel_rfl
theorem row_of_shape {w : World} {g : Nat} {t : TypeId} {zero : Array Value} (h : w.ShapedOpen Tryz.prog) (hg : g < Tryz.prog.globals.size) (h0 : ((begin Tryz.prog (fun _ _ => 0) default).world.heap[g]?).bind Obj.row? = some (zero, t)) (hz : zero.size = 1) :
    ∃ v f, w.heap[g]? = some (.cells #[v] t f) := by
  obtain ⟨cs, hh, hs, _⟩ := h.1 g zero t hg h0
  obtain ⟨l⟩ := cs
  match l, (show l.length = 1 by rw [← hz]; exact hs) with
  | [v], _ => exact ⟨v, _, hh⟩
theorem var_row {w : World} {n : String} {g : Nat} {cs : Array Value} (hg : Tryz.prog.globalNamed n = some g) (h : w.var? Tryz.prog n = some cs) : ∃ t f, w.heap[g]? = some (.cells cs t f) := by
  unfold World.var? at h
  rw [hg] at h
  simp only [Option.bind_some] at h
  split at h
  · rename_i hh
    cases h
    exact ⟨_, _, hh⟩
  · cases h
theorem iface_var {w : World} {n nm : String} {g ti : Nat} {d : DataW Unit} {ms : Array (String × TypeId)} {r : List (String × DataW Unit)} (h : laidMet Tryz.prog ((n, .iface nm d) :: r) w) (hg : Tryz.prog.globalNamed n = some g) (ht : (Tryz.prog.globals[g]?).map (·.type) = some ti) (hi : Tryz.prog.underlying ti = some (.interface ms)) :
    ∃ a b t f, w.heap[g]? = some (.cells #[.iface a b] t f) := by
  obtain ⟨ps, ⟨g0, t0, cs0, f0, p0, q0, hg0, ht0, hv0, hd0, _, e0⟩, _, _⟩ := h
  obtain rfl := Option.some.inj (hg.symm.trans hg0)
  obtain rfl := Option.some.inj (ht.symm.trans ht0)
  obtain ⟨l0⟩ := cs0
  obtain ⟨f', u, v, e, _, _⟩ := iface_of_trod hi hd0
  have e : l0 = [.iface u v] := e
  subst e
  obtain ⟨t, f, hh⟩ := var_row hg hv0
  exact ⟨u, v, t, f, hh⟩
theorem glob_most {w : World} (h : w.ShapedOpen Tryz.prog) : ∃ m t f, w.heap[1]? = some (.cells #[.int .i64 m] t f) := by
  obtain ⟨v, f, hh⟩ := row_of_shape (g := 1) (t := 3) (zero := #[.int .i64 0]) h (of_decide_eq_true (by kernel_rfl)) (by kernel_rfl) rfl
  obtain ⟨m, hm⟩ := Go.Proofs.cell_of_shapedOpen_int (g := 1) (t := 3) (zero := #[.int .i64 0]) (k := .i64) h (of_decide_eq_true (by kernel_rfl)) (by kernel_rfl) rfl (by kernel_rfl) (by kernel_rfl) (by kernel_rfl)
  simp only [World.cell?, hh] at hm
  simp at hm
  subst hm
  exact ⟨m, _, _, hh⟩
theorem laid_tab {w : World} {r : List (String × DataW Unit)} (h : laidMet Tryz.prog (("internal/strconv.uint64pow10", Rows.laid_internal_strconv_uint64pow10) :: r) w) : ∃ t f, w.heap[0]? = some (.cells (Lib.pow10Tab.map fun z => Value.int .u64 z).toArray t f) := by
  have ht : Lib.TabIs Tryz.prog w "internal/strconv.uint64pow10" .u64 Lib.pow10Tab := Lib.tabIs_of_head (t := 360) (e := 182) (n := 20) glob_named0 (by kernel_rfl) (by kernel_rfl) (by kernel_rfl) (by kernel_rfl) (by kernel_rfl) h
  exact var_row glob_named0 ht
theorem glob_of {w : World} (h : w.ShapedOpen Tryz.prog) (hl : laidMetH Tryz.prog Rows.scriptShowsRow.laid w) : Glob w := by
  have hl : laidMet Tryz.prog [("math/bits.deBruijn32tab", Rows.laid_math_bits_deBruijn32tab), ("math/bits.deBruijn64tab", Rows.laid_math_bits_deBruijn64tab), ("internal/strconv.uint64pow10", Rows.laid_internal_strconv_uint64pow10), ("strconv.ErrRange", Rows.laid_strconv_ErrRange), ("strconv.ErrSyntax", Rows.laid_strconv_ErrSyntax)] w := hl
  exact ⟨laid_tab hl.tail.tail, glob_most h, iface_var hl.tail.tail.tail.tail (by kernel_rfl) (by kernel_rfl) Tryz.underlying147, iface_var hl.tail.tail.tail (by kernel_rfl) (by kernel_rfl) Tryz.underlying147⟩
def synS : ByteArray := { data := #[105, 110, 118, 97, 108, 105, 100, 32, 115, 121, 110, 116, 97, 120] }
def rngS : ByteArray := { data := #[118, 97, 108, 117, 101, 32, 111, 117, 116, 32, 111, 102, 32, 114, 97, 110, 103, 101] }
noncomputable def low : Nat := (World.holding Tryz.prog default ⟨#[], #[], []⟩).heap.size
def tab32 : Array Value := #[.int .u8 0, .int .u8 1, .int .u8 28, .int .u8 2, .int .u8 29, .int .u8 14, .int .u8 24, .int .u8 3, .int .u8 30, .int .u8 22, .int .u8 20, .int .u8 15, .int .u8 25, .int .u8 17, .int .u8 4, .int .u8 8, .int .u8 31, .int .u8 27, .int .u8 13, .int .u8 23, .int .u8 21, .int .u8 19, .int .u8 16, .int .u8 7, .int .u8 26, .int .u8 12, .int .u8 18, .int .u8 6, .int .u8 11, .int .u8 5, .int .u8 10, .int .u8 9]
def tab64 : Array Value := #[.int .u8 0, .int .u8 1, .int .u8 56, .int .u8 2, .int .u8 57, .int .u8 49, .int .u8 28, .int .u8 3, .int .u8 61, .int .u8 58, .int .u8 42, .int .u8 50, .int .u8 38, .int .u8 29, .int .u8 17, .int .u8 4, .int .u8 62, .int .u8 47, .int .u8 59, .int .u8 36, .int .u8 45, .int .u8 43, .int .u8 51, .int .u8 22, .int .u8 53, .int .u8 39, .int .u8 33, .int .u8 30, .int .u8 24, .int .u8 18, .int .u8 12, .int .u8 5, .int .u8 63, .int .u8 55, .int .u8 48, .int .u8 27, .int .u8 60, .int .u8 41, .int .u8 37, .int .u8 16, .int .u8 46, .int .u8 35, .int .u8 44, .int .u8 21, .int .u8 52, .int .u8 32, .int .u8 23, .int .u8 11, .int .u8 54, .int .u8 26, .int .u8 40, .int .u8 15, .int .u8 34, .int .u8 20, .int .u8 31, .int .u8 10, .int .u8 25, .int .u8 14, .int .u8 19, .int .u8 9, .int .u8 13, .int .u8 8, .int .u8 7, .int .u8 6]
/-- A block's cells are these. -/
def relay (h : Array Obj) (g : Nat) (cs : Array Value) : Array Obj := h.modify g fun
  | .cells _ t frozen => .cells cs t frozen
  | o => o
/-- The settled world, the listed variables holding what their initialisers lay. -/
noncomputable def laidWorld (os : Os) : World :=
  let w0 := World.holding Tryz.prog os ⟨#[.cells #[.string synS] 419, .cells #[.string rngS] 419], #[], []⟩
  { w0 with heap := relay (relay (relay (relay (relay w0.heap 0 (Lib.pow10Tab.map fun z => Value.int .u64 z).toArray) 4 tab32) 5 tab64) 2 #[.iface 417 (.pointer (some ⟨low, 0, none⟩))]) 3 #[.iface 417 (.pointer (some ⟨low + 1, 0, none⟩))] }
theorem laid_met5 (os : Os) (args : Array Value) : laidMetH Tryz.prog Rows.scriptShowsRow.laid ((laidWorld os).forCall (fun _ _ => 0) ⟨#[], args, []⟩).memory :=
  show laidMet _ _ _ from laidMet_of_run' 8 (by kernel_rfl) (by kernel_rfl)
end Go.Proofs.Shed
