/- The statements' world of classes: Make, of no parent. Conditions: the world lies in blocks of its own. -/
import Derived.Test.YthhfkhhhclmimaaWWorld
import Derived.Test.YthhfkhhhclmimaaWA
import Derived.Test.YthhfkhhhclmimaaPB
import Derived.Deep.RegionHeld3
set_option linter.unusedVariables false
set_option linter.unusedSimpArgs false
set_option maxRecDepth 10000
set_option maxHeartbeats 4000000
namespace Go.Proofs.Shed
open Go Go.RowKit Go.Proofs.K

/-- Blocks that are none of a world's own. -/
def Out (X : Nat → Prop) (wb s b bb : Nat) (aA : Option Addr) (g : Nat) : Prop := X g ∧ g ≠ wb ∧ g ≠ s ∧ g ≠ b ∧ g ≠ bb ∧ blk aA ≠ some g
/-- A statement's world: a struct at the head of block wb, its space, its memory, its classes' places, the classes as the document has them. -/
structure RWorld (X : Nat → Prop) (w : World) (wb s b bb : Nat) (x : Sp) (r : Int) (A : List Int) (L : List RCls) (aA : Option Addr) (cA : Nat) (aL : Option Addr) (cL : Nat) : Prop where
  head : w.heap[wb]? = some (.cells #[.pointer (some ⟨b, 0, none⟩), .pointer (some ⟨s, 0, none⟩), .int .i64 r, .slice aA A.length cA, .slice aL L.length cL] 49 (0, 0))
  sp : RSp w s b bb x
  own : Own w 2 1 aA A.length cA (A.map (Value.int .i64))
  ref : RefL (Out X wb s b bb aA) w aL L.length cL L
  low : X wb ∧ X s ∧ X b ∧ X bb
  ne : wb ≠ s ∧ wb ≠ b ∧ wb ≠ bb
  at_ : ∀ g, blk aA = some g → X g ∧ g ≠ wb ∧ g ≠ s ∧ g ≠ b ∧ g ≠ bb
theorem OwnAt.mono {N M : Nat → Prop} {w : World} {a : Option Addr} {n c : Nat} {L : List (Int × Int)} (h : OwnAt N w a n c L) (hN : ∀ g, g < w.heap.size → N g → M g) : OwnAt M w a n c L :=
  ⟨h.1, h.2.1, fun g hg => ⟨hN g (h.2.2.1 g hg).2 (h.2.2.1 g hg).1, (h.2.2.1 g hg).2⟩, h.2.2.2⟩
theorem RefL.mono {N M : Nat → Prop} {w : World} {a : Option Addr} {n c : Nat} {L : List RCls} (h : RefL N w a n c L) (hN : ∀ g, g < w.heap.size → N g → M g) : RefL M w a n c L := by
  obtain ⟨h1, V, hV⟩ := h
  exact ⟨h1, V, hV.own, fun g hg => hN g (hV.own.lt hg) (hV.home g hg), hV.len, fun i h1 h2 => by
    obtain ⟨e1, e2, e3, e4⟩ := hV.is i h1 h2
    exact ⟨e1, e2, e3, e4.mono hN⟩, hV.apart⟩

theorem RSp.lts {w : World} {s b bb : Nat} {x : Sp} (h : RSp w s b bb x) : s < w.heap.size ∧ b < w.heap.size ∧ bb < w.heap.size := ⟨lt_of_heap h.head, h.mem.lt.1, h.mem.lt.2⟩
theorem Own.lt' {w : World} {e : TypeId} {size : Nat} {a : Option Addr} {n c : Nat} {xs : List Value} (h : Own w e size a n c xs) : ∀ g, blk a = some g → g < w.heap.size := fun _ hg => h.lt hg

/-- The space alone is another one. -/
theorem RWorld.space {X : Nat → Prop} {w w' : World} {wb s b bb : Nat} {x y : Sp} {r : Int} {A : List Int} {L : List RCls} {aA : Option Addr} {cA : Nat} {aL : Option Addr} {cL : Nat} (h : RWorld X w wb s b bb x r A L aA cA aL cL) (hy : RSp w' s b bb y) (k : Keeps (fun j => j = s ∨ j = bb) w w') : RWorld X w' wb s b bb y r A L aA cA aL cL :=
  ⟨k.heap h.head (by have := h.ne; omega), hy, h.own.keeps k (fun g hg => by have := (h.at_ g hg).2; omega), h.ref.keeps k (fun g hg => by have := hg.2; omega), h.low, h.ne, h.at_⟩
theorem RWorld.keeps9 {X : Nat → Prop} {w w' : World} {wb s b bb : Nat} {x : Sp} {r : Int} {A : List Int} {L : List RCls} {aA : Option Addr} {cA : Nat} {aL : Option Addr} {cL : Nat} (h : RWorld X w wb s b bb x r A L aA cA aL cL) (k : Keeps (fun _ => False) w w') : RWorld X w' wb s b bb x r A L aA cA aL cL := h.space (h.sp.keeps k id id id) (k.mono (fun _ _ => False.elim))
theorem RWorld.drew {X : Nat → Prop} {w : World} {wb s b bb : Nat} {x : Sp} {r : Int} {A : List Int} {L : List RCls} {aA : Option Addr} {cA : Nat} {aL : Option Addr} {cL : Nat} (h : RWorld X w wb s b bb x r A L aA cA aL cL) : RWorld X w.drew wb s b bb x r A L aA cA aL cL := h.space h.sp.drew (Keeps.drew _ _)
section
variable {X : Nat → Prop} {w V : World} {wb s b bb : Nat} {x : Sp} {r : Int} {A : List Int} {L : List RCls} {aA : Option Addr} {cA : Nat} {aL : Option Addr} {cL : Nat}
theorem RWorld.forNew (h : RWorld X w wb s b bb x r A L aA cA aL cL) (k : Keeps (fun j => blk aA = some j) w V) {a4 : Option Addr} {n c q : Nat} {xs : List Value} (o : Own V 2 1 a4 n c xs) (l : blk a4 = blk aA ∨ blk a4 = some q) (hq : w.heap.size ≤ q) (hX : ∀ g, w.heap.size ≤ g → X g) :
    RefL (Out X wb s b bb a4) V aL L.length cL L ∧ ∀ g, V.heap.size ≤ g → Out X wb s b bb a4 g := by
  have h2 := h.sp.lts
  have h3 := lt_of_heap h.head
  have h4 := fun g e => Own.lt o (g := g) e
  have h5 := k.size
  have hM : RefL (fun g => Out X wb s b bb a4 g ∧ blk aA ≠ some g) w aL L.length cL L := h.ref.mono fun g hg hN => ⟨⟨hN.1, hN.2.1, hN.2.2.1, hN.2.2.2.1, hN.2.2.2.2.1, fun e => by
    rcases l with e' | e'
    · exact hN.2.2.2.2.2 (e' ▸ e)
    · rw [e'] at e
      cases e
      omega⟩, hN.2.2.2.2.2⟩
  refine ⟨(hM.keeps k (fun g hg => hg.2)).mono fun g _ hg => hg.1, fun g hg => ⟨hX g (by omega), by omega, by omega, by omega, by omega, fun e => ?_⟩⟩
  have := h4 g e
  omega
theorem RWorld.more (h : RWorld X w wb s b bb x r A L aA cA aL cL) (K : Keeps (fun j => blk aA = some j) w V) {a4 a5 : Option Addr} {c4 c5 q : Nat} {a : Int} {L' : List RCls} (o : Own V 2 1 a4 (A.length + 1) c4 (A.map (Value.int .i64) ++ [.int .i64 a]))
    (l : blk a4 = blk aA ∨ blk a4 = some q) (hq : w.heap.size ≤ q) (hX : ∀ g, w.heap.size ≤ g → X g) (hr : RefL (Out X wb s b bb a4) V a5 L'.length c5 L') :
    RWorld X ((V.setCell ⟨wb, 3, none⟩ (.slice a4 (A.length + 1) c4)).setCell ⟨wb, 4, none⟩ (.slice a5 L'.length c5)) wb s b bb x r (A ++ [a]) L' a4 c4 a5 c5 ∧
      Keeps X w ((V.setCell ⟨wb, 3, none⟩ (.slice a4 (A.length + 1) c4)).setCell ⟨wb, 4, none⟩ (.slice a5 L'.length c5)) := by
  have h1 := h.low
  have h2 := h.sp.lts
  have h3 := lt_of_heap h.head
  have hNA : ¬ blk aA = some wb := fun e => (h.at_ wb e).2.1 rfl
  have hat : ∀ g, blk a4 = some g → X g ∧ g ≠ wb ∧ g ≠ s ∧ g ≠ b ∧ g ≠ bb := by
    intro g hg
    rcases l with e | e
    · exact h.at_ g (e ▸ hg)
    · rw [e] at hg
      cases hg
      exact ⟨hX q hq, by omega, by omega, by omega, by omega⟩
  have KS : Keeps (fun j => j = wb) V ((V.setCell ⟨wb, 3, none⟩ (.slice a4 (A.length + 1) c4)).setCell ⟨wb, 4, none⟩ (.slice a5 L'.length c5)) := by
    refine Keeps.set ?_ _ _ ?_
    refine Keeps.set ?_ _ _ ?_
    exact Keeps.refl _ _
    all_goals rfl
  have hh := K.heap h.head hNA
  have hh3 := hset_same (i := 3) hh (.slice a4 (A.length + 1) c4)
  have hh4 := hset_same (i := 4) hh3 (.slice a5 L'.length c5)
  have hne := h.ne
  refine ⟨⟨?_, ?_, ?_, ?_, h1, hne, hat⟩, ?_⟩
  · rw [List.length_append]
    exact hh4
  · exact (h.sp.keeps K (fun e => (h.at_ s e).2.2.1 rfl) (fun e => (h.at_ b e).2.2.2.1 rfl) (fun e => (h.at_ bb e).2.2.2.2 rfl)).keeps KS (by omega) (by omega) (by omega)
  · rw [List.length_append, List.map_append]
    exact Own.keeps o KS (fun g hg e => (hat g hg).2.1 e)
  · exact hr.keeps KS (fun g hg e => hg.2.1 e)
  · exact (K.mono (fun g _ e => (h.at_ g e).1)).trans (KS.mono (fun g _ e => e ▸ h1.1))
end
/-- What becomes of a statement's world in which one class more was made. -/
def MakePost (X : Nat → Prop) (wb s b bb : Nat) (y : Sp) (r : Int) (A : List Int) (L : List RCls) (ok : Bool) (w : World) (e : Ending) (w' : World) : Prop :=
  e = .returned (.bool ok) ∧ (∃ aA cA aL cL, RWorld X w' wb s b bb y r A L aA cA aL cL) ∧ Keeps X w w'

end Go.Proofs.Shed

set_option maxRecDepth 10000
set_option maxHeartbeats 8000000
namespace Go.Proofs.Shed
open Go Go.RowKit Go.Proofs.K


theorem world_make_no (X : Nat → Prop) (w : World) (wb s b bb : Nat) (x y : Sp) (r : Int) (A : List Int) (L : List RCls) (aA : Option Addr) (cA : Nat) (aL : Option Addr) (cL : Nat) (h : RWorld X w wb s b bb x r A L aA cA aL cL)
    (hX : ∀ g, w.heap.size ≤ g → X g) (p slots : Int) (_p0 : 0 ≤ p) (a : Int) (hp : A.length ≤ p)
    (hA : A.length ≤ 100000) (hL : A.length = L.length) (e : Class.new x r 0 slots = (y, a, 0)) :
    Calls Try.prog 24 #[.pointer (some ⟨wb, 0, none⟩), .int .i64 p, .int .i64 slots] w (MakePost X wb s b bb y r (A ++ [a]) (Ref.new L (-1) slots) (Class.is y.mem r a && decide (x.here < a)) w) := by
  have hN := Lib.hid (class_new w.drew s b bb x r 0 slots h.sp.drew (by omega) (by omega))
  rw [e] at hN
  have H := Lib.hid h
  have c0 := cell_of (i := 0) h.head rfl
  have c1 := cell_of (i := 1) h.head rfl
  have c2 := cell_of (i := 2) h.head rfl
  have c3 := cell_of (i := 3) h.head rfl
  have d1 : w.drew.cell? ⟨wb, 1, none⟩ = some (.pointer (some ⟨s, 0, none⟩)) := c1
  have d2 : w.drew.cell? ⟨wb, 2, none⟩ = some (.int .i64 r) := c2
  have HL := Lib.hid hL
  have HX := Lib.hid hX
  have HS := Lib.hid h.sp
  have NE := Lib.hid (show ¬ (wb = s ∨ wb = bb) by have := h.ne; omega)
  have hIs := fun w (h : RMem w b bb y.mem) => class_is w b bb y.mem r a h
  generalize Class.is y.mem r a = ok at hIs ⊢
  have HIs := Lib.hid hIs
  clear h e hL hIs hX
  have hpn : ¬ p < A.length := by omega
  go_enter Try.func24, Try.ntmps24
  go_wp2_with fail
  refine (sp_here _ _ _ _ _ HS.out).mono ?_
  rintro e w1 ⟨rfl, rfl⟩
  go_wp2_with fail
  go_region_held3 (fun w' => w'.cell? ⟨wb, 1, none⟩ = some (.pointer (some ⟨s, 0, none⟩)) ∧ w'.cell? ⟨wb, 2, none⟩ = some (.int .i64 r)) (first | go_keep | exact ⟨k2.cell d1 NE.out, k2.cell d2 NE.out⟩)
    ((go_at_call 50; refine hN.out.mono ?_; rintro e w2 ⟨rfl, s2, k2⟩))
  have R2 := Lib.hid (H.out.drew.space s2 k2)
  have K2 := Lib.hid (((Keeps.drew _ w).trans k2).mono (T := X) (fun g _ e => by rcases e with rfl | rfl; exact H.out.low.2.1; exact H.out.low.2.2.2))
  have HX2 : Hid (∀ g, w2.heap.size ≤ g → X g) := fun g hg => HX.out g (by have := K2.out.size; omega)
  have e3 := cell_of (i := 3) R2.out.head rfl
  have e4 := cell_of (i := 4) R2.out.head rfl
  have f3 := free_of (i := 3) R2.out.head
  have f4 := free_of (i := 4) R2.out.head
  have hlt := lt_of_heap R2.out.head
  have NA : Hid (¬ blk aA = some wb) := fun e => (R2.out.at_ wb e).2.1 rfl
  have hlen : L.length ≤ 1000000 := by have := HL.out; omega
  clear s2 k2 c0 c1 c2 c3 d1 d2 hN NE
  have hk0 : -1 ≤ ((-1) : Int) := by omega
  have hk1 : ((-1) : Int) < L.length := by have := HL.out; omega
  have k0 : Keeps (fun _ => False) w2 w2.drew := Keeps.drew _ _
  have k1 : Keeps (fun _ => False) w2 (w2.drew.alloc (.cells #[.int .i64 a] 2)) := (Keeps.drew _ _).trans (Keeps.alloc _ _ _)
  have m0 : Keeps (fun j => blk aA = some j) w2 w2.drew := Keeps.drew _ _
  have m1 : Keeps (fun j => blk aA = some j) w2 (w2.drew.alloc (.cells #[.int .i64 a] 2)) := (Keeps.drew _ _).trans (Keeps.alloc _ _ _)
  have A1 := R2.out.own.keeps k1 (fun _ _ => id)
  have I1 := int_news w2.drew a
  have g3 := k1.cell e3 id
  have g4 := k1.cell e4 id
  clear k0 m0
  go_wp2_with fail
  go_region_law (first
      | (refine step_app rfl (.tmp 84) (.tmp 86) 46 rfl 2 _ 1 8 Try.underlying46 infoInt rfl (by decide) aA A.length cA (A.map (Value.int .i64)) rfl A1 ⟨_, 0, none⟩ 1 1 [.int .i64 a] rfl rfl I1 (int_one a) (by unfold maxLen; omega) (by omega) ?_
         intro a4 c4 w4 o4 k4 l4
         have K4 := Lib.hid (m1.trans k4)
         have O4 := Lib.hid o4
         have L4 := Lib.hid l4
         have n4 := Lib.hid (R2.out.forNew K4.out o4 l4 (by simp) HX2.out)
         have x4 := K4.out.cell e4 NA.out
         clear o4 k4 l4)
      | (go_simp
         go_at_call 51
         refine (ref_new (Out X wb s b bb a4) w4 aL L.length cL L (-1) slots n4.out.1 n4.out.2 hk0 hk1 hlen).mono ?_
         rintro e5 w5 ⟨a5, c5, rfl, r5, k5⟩
         have K5 := Lib.hid (K4.out.trans (k5.mono (fun _ _ => False.elim)))
         have O5 := Lib.hid (O4.out.keeps k5 (fun _ _ => id))
         have R5 := Lib.hid r5
         have RM := Lib.hid (R2.out.more K5.out O5.out L4.out (by simp) HX2.out R5.out)
         have z3 := K5.out.frozen f3 hlt NA.out
         have z4 := K5.out.frozen f4 hlt NA.out
         have y3 := K5.out.cell e3 NA.out
         have y4 := K5.out.cell e4 NA.out
         clear r5 k5))
  all_goals
    generalize (w5.setCell ⟨wb, 3, none⟩ (.slice a4 (A.length + 1) c4)).setCell ⟨wb, 4, none⟩ (.slice a5 (Ref.new L (-1) slots).length c5) = w9 at RM ⊢
    have g0 := fun (i : Stay w9) => i.2.cell (cell_of (i := 0) RM.out.1.head rfl) id
    have g2 := fun (i : Stay w9) => i.2.cell (cell_of (i := 2) RM.out.1.head rfl) id
    have hIs := Lib.hid fun (i : Stay w9) => HIs.out i.1 (RM.out.1.sp.mem.keeps i.2 id id)
    cases ok with
    | true =>
      go_wp2_with fail
      refine Go.Proofs.K.wp_region_calm ?calm1a ?calm1b ?_
      case calm1a => kernel_rfl
      case calm1b => kernel_rfl
      repeat ((with_reducible refine wpQuiet_step ?_); intro Kq hKq; go_simp; first | ((with_reducible refine hKq _ ?_); clear hKq Kq) | (refine hKq _ ?_; clear hKq Kq) | (apply Exists.intro; refine ⟨fun _ => ?_, hKq _ ?_⟩; (exact K.calm_of (hIs.out _)); clear hKq Kq))
      with_reducible refine wpQuiet_nil ?_
      intro _ hw'
      obtain ⟨⟨wq, kq⟩, hw''⟩ := hw'
      subst hw''
      go_wp2_with fail
      go_ret
      exact ⟨by simp, ⟨_, _, _, _, RM.out.1.keeps9 kq⟩, (K2.out.trans RM.out.2).trans (kq.mono (fun _ _ => False.elim))⟩
    | false =>
      go_wp2_with fail
      refine Go.Proofs.K.wp_region_calm ?calm2a ?calm2b ?_
      case calm2a => kernel_rfl
      case calm2b => kernel_rfl
      repeat ((with_reducible refine wpQuiet_step ?_); intro Kq hKq; go_simp; first | ((with_reducible refine hKq _ ?_); clear hKq Kq) | (refine hKq _ ?_; clear hKq Kq) | (apply Exists.intro; refine ⟨fun _ => ?_, hKq _ ?_⟩; (exact K.calm_of (hIs.out _)); clear hKq Kq))
      with_reducible refine wpQuiet_nil ?_
      intro _ hw'
      obtain ⟨⟨wq, kq⟩, hw''⟩ := hw'
      subst hw''
      go_wp2_with fail
      go_ret
      exact ⟨by simp, ⟨_, _, _, _, RM.out.1.keeps9 kq⟩, (K2.out.trans RM.out.2).trans (kq.mono (fun _ _ => False.elim))⟩
end Go.Proofs.Shed
