/- The statements' world of classes: Make, of a parent. Conditions: the world lies in blocks of its own. -/
import Derived.Test.YthhfkhhhclmimaaWWorldB
set_option linter.unusedVariables false
set_option linter.unusedSimpArgs false
set_option maxRecDepth 10000
set_option maxHeartbeats 8000000
namespace Go.Proofs.Shed
open Go Go.RowKit Go.Proofs.K


theorem world_make_at (X : Nat → Prop) (w : World) (wb s b bb : Nat) (x y : Sp) (r : Int) (A : List Int) (L : List RCls) (aA : Option Addr) (cA : Nat) (aL : Option Addr) (cL : Nat) (h : RWorld X w wb s b bb x r A L aA cA aL cL)
    (hX : ∀ g, w.heap.size ≤ g → X g) (i : Nat) (slots : Int) (q a : Int) (hp' : i < A.length) (hq : q = A.getD i 0) (q0 : -9223372036854775808 ≤ q) (q1 : q ≤ 9223372036854775807)
    (hA : A.length ≤ 100000) (hL : A.length = L.length) (e : Class.new x r q slots = (y, a, 0)) :
    Calls Try.prog 24 #[.pointer (some ⟨wb, 0, none⟩), .int .i64 (i : Int), .int .i64 slots] w (MakePost X wb s b bb y r (A ++ [a]) (Ref.new L i slots) (Class.is y.mem r a && decide (x.here < a)) w) := by
  have hN := Lib.hid (class_new w.drew s b bb x r q slots h.sp.drew q0 q1)
  rw [e] at hN
  have H := Lib.hid h
  have c0 := cell_of (i := 0) h.head rfl
  have c1 := cell_of (i := 1) h.head rfl
  have c2 := cell_of (i := 2) h.head rfl
  have c3 := cell_of (i := 3) h.head rfl
  have d1 : w.drew.cell? ⟨wb, 1, none⟩ = some (.pointer (some ⟨s, 0, none⟩)) := c1
  have d2 : w.drew.cell? ⟨wb, 2, none⟩ = some (.int .i64 r) := c2
  have HL := Lib.hid hL
  have HX := Lib.hid hX
  have HS := Lib.hid h.sp
  have NE := Lib.hid (show ¬ (wb = s ∨ wb = bb) by have := h.ne; omega)
  have hIs := fun w (h : RMem w b bb y.mem) => class_is w b bb y.mem r a h
  generalize Class.is y.mem r a = ok at hIs ⊢
  have HIs := Lib.hid hIs
  clear h e hL hIs hX
  have hpi : (i : Int) < A.length := by omega
  obtain ⟨g, hgA, hga⟩ : ∃ g, aA = some ⟨g, 0, none⟩ ∧ w.cell? ⟨g, i, none⟩ = some (.int .i64 q) := by
    have ho := H.out.own
    rcases Own.form ho with ⟨_, h0, _⟩ | ⟨g, cur, hx, _⟩
    · omega
    · refine ⟨g, hx, ?_⟩
      rw [hx] at ho
      refine Own.cell ho ?_
      rw [List.getElem?_map, hq, List.getD_eq_getElem?_getD, List.getElem?_eq_getElem hp']
      rfl
  subst hgA
  have hnc : A.length ≤ cA := by
    rcases Own.form H.out.own with ⟨hx, _⟩ | ⟨g, cur, hx, hh, hnc, _⟩
    · cases hx
    · exact hnc
  clear hq
  go_enter Try.func24, Try.ntmps24
  go_wp2_with fail
  refine (sp_here _ _ _ _ _ HS.out).mono ?_
  rintro e w1 ⟨rfl, rfl⟩
  clear hga
  go_wp2_with fail
  go_region_held3 (fun w' => w'.cell? ⟨wb, 1, none⟩ = some (.pointer (some ⟨s, 0, none⟩)) ∧ w'.cell? ⟨wb, 2, none⟩ = some (.int .i64 r)) (first | go_keep | exact ⟨k2.cell d1 NE.out, k2.cell d2 NE.out⟩)
    ((go_at_call 50; refine hN.out.mono ?_; rintro e w2 ⟨rfl, s2, k2⟩))
  have R2 := Lib.hid (H.out.drew.space s2 k2)
  have K2 := Lib.hid (((Keeps.drew _ w).trans k2).mono (T := X) (fun g _ e => by rcases e with rfl | rfl; exact H.out.low.2.1; exact H.out.low.2.2.2))
  have HX2 : Hid (∀ g, w2.heap.size ≤ g → X g) := fun g hg => HX.out g (by have := K2.out.size; omega)
  have e3 := cell_of (i := 3) R2.out.head rfl
  have e4 := cell_of (i := 4) R2.out.head rfl
  have f3 := free_of (i := 3) R2.out.head
  have f4 := free_of (i := 4) R2.out.head
  have hlt := lt_of_heap R2.out.head
  have NA : Hid (¬ blk (some ⟨g, 0, none⟩) = some wb) := fun e => (R2.out.at_ wb e).2.1 rfl
  have hlen : L.length ≤ 1000000 := by have := HL.out; omega
  clear s2 k2 c0 c1 c2 c3 d1 d2 hN NE
  have hk0 : -1 ≤ ((i : Int) : Int) := by omega
  have hk1 : ((i : Int) : Int) < L.length := by have := HL.out; omega
  have k0 : Keeps (fun _ => False) w2 w2.drew := Keeps.drew _ _
  have k1 : Keeps (fun _ => False) w2 (w2.drew.alloc (.cells #[.int .i64 a] 2)) := (Keeps.drew _ _).trans (Keeps.alloc _ _ _)
  have m0 : Keeps (fun j => blk (some ⟨g, 0, none⟩) = some j) w2 w2.drew := Keeps.drew _ _
  have m1 : Keeps (fun j => blk (some ⟨g, 0, none⟩) = some j) w2 (w2.drew.alloc (.cells #[.int .i64 a] 2)) := (Keeps.drew _ _).trans (Keeps.alloc _ _ _)
  have A1 := R2.out.own.keeps k1 (fun _ _ => id)
  have I1 := int_news w2.drew a
  have g3 := k1.cell e3 id
  have g4 := k1.cell e4 id
  clear k0 m0
  go_wp2_with fail
  go_region_law (first
      | (refine step_app rfl (.tmp 84) (.tmp 86) 46 rfl 2 _ 1 8 Try.underlying46 infoInt rfl (by decide) (some ⟨g, 0, none⟩) A.length cA (A.map (Value.int .i64)) rfl A1 ⟨_, 0, none⟩ 1 1 [.int .i64 a] rfl rfl I1 (int_one a) (by unfold maxLen; omega) (by omega) ?_
         intro a4 c4 w4 o4 k4 l4
         have K4 := Lib.hid (m1.trans k4)
         have O4 := Lib.hid o4
         have L4 := Lib.hid l4
         have n4 := Lib.hid (R2.out.forNew K4.out o4 l4 (by simp) HX2.out)
         have x4 := K4.out.cell e4 NA.out
         clear o4 k4 l4)
      | (go_simp
         go_at_call 51
         refine (ref_new (Out X wb s b bb a4) w4 aL L.length cL L (i : Int) slots n4.out.1 n4.out.2 hk0 hk1 hlen).mono ?_
         rintro e5 w5 ⟨a5, c5, rfl, r5, k5⟩
         have K5 := Lib.hid (K4.out.trans (k5.mono (fun _ _ => False.elim)))
         have O5 := Lib.hid (O4.out.keeps k5 (fun _ _ => id))
         have R5 := Lib.hid r5
         have RM := Lib.hid (R2.out.more K5.out O5.out L4.out (by simp) HX2.out R5.out)
         have z3 := K5.out.frozen f3 hlt NA.out
         have z4 := K5.out.frozen f4 hlt NA.out
         have y3 := K5.out.cell e3 NA.out
         have y4 := K5.out.cell e4 NA.out
         clear r5 k5))
  all_goals
    generalize (w5.setCell ⟨wb, 3, none⟩ (.slice a4 (A.length + 1) c4)).setCell ⟨wb, 4, none⟩ (.slice a5 (Ref.new L (i : Int) slots).length c5) = w9 at RM ⊢
    have g0 := fun (i : Stay w9) => i.2.cell (cell_of (i := 0) RM.out.1.head rfl) id
    have g2 := fun (i : Stay w9) => i.2.cell (cell_of (i := 2) RM.out.1.head rfl) id
    have hIs := Lib.hid fun (i : Stay w9) => HIs.out i.1 (RM.out.1.sp.mem.keeps i.2 id id)
    cases ok with
    | true =>
      go_wp2_with fail
      refine Go.Proofs.K.wp_region_calm ?calm1a ?calm1b ?_
      case calm1a => kernel_rfl
      case calm1b => kernel_rfl
      repeat ((with_reducible refine wpQuiet_step ?_); intro Kq hKq; go_simp; first | ((with_reducible refine hKq _ ?_); clear hKq Kq) | (refine hKq _ ?_; clear hKq Kq) | (apply Exists.intro; refine ⟨fun _ => ?_, hKq _ ?_⟩; (exact K.calm_of (hIs.out _)); clear hKq Kq))
      with_reducible refine wpQuiet_nil ?_
      intro _ hw'
      obtain ⟨⟨wq, kq⟩, hw''⟩ := hw'
      subst hw''
      go_wp2_with fail
      go_ret
      exact ⟨by simp, ⟨_, _, _, _, RM.out.1.keeps9 kq⟩, (K2.out.trans RM.out.2).trans (kq.mono (fun _ _ => False.elim))⟩
    | false =>
      go_wp2_with fail
      refine Go.Proofs.K.wp_region_calm ?calm2a ?calm2b ?_
      case calm2a => kernel_rfl
      case calm2b => kernel_rfl
      repeat ((with_reducible refine wpQuiet_step ?_); intro Kq hKq; go_simp; first | ((with_reducible refine hKq _ ?_); clear hKq Kq) | (refine hKq _ ?_; clear hKq Kq) | (apply Exists.intro; refine ⟨fun _ => ?_, hKq _ ?_⟩; (exact K.calm_of (hIs.out _)); clear hKq Kq))
      with_reducible refine wpQuiet_nil ?_
      intro _ hw'
      obtain ⟨⟨wq, kq⟩, hw''⟩ := hw'
      subst hw''
      go_wp2_with fail
      go_ret
      exact ⟨by simp, ⟨_, _, _, _, RM.out.1.keeps9 kq⟩, (K2.out.trans RM.out.2).trans (kq.mono (fun _ _ => False.elim))⟩
end Go.Proofs.Shed
