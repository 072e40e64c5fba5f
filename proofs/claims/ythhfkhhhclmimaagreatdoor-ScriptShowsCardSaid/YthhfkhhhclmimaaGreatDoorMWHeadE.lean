/- Layer 8: Create. Conditions: the space lies in three blocks; the flags are a byte. -/
import Derived.Test.YthhfkhhhclmimaaGreatDoorMHA
import Derived.Deep.DeepCutAuto
set_option linter.unusedVariables false
set_option linter.unusedSimpArgs false
set_option maxRecDepth 10000
set_option maxHeartbeats 4000000
namespace Go.Proofs.Shed
open Go Go.RowKit Go.Proofs.K

theorem allocs6 (w : World) (o0 o1 o2 o3 o4 o5 : Obj) : ∃ W, W = (((((w.alloc o0).alloc o1).alloc o2).alloc o3).alloc o4).alloc o5 ∧ W.heap[w.heap.size]? = some o0 ∧ W.heap[w.heap.size + 1]? = some o1 ∧ W.heap[w.heap.size + 2]? = some o2 ∧ W.heap[w.heap.size + 3]? = some o3 ∧
    W.heap[w.heap.size + 4]? = some o4 ∧ W.heap[w.heap.size + 5]? = some o5 ∧ W.heap.size = w.heap.size + 6 ∧ Keeps (fun _ => False) w W := by
  refine ⟨_, rfl, ?_, ?_, ?_, ?_, ?_, ?_, ?_, ?_⟩
  · exact (halloc_old _ _ (by first | (simp; done) | (simp; omega))).trans ((halloc_old _ _ (by first | (simp; done) | (simp; omega))).trans ((halloc_old _ _ (by first | (simp; done) | (simp; omega))).trans ((halloc_old _ _ (by first | (simp; done) | (simp; omega))).trans ((halloc_old _ _ (by first | (simp; done) | (simp; omega))).trans (halloc_at _ _)))))
  · exact (halloc_old _ _ (by first | (simp; done) | (simp; omega))).trans ((halloc_old _ _ (by first | (simp; done) | (simp; omega))).trans ((halloc_old _ _ (by first | (simp; done) | (simp; omega))).trans ((halloc_old _ _ (by first | (simp; done) | (simp; omega))).trans (halloc_2 _ _ _))))
  · refine (halloc_old _ _ (by first | (simp; done) | (simp; omega))).trans ((halloc_old _ _ (by first | (simp; done) | (simp; omega))).trans ((halloc_old _ _ (by first | (simp; done) | (simp; omega))).trans ?_))
    have := halloc_at ((w.alloc o0).alloc o1) o2
    simpa using this
  · refine (halloc_old _ _ (by first | (simp; done) | (simp; omega))).trans ((halloc_old _ _ (by first | (simp; done) | (simp; omega))).trans ?_)
    have := halloc_at (((w.alloc o0).alloc o1).alloc o2) o3
    simpa using this
  · refine (halloc_old _ _ (by first | (simp; done) | (simp; omega))).trans ?_
    have := halloc_at ((((w.alloc o0).alloc o1).alloc o2).alloc o3) o4
    simpa using this
  · have := halloc_at (((((w.alloc o0).alloc o1).alloc o2).alloc o3).alloc o4) o5
    simpa using this
  · simp
  · exact ((((((Keeps.alloc _ _ _).trans (Keeps.alloc _ _ _)).trans (Keeps.alloc _ _ _)).trans (Keeps.alloc _ _ _)).trans (Keeps.alloc _ _ _)).trans (Keeps.alloc _ _ _))
theorem keeps_set4g (w : World) (g : Nat) (b0 b1 b2 b3 : Value) : Keeps (fun k => k = g) w ((((w.setCell ⟨g, 0, none⟩ b0).setCell ⟨g, 1, none⟩ b1).setCell ⟨g, 2, none⟩ b2).setCell ⟨g, 3, none⟩ b3) := by
  have k0 : Keeps (fun k => k = g) w (w.setCell ⟨g, 0, none⟩ b0) := Keeps.setCell w ⟨g, 0, none⟩ b0 (fun _ => rfl)
  have k1 := k0.trans (Keeps.setCell (S := fun k => k = g) (w.setCell ⟨g, 0, none⟩ b0) ⟨g, 1, none⟩ b1 (fun _ => rfl))
  have k2 := k1.trans (Keeps.setCell (S := fun k => k = g) ((w.setCell ⟨g, 0, none⟩ b0).setCell ⟨g, 1, none⟩ b1) ⟨g, 2, none⟩ b2 (fun _ => rfl))
  exact k2.trans (Keeps.setCell (S := fun k => k = g) (((w.setCell ⟨g, 0, none⟩ b0).setCell ⟨g, 1, none⟩ b1).setCell ⟨g, 2, none⟩ b2) ⟨g, 3, none⟩ b3 (fun _ => rfl))
def CreatePost (s b bb : Nat) (r : Sp × Wd × Int) (w : World) (e : Ending) (w' : World) : Prop :=
  e = .returned (.tuple #[r.2.1.val, .int .i64 r.2.2]) ∧ RSp w' s b bb r.1 ∧ Keeps (fun k => k = s ∨ k = bb) w w'
abbrev Pt (n : Nat) : Value := .pointer (some ⟨n, 0, none⟩)
/-- Create's steps, as closures. -/
def putV (B g s g2 : Nat) : Array Value := #[.func (.func 148) #[] #[Pt B, Pt g], .func (.func 149) #[] #[Pt B, Pt (B + 1 + 1), Pt (B + 1 + 1 + 1)], .func (.func 150) #[] #[Pt B, Pt g2], .func (.func 147) #[Pt s] #[],
  .func (.func 152) #[] #[Pt B, Pt g2, Pt (B + 1 + 1 + 1 + 1)], .func (.func 153) #[] #[Pt B, Pt (B + 1), Pt g2]]
structure Boxes (B s g g2 gp : Nat) (l fl cd lk : Int) (name : List UInt8) (W : World) : Prop where
  e0 : W.heap[B]? = some (.cells #[.pointer (some ⟨s, 0, none⟩)] 41 (0, 0))
  e1 : W.heap[B + 1]? = some (.cells #[.int .i64 l] 2 (0, 0))
  e2 : W.heap[B + 2]? = some (.cells #[.string ⟨name.toArray⟩] 9 (0, 0))
  e3 : W.heap[B + 3]? = some (.cells #[.int .i64 fl] 2 (0, 0))
  e4 : W.heap[B + 4]? = some (.cells #[.int .i64 cd] 2 (0, 0))
  e5 : W.heap[B + 5]? = some (.cells #[.int .i64 0, .int .i64 0, .int .i64 0, .string ⟨#[]⟩] 53 (0, 0))
  eg : W.heap[g]? = some (.cells #[.int .i64 lk] 2 (0, 0))
  ep : W.heap[gp]? = some (.cells (putV B g s g2) 80 (0, 0))
theorem Boxes.keeps {B s g g2 gp : Nat} {l fl cd lk : Int} {name : List UInt8} {W W' : World} (h : Boxes B s g g2 gp l fl cd lk name W) {S : Nat → Prop} (k : Keeps S W W') (n : ∀ k, (B ≤ k ∧ k ≤ B + 5) ∨ k = g ∨ k = gp → ¬ S k) : Boxes B s g g2 gp l fl cd lk name W' :=
  ⟨k.heap h.e0 (n _ (by omega)), k.heap h.e1 (n _ (by omega)), k.heap h.e2 (n _ (by omega)), k.heap h.e3 (n _ (by omega)), k.heap h.e4 (n _ (by omega)), k.heap h.e5 (n _ (by omega)), k.heap h.eg (n _ (by omega)), k.heap h.ep (n _ (by omega))⟩
theorem head_create (w : World) (s b bb : Nat) (x : Sp) (l : Int) (name : List UInt8) (fl cd : Int) (h : RSp w s b bb x) (f0 : 0 ≤ fl) (f1 : fl ≤ 255) :
    Calls Tryz.prog 82 #[.pointer (some ⟨s, 0, none⟩), .int .i64 l, .string ⟨name.toArray⟩, .int .i64 fl, .int .i64 cd] w (CreatePost s b bb (x.create l name fl cd) w) := by
  obtain ⟨wa, hWA, x5, x6, x7, x8, x9, A0, hsz, ka⟩ := allocs6 w (.cells #[.pointer (some ⟨s, 0, none⟩)] 41) (.cells #[.int .i64 l] 2) (.cells #[.string ⟨name.toArray⟩] 9) (.cells #[.int .i64 fl] 2) (.cells #[.int .i64 cd] 2) (.cells #[.int .i64 0, .int .i64 0, .int .i64 0, .string ⟨#[]⟩] 53)
  have HW := Lib.hid hWA.symm
  clear hWA
  have c5 := cell_of (i := 0) x5 rfl
  have c6 := cell_of (i := 0) x6 rfl
  have c7 := cell_of (i := 0) x7 rfl
  have c8 := cell_of (i := 0) x8 rfl
  have c9 := cell_of (i := 0) x9 rfl
  have X5 := Lib.hid x5
  have X6 := Lib.hid x6
  have X7 := Lib.hid x7
  have X8 := Lib.hid x8
  have X9 := Lib.hid x9
  have a0 : wa.cell? ⟨w.heap.size + 5, 0, none⟩ = some (.int .i64 0) := cell_of A0 rfl
  have a1 : wa.cell? ⟨w.heap.size + 5, 1, none⟩ = some (.int .i64 0) := cell_of A0 rfl
  have a2 : wa.cell? ⟨w.heap.size + 5, 2, none⟩ = some (.int .i64 0) := cell_of A0 rfl
  have a3 : wa.cell? ⟨w.heap.size + 5, 3, none⟩ = some (.string ⟨#[]⟩) := cell_of A0 rfl
  have b0 := free_of (i := 0) A0
  have b1 := free_of (i := 1) A0
  have b2 := free_of (i := 2) A0
  have b3 := free_of (i := 3) A0
  have AA := Lib.hid A0
  have KA := Lib.hid ka
  have H := Lib.hid (h.keeps ka id id id)
  have hlt : s < w.heap.size ∧ b < w.heap.size ∧ bb < w.heap.size := ⟨lt_of_heap h.head, h.mem.lt⟩
  clear x5 x6 x7 x8 x9 A0 ka h
  by_cases hbad : name = [] ∨ 31 < name.length
  · have hr : x.create l name fl cd = (x, Wd.none, -16) := by unfold Sp.create; rw [if_pos hbad]
    rw [hr]
    clear hr
    have hc : name = [] ∨ (name ≠ [] ∧ 31 < name.length) := by
      by_cases e : name = []
      · exact .inl e
      · exact .inr ⟨e, by rcases hbad with h | h; exact absurd h e; exact h⟩
    clear hbad
    rcases hc with hc | ⟨hc, hd⟩
    · have d1 : (name == []) = true := by simp [hc]
      clear hc
      go_enter Tryz.func82, Tryz.ntmps82
      go_upto_region 1 with fail
      rw [HW.out]
      clear HW
      go_wp2_with fail
      have hB := set4 AA.out (.int .i64 0) (.int .i64 0) (.int .i64 0) (.string ⟨#[]⟩)
      have g0 := cell_of (i := 0) hB rfl
      have g1 := cell_of (i := 1) hB rfl
      have g2 := cell_of (i := 2) hB rfl
      have g3 := cell_of (i := 3) hB rfl
      have KS := keeps_set4 KA.out (w.heap.size + 5) (.int .i64 0) (.int .i64 0) (.int .i64 0) (.string ⟨#[]⟩) (by omega)
      have RS := (H.out).keeps (keeps_set4g _ (w.heap.size + 5) (.int .i64 0) (.int .i64 0) (.int .i64 0) (.string ⟨#[]⟩)) (fun e => by have e : s = w.heap.size + 5 := e; omega) (fun e => by have e : b = w.heap.size + 5 := e; omega) (fun e => by have e : bb = w.heap.size + 5 := e; omega)
      exact bodyPost_ret (v := .tuple #[Wd.none.val, (.int .i64 (-16))]) (by simp [results, Tryz.results82, go_sem, Wd.val, Wd.none, g0, g1, g2, g3]) rfl ⟨rfl, RS, by first | exact KS | exact KS.mono (fun _ _ e => e.elim)⟩
    · have d1 : (name == []) = false := by simp [hc]
      have hd' : (31 : Int) < (name.length : Int) := by omega
      clear hc hd
      go_enter Tryz.func82, Tryz.ntmps82
      go_upto_region 1 with fail
      rw [HW.out]
      clear HW
      go_wp2_with fail
      have hB := set4 AA.out (.int .i64 0) (.int .i64 0) (.int .i64 0) (.string ⟨#[]⟩)
      have g0 := cell_of (i := 0) hB rfl
      have g1 := cell_of (i := 1) hB rfl
      have g2 := cell_of (i := 2) hB rfl
      have g3 := cell_of (i := 3) hB rfl
      have KS := keeps_set4 KA.out (w.heap.size + 5) (.int .i64 0) (.int .i64 0) (.int .i64 0) (.string ⟨#[]⟩) (by omega)
      have RS := (H.out).keeps (keeps_set4g _ (w.heap.size + 5) (.int .i64 0) (.int .i64 0) (.int .i64 0) (.string ⟨#[]⟩)) (fun e => by have e : s = w.heap.size + 5 := e; omega) (fun e => by have e : b = w.heap.size + 5 := e; omega) (fun e => by have e : bb = w.heap.size + 5 := e; omega)
      exact bodyPost_ret (v := .tuple #[Wd.none.val, (.int .i64 (-16))]) (by simp [results, Tryz.results82, go_sem, Wd.val, Wd.none, g0, g1, g2, g3]) rfl ⟨rfl, RS, by first | exact KS | exact KS.mono (fun _ _ e => e.elim)⟩
  · obtain ⟨q0, q1, q2, q3, q4, q5, q6, t0, t1, t2, t3, t4, t5, t6, z0, z1, z2, z3, z4, z5, z6, zf⟩ := Sp.create_steps x l name fl cd hbad
    generalize x.create l name fl cd = r at z0 z1 z2 z3 z4 z5 z6 zf ⊢
    have d1 : (name == []) = false := by simp; exact fun e => hbad (.inl e)
    have hlen : name.length ≤ 31 := by omega
    have hd : (name.length : Int) ≤ 31 := by omega
    have d2 : decide ((31 : Int) < (name.length : Int)) = false := decide_eq_false (by omega)
    have HLW := Lib.hid fun V => intern_lower V name (by omega)
    have HC := Lib.hid fun V (k : Keeps (fun _ => False) wa V) => mem_cell V b bb x.mem l ((H.out.keeps k id id id).mem)
    have HLT := Lib.hid hlt
    clear hbad hlt
    generalize x.mem.cell l = q at HC t0 t1
    obtain ⟨lk, e0⟩ := q
    simp only at HC t0 t1
    have HC0 := Lib.hid t0
    have T1 := Lib.hid t1
    have T2 := Lib.hid t2
    have T3 := Lib.hid t3
    have T4 := Lib.hid t4
    have T5 := Lib.hid t5
    have T6 := Lib.hid t6
    have Z0 := Lib.hid z0
    have Z1 := Lib.hid z1
    have Z2 := Lib.hid z2
    have Z3 := Lib.hid z3
    have Z4 := Lib.hid z4
    have Z5 := Lib.hid z5
    have Z6 := Lib.hid z6
    have ZF := Lib.hid zf
    clear t0 t1 t2 t3 t4 t5 t6 z0 z1 z2 z3 z4 z5 z6 zf
    have s0 := H.out.c0
    go_enter Tryz.func82, Tryz.ntmps82
    go_upto_region 1 with fail
    rw [HW.out]
    clear HW
    go_wp2_with fail
    refine (sp_here wa s b bb x H.out).mono ?_
    rintro e w1 ⟨rfl, rfl⟩
    have LA := Lib.hid (show ((wa.alloc (.cells #[.int .i64 lk] 2)).drew).heap[w.heap.size + 6]? = some (.cells #[.int .i64 lk] 2 (0, 0)) by rw [← hsz]; exact halloc_at wa _)
    have LK := Lib.hid ((Keeps.alloc (fun _ => False) wa (.cells #[.int .i64 lk] 2)).trans (Keeps.drew _ _))
    go_upto_region 6 with fail
    go_cut [13, 14] (fun v13 v14 wx => ∃ g : Nat, v13 = .pointer (some ⟨g, 0, none⟩) ∧ v14 = .int .i64 e0 ∧ wx.heap[g]? = some (.cells #[.int .i64 lk] 2 (0, 0)) ∧ wa.heap.size ≤ g ∧ Keeps (fun _ => False) wa wx)
    case first =>
      go_region_held3 (fun w' => w'.cell? ⟨w.heap.size, 0, none⟩ = some (.pointer (some ⟨s, 0, none⟩)) ∧ w'.cell? ⟨w.heap.size + 1, 0, none⟩ = some (.int .i64 l) ∧ w'.cell? ⟨s, 0, none⟩ = some (.pointer (some ⟨b, 0, none⟩)))
        (first | go_keep)
        ((go_at_call 81; refine (HC.out _ (by first | exact Keeps.drew _ _ | exact (Keeps.drew _ _).trans (Keeps.alloc _ _ _))).mono ?_; rintro e w4 ⟨rfl, rfl⟩; dsimp only))
      all_goals
        go_wp2_with fail
        go_meet
        exact ⟨w.heap.size + 6, rfl, rfl, LA.out, by omega, LK.out⟩
    case rest =>
      obtain ⟨g, rfl, rfl, hg, hgl, kc⟩ := hcut
      have KC := Lib.hid kc
      have G13 := Lib.hid hg
      clear hg kc
      have c5 : wc.cell? ⟨w.heap.size, 0, none⟩ = some (.pointer (some ⟨s, 0, none⟩)) := KC.out.cell c5 id
      have c7 : wc.cell? ⟨w.heap.size + 2, 0, none⟩ = some (.string ⟨name.toArray⟩) := KC.out.cell c7 id
      have c8 : wc.cell? ⟨w.heap.size + 3, 0, none⟩ = some (.int .i64 fl) := KC.out.cell c8 id
      have hcs := KC.out.size
      have n8 : wc.heap.size ≠ w.heap.size + 3 := by omega
      have n7 : wc.heap.size ≠ w.heap.size + 2 := by omega
      have n8' : w.heap.size + 3 ≠ wc.heap.size := by omega
      have n7' : w.heap.size + 2 ≠ wc.heap.size := by omega
      go_upto_region 7 with fail
      go_cut [15] (fun v15 wx => ∃ g2 : Nat, v15 = .pointer (some ⟨g2, 0, none⟩) ∧ WdCells g2 0 0 fl (lower name) wx ∧ wa.heap.size ≤ g2 ∧ g ≠ g2 ∧ Keeps (fun _ => False) wc wx)
      case first =>
        go_region_held3 (fun w' => w'.cell? ⟨w.heap.size + 3, 0, none⟩ = some (.int .i64 fl) ∧ w'.cell? ⟨w.heap.size + 2, 0, none⟩ = some (.string ⟨name.toArray⟩))
          (first | go_keep)
          (first
            | (go_at_call 94; refine (HLW.out (wc.alloc (.cells #[.int .i64 0, .int .i64 0, .int .i64 0, .string ⟨#[]⟩] 53)).drew).mono ?_; rintro e w4 ⟨rfl, k4⟩; dsimp only
               have e8 : w4.cell? ⟨w.heap.size + 3, 0, none⟩ = some (.int .i64 fl) := k4.cell ((Keeps.alloc (fun _ => False) wc (.cells #[.int .i64 0, .int .i64 0, .int .i64 0, .string ⟨#[]⟩] 53)).cell c8 id) id
               have e7 : w4.cell? ⟨w.heap.size + 2, 0, none⟩ = some (.string ⟨name.toArray⟩) := k4.cell ((Keeps.alloc (fun _ => False) wc (.cells #[.int .i64 0, .int .i64 0, .int .i64 0, .string ⟨#[]⟩] 53)).cell c7 id) id
               have hz := k4.heap (show ((wc.alloc (.cells #[.int .i64 0, .int .i64 0, .int .i64 0, .string ⟨#[]⟩] 53)).drew).heap[wc.heap.size]? = _ from halloc_at wc _) id
               have z0 : w4.cell? ⟨wc.heap.size, 0, none⟩ = some (.int .i64 0) := cell_of hz rfl
               have z1 : w4.cell? ⟨wc.heap.size, 1, none⟩ = some (.int .i64 0) := cell_of hz rfl
               have z2 : w4.cell? ⟨wc.heap.size, 2, none⟩ = some (.int .i64 0) := cell_of hz rfl
               have z3 : w4.cell? ⟨wc.heap.size, 3, none⟩ = some (.string ⟨#[]⟩) := cell_of hz rfl
               have q0 := free_of (i := 0) hz
               have q1 := free_of (i := 1) hz
               have q2 := free_of (i := 2) hz
               have q3 := free_of (i := 3) hz)
            | (go_at_call 94; refine (HLW.out wc.drew).mono ?_; rintro e w4 ⟨rfl, k4⟩; dsimp only
               have e8 : w4.cell? ⟨w.heap.size + 3, 0, none⟩ = some (.int .i64 fl) := k4.cell c8 id
               have e7 : w4.cell? ⟨w.heap.size + 2, 0, none⟩ = some (.string ⟨name.toArray⟩) := k4.cell c7 id))
        all_goals
          have hg2 := lt_of_heap G13.out
          go_wp2_with fail
          go_meet
          refine ⟨_, rfl, ?_⟩
          first
            | (have hB := set4 hz (.int .i64 0) (.int .i64 0) (.int .i64 fl) (.string ⟨(lower name).toArray⟩)
               have kB := keeps_set4 ((Keeps.alloc (fun _ => False) wc (.cells #[.int .i64 0, .int .i64 0, .int .i64 0, .string ⟨#[]⟩] 53)).trans ((Keeps.drew (fun _ => False) _).trans k4)) wc.heap.size (.int .i64 0) (.int .i64 0) (.int .i64 fl) (.string ⟨(lower name).toArray⟩) (Nat.le_refl _)
               exact ⟨hB, by omega, by omega, kB⟩)
            | (have hs4 : wc.heap.size ≤ w4.heap.size := k4.size
               have kA := ((Keeps.drew (fun _ => False) wc).trans k4).trans (Keeps.alloc (fun _ => False) w4 (.cells #[.int .i64 0, .int .i64 0, .int .i64 fl, .string ⟨(lower name).toArray⟩] 53))
               have hA := halloc_at w4 (.cells #[.int .i64 0, .int .i64 0, .int .i64 fl, .string ⟨(lower name).toArray⟩] 53)
               exact ⟨hA, by omega, by omega, kA⟩)
      case rest =>
        obtain ⟨g2, rfl, hw2, hg2, hgg, kc2⟩ := hcut
        have KC2 := Lib.hid (KC.out.trans kc2)
        have W2 := Lib.hid hw2
        have G2 := Lib.hid (kc2.heap G13.out id)
        have hS : Hid (RSp wc s b bb x) := Lib.hid (H.out.keeps KC2.out id id id)
        have c5 : wc.cell? ⟨w.heap.size, 0, none⟩ = some (.pointer (some ⟨s, 0, none⟩)) := kc2.cell c5 id
        clear hw2 kc2 n8 n7 n8' n7'
        go_upto_if 46 with fail
        go_cut [14] (fun v14 wx => v14 = .int .i64 q0.2 ∧ RSp wx s b bb q0.1 ∧ Keeps (fun k => k = s ∨ k = bb) wc wx)
        case first =>
          by_cases he : e0 = 0
          · have hq := HC0.out
            rw [if_pos he] at hq
            have he' : (e0 == 0) = true := by simp [he]
            have HQ := Lib.hid hq
            clear hq he
            go_wp2_with fail
            refine (sp_align wc s b bb x hS.out).mono ?_
            rintro e w5 ⟨rfl, r5, k5⟩
            have R5 := Lib.hid r5
            have K5 := Lib.hid k5
            clear r5 k5
            go_wp2_with fail
            go_meet
            rw [HQ.out]
            exact ⟨rfl, R5.out, K5.out⟩
          · have hq := HC0.out
            rw [if_neg he] at hq
            have he' : (e0 == 0) = false := by simp [he]
            have HQ := Lib.hid hq
            clear hq he
            go_wp2_with fail
            go_meet
            rw [HQ.out]
            exact ⟨rfl, hS.out, Keeps.refl _ _⟩
        case rest =>
          obtain ⟨rfl, r6, k6⟩ := hcut
          have hlt := HLT.out
          have hwz := KA.out.size
          have KB := Lib.hid ((KC2.out.mono (T := fun k => k = s ∨ k = bb) (fun _ _ e => e.elim)).trans k6)
          have RW := Lib.hid r6
          have WG := Lib.hid (show WdCells g2 0 0 fl (lower name) wc from k6.heap W2.out (fun e => by rcases e with e | e <;> omega))
          have G3 := Lib.hid (show wc.heap[g]? = some (.cells #[.int .i64 lk] 2 (0, 0)) from k6.heap G2.out (fun e => by rcases e with e | e <;> omega))
          have hB5 : wc.cell? ⟨w.heap.size, 0, none⟩ = some (.pointer (some ⟨s, 0, none⟩)) := cell_of (KB.out.heap X5.out (fun e => by rcases e with e | e <;> omega)) rfl
          have y0 : wc.cell? ⟨g2, 0, none⟩ = some (.int .i64 0) := cell_of WG.out rfl
          have y1 := free_of (i := 0) WG.out
          clear r6 k6 c5 hB5
          have hB5 : wc.cell? ⟨w.heap.size, 0, none⟩ = some (.pointer (some ⟨s, 0, none⟩)) := cell_of (KB.out.heap X5.out (fun e => by rcases e with e | e <;> omega)) rfl
          have hmf := hmf
          have KD := Lib.hid ((KB.out.mono (T := fun k => k = s ∨ k = bb ∨ k = g2) (fun _ _ e => by rcases e with e | e; exact .inl e; exact .inr (.inl e))).trans (Keeps.setCell wc ⟨g2, 0, none⟩ (.int .i64 q0.1.here) (fun _ => .inr (.inr rfl))))
          have RD := Lib.hid (RW.out.keeps (Keeps.setCell (S := fun k => k = g2) wc ⟨g2, 0, none⟩ (.int .i64 q0.1.here) (fun _ => rfl)) (fun e => by have e : s = g2 := e; omega) (fun e => by have e : b = g2 := e; omega) (fun e => by have e : bb = g2 := e; omega))
          have WD := Lib.hid (show WdCells g2 q0.1.here 0 fl (lower name) (wc.setCell ⟨g2, 0, none⟩ (.int .i64 q0.1.here)) from hset_same WG.out _)
          have GD := Lib.hid (show (wc.setCell ⟨g2, 0, none⟩ (.int .i64 q0.1.here)).heap[g]? = some (.cells #[.int .i64 lk] 2 (0, 0)) from (hset_other (by omega) _).trans G3.out)
          go_wp2_with fail
          refine (sp_here wc s b bb _ RW.out).mono ?_
          rintro e w6 ⟨rfl, rfl⟩
          go_wp2_with fail
          change Code.wp _ _ _ _ ((wc.setCell ⟨g2, 0, none⟩ (.int .i64 q0.1.here)).alloc (.cells (putV w.heap.size g s g2) 80))
          have hgg2 := lt_of_heap WG.out
          have hgg1 := lt_of_heap G3.out
          obtain ⟨gp, hgp⟩ : ∃ gp, gp = wc.heap.size := ⟨_, rfl⟩
          rw [← hgp] at hgg2 hgg1 ⊢
          have HGP := Lib.hid hgp
          clear hgp
          have KA2 := Lib.hid (Keeps.alloc (fun _ => False) (wc.setCell ⟨g2, 0, none⟩ (.int .i64 q0.1.here)) (.cells (putV w.heap.size g s g2) 80))
          have SL := Lib.hid (show ((wc.setCell ⟨g2, 0, none⟩ (.int .i64 q0.1.here)).alloc (.cells (putV w.heap.size g s g2) 80)).heap[gp]? = some (.cells (putV w.heap.size g s g2) 80 (0, 0)) by
            have := halloc_at (wc.setCell ⟨g2, 0, none⟩ (.int .i64 q0.1.here)) (.cells (putV w.heap.size g s g2) 80)
            rw [show (wc.setCell ⟨g2, 0, none⟩ (.int .i64 q0.1.here)).heap.size = gp by rw [HGP.out]; simp] at this
            exact this)
          generalize hW : (wc.setCell ⟨g2, 0, none⟩ (.int .i64 q0.1.here)).alloc (.cells (putV w.heap.size g s g2) 80) = W at KA2 SL ⊢
          clear hW
          have KQ := KD.out.trans (KA2.out.mono (fun _ _ e => e.elim))
          have nx : ∀ k, w.heap.size ≤ k ∧ k ≤ w.heap.size + 5 → ¬ (k = s ∨ k = bb ∨ k = g2) := fun k hk e => by rcases e with e | e | e <;> omega
          have BX := Lib.hid (show Boxes w.heap.size s g g2 gp l fl cd lk name W from ⟨KQ.heap X5.out (nx _ (by omega)), KQ.heap X6.out (nx _ (by omega)), KQ.heap X7.out (nx _ (by omega)), KQ.heap X8.out (nx _ (by omega)), KQ.heap X9.out (nx _ (by omega)), KQ.heap AA.out (nx _ (by omega)), KA2.out.heap GD.out id, SL.out⟩)
          have KW := Lib.hid ((KA.out.mono (T := fun k => k = s ∨ k = bb) (fun _ _ e => e.elim)).trans' KQ (fun i hi e => by rcases e with e | e | e; exact .inl e; exact .inr e; omega))
          replace RW := Lib.hid (RD.out.keeps KA2.out id id id)
          replace WG := Lib.hid (show WdCells g2 q0.1.here 0 fl (lower name) W from KA2.out.heap WD.out id)
          clear KQ nx KD RD WD GD KA2 SL KB G3 KC KC2 W2 G2 hS G13 y0 y1 hB5 a0 a1 a2 a3 b0 b1 b2 b3 c6 c9 HC HLW LA LK
          refine wp_loop_rounds 7 ?_
          rw [rounds_succ]
          have cc : W.cell? ⟨gp, 0, none⟩ = some (.func (.func 148) #[] #[Pt w.heap.size, Pt g]) := cell_of BX.out.ep rfl
          by_cases he : q0.2 = 0
          rotate_left
          · have dd : ((q0).2 != 0) = true := by simp [he]
            have hr := (Z0).out he
            subst hr
            have cs : W.cell? ⟨w.heap.size, 0, none⟩ = some (.pointer (some ⟨s, 0, none⟩)) := cell_of BX.out.e0 rfl
            clear he
            go_wp2_with fail
            refine (sp_back W s b bb _ x.here RW.out).mono ?_
            rintro e W' ⟨rfl, rb, kb⟩
            have BB := Lib.hid (BX.out.keeps kb (fun k hk e => by rcases e with e | e <;> omega))
            have KK := Lib.hid (KW.out.trans kb)
            have RR := Lib.hid rb
            have a0 : W'.cell? ⟨w.heap.size + 5, 0, none⟩ = some (.int .i64 0) := cell_of BB.out.e5 rfl
            have a1 : W'.cell? ⟨w.heap.size + 5, 1, none⟩ = some (.int .i64 0) := cell_of BB.out.e5 rfl
            have a2 : W'.cell? ⟨w.heap.size + 5, 2, none⟩ = some (.int .i64 0) := cell_of BB.out.e5 rfl
            have a3 : W'.cell? ⟨w.heap.size + 5, 3, none⟩ = some (.string ⟨#[]⟩) := cell_of BB.out.e5 rfl
            have b0 := free_of (i := 0) BB.out.e5
            have b1 := free_of (i := 1) BB.out.e5
            have b2 := free_of (i := 2) BB.out.e5
            have b3 := free_of (i := 3) BB.out.e5
            clear rb kb cs
            go_wp2_with fail
            have hB := set4 BB.out.e5 (.int .i64 0) (.int .i64 0) (.int .i64 0) (.string ⟨#[]⟩)
            have g0 := cell_of (i := 0) hB rfl
            have g1 := cell_of (i := 1) hB rfl
            have g2 := cell_of (i := 2) hB rfl
            have g3 := cell_of (i := 3) hB rfl
            have KS := keeps_set4 KK.out (w.heap.size + 5) (.int .i64 0) (.int .i64 0) (.int .i64 0) (.string ⟨#[]⟩) (by omega)
            have RS := (RR.out).keeps (keeps_set4g _ (w.heap.size + 5) (.int .i64 0) (.int .i64 0) (.int .i64 0) (.string ⟨#[]⟩)) (fun e => by have e : s = w.heap.size + 5 := e; omega) (fun e => by have e : b = w.heap.size + 5 := e; omega) (fun e => by have e : bb = w.heap.size + 5 := e; omega)
            exact bodyPost_ret (v := .tuple #[Wd.none.val, (.int .i64 (q0).2)]) (by simp [results, Tryz.results82, go_sem, Wd.val, Wd.none, g0, g1, g2, g3]) rfl ⟨rfl, RS, by first | exact KS | exact KS.mono (fun _ _ e => e.elim)⟩
          have dd : (q0.2 != 0) = false := by simp [he]
          have hq := Lib.hid (T1.out he)
          clear he
          go_wp2_with fail
          refine (head_cr1 W s b bb _ lk w.heap.size g RW.out (cell_of BX.out.e0 rfl) (cell_of BX.out.eg rfl)).mono ?_
          rintro e W1 ⟨rfl, r1, k1⟩
          rw [← hq.out] at r1 ⊢
          replace BX := Lib.hid (BX.out.keeps k1 (fun k hk e => by rcases e with e | e <;> omega))
          replace KW := Lib.hid (KW.out.trans k1)
          replace WG := Lib.hid (show WdCells g2 q0.1.here 0 fl (lower name) W1 from k1.heap WG.out (fun e => by rcases e with e | e <;> omega))
          replace RW := Lib.hid r1
          clear r1 k1 cc dd hq
          clear W
          rename World => W
          go_wp2_with fail
          rw [rounds_succ]
          have cc : W.cell? ⟨gp, 1, none⟩ = some (.func (.func 149) #[] #[Pt w.heap.size, Pt (w.heap.size + 1 + 1), Pt (w.heap.size + 1 + 1 + 1)]) := cell_of BX.out.ep rfl
          by_cases he : q1.2 = 0
          rotate_left
          · have dd : ((q1).2 != 0) = true := by simp [he]
            have hr := (Z1).out he
            subst hr
            have cs : W.cell? ⟨w.heap.size, 0, none⟩ = some (.pointer (some ⟨s, 0, none⟩)) := cell_of BX.out.e0 rfl
            clear he
            go_wp2_with fail
            refine (sp_back W s b bb _ x.here RW.out).mono ?_
            rintro e W' ⟨rfl, rb, kb⟩
            have BB := Lib.hid (BX.out.keeps kb (fun k hk e => by rcases e with e | e <;> omega))
            have KK := Lib.hid (KW.out.trans kb)
            have RR := Lib.hid rb
            have a0 : W'.cell? ⟨w.heap.size + 5, 0, none⟩ = some (.int .i64 0) := cell_of BB.out.e5 rfl
            have a1 : W'.cell? ⟨w.heap.size + 5, 1, none⟩ = some (.int .i64 0) := cell_of BB.out.e5 rfl
            have a2 : W'.cell? ⟨w.heap.size + 5, 2, none⟩ = some (.int .i64 0) := cell_of BB.out.e5 rfl
            have a3 : W'.cell? ⟨w.heap.size + 5, 3, none⟩ = some (.string ⟨#[]⟩) := cell_of BB.out.e5 rfl
            have b0 := free_of (i := 0) BB.out.e5
            have b1 := free_of (i := 1) BB.out.e5
            have b2 := free_of (i := 2) BB.out.e5
            have b3 := free_of (i := 3) BB.out.e5
            clear rb kb cs
            go_wp2_with fail
            have hB := set4 BB.out.e5 (.int .i64 0) (.int .i64 0) (.int .i64 0) (.string ⟨#[]⟩)
            have g0 := cell_of (i := 0) hB rfl
            have g1 := cell_of (i := 1) hB rfl
            have g2 := cell_of (i := 2) hB rfl
            have g3 := cell_of (i := 3) hB rfl
            have KS := keeps_set4 KK.out (w.heap.size + 5) (.int .i64 0) (.int .i64 0) (.int .i64 0) (.string ⟨#[]⟩) (by omega)
            have RS := (RR.out).keeps (keeps_set4g _ (w.heap.size + 5) (.int .i64 0) (.int .i64 0) (.int .i64 0) (.string ⟨#[]⟩)) (fun e => by have e : s = w.heap.size + 5 := e; omega) (fun e => by have e : b = w.heap.size + 5 := e; omega) (fun e => by have e : bb = w.heap.size + 5 := e; omega)
            exact bodyPost_ret (v := .tuple #[Wd.none.val, (.int .i64 (q1).2)]) (by simp [results, Tryz.results82, go_sem, Wd.val, Wd.none, g0, g1, g2, g3]) rfl ⟨rfl, RS, by first | exact KS | exact KS.mono (fun _ _ e => e.elim)⟩
          have dd : (q1.2 != 0) = false := by simp [he]
          have hq := Lib.hid (T2.out he)
          clear he
          go_wp2_with fail
          refine (head_cr2 W s b bb _ name fl w.heap.size (w.heap.size + 1 + 1) (w.heap.size + 1 + 1 + 1) RW.out (cell_of BX.out.e0 rfl) (cell_of BX.out.e2 rfl) (cell_of BX.out.e3 rfl) hlen f0 f1).mono ?_
          rintro e W1 ⟨rfl, r1, k1⟩
          rw [← hq.out] at r1 ⊢
          replace BX := Lib.hid (BX.out.keeps k1 (fun k hk e => by rcases e with e | e <;> omega))
          replace KW := Lib.hid (KW.out.trans k1)
          replace WG := Lib.hid (show WdCells g2 q0.1.here 0 fl (lower name) W1 from k1.heap WG.out (fun e => by rcases e with e | e <;> omega))
          replace RW := Lib.hid r1
          clear r1 k1 cc dd hq
          clear W
          rename World => W
          go_wp2_with fail
          rw [rounds_succ]
          have cc : W.cell? ⟨gp, 2, none⟩ = some (.func (.func 150) #[] #[Pt w.heap.size, Pt g2]) := cell_of BX.out.ep rfl
          by_cases he : q2.2 = 0
          rotate_left
          · have dd : ((q2).2 != 0) = true := by simp [he]
            have hr := (Z2).out he
            subst hr
            have cs : W.cell? ⟨w.heap.size, 0, none⟩ = some (.pointer (some ⟨s, 0, none⟩)) := cell_of BX.out.e0 rfl
            clear he
            go_wp2_with fail
            refine (sp_back W s b bb _ x.here RW.out).mono ?_
            rintro e W' ⟨rfl, rb, kb⟩
            have BB := Lib.hid (BX.out.keeps kb (fun k hk e => by rcases e with e | e <;> omega))
            have KK := Lib.hid (KW.out.trans kb)
            have RR := Lib.hid rb
            have a0 : W'.cell? ⟨w.heap.size + 5, 0, none⟩ = some (.int .i64 0) := cell_of BB.out.e5 rfl
            have a1 : W'.cell? ⟨w.heap.size + 5, 1, none⟩ = some (.int .i64 0) := cell_of BB.out.e5 rfl
            have a2 : W'.cell? ⟨w.heap.size + 5, 2, none⟩ = some (.int .i64 0) := cell_of BB.out.e5 rfl
            have a3 : W'.cell? ⟨w.heap.size + 5, 3, none⟩ = some (.string ⟨#[]⟩) := cell_of BB.out.e5 rfl
            have b0 := free_of (i := 0) BB.out.e5
            have b1 := free_of (i := 1) BB.out.e5
            have b2 := free_of (i := 2) BB.out.e5
            have b3 := free_of (i := 3) BB.out.e5
            clear rb kb cs
            go_wp2_with fail
            have hB := set4 BB.out.e5 (.int .i64 0) (.int .i64 0) (.int .i64 0) (.string ⟨#[]⟩)
            have g0 := cell_of (i := 0) hB rfl
            have g1 := cell_of (i := 1) hB rfl
            have g2 := cell_of (i := 2) hB rfl
            have g3 := cell_of (i := 3) hB rfl
            have KS := keeps_set4 KK.out (w.heap.size + 5) (.int .i64 0) (.int .i64 0) (.int .i64 0) (.string ⟨#[]⟩) (by omega)
            have RS := (RR.out).keeps (keeps_set4g _ (w.heap.size + 5) (.int .i64 0) (.int .i64 0) (.int .i64 0) (.string ⟨#[]⟩)) (fun e => by have e : s = w.heap.size + 5 := e; omega) (fun e => by have e : b = w.heap.size + 5 := e; omega) (fun e => by have e : bb = w.heap.size + 5 := e; omega)
            exact bodyPost_ret (v := .tuple #[Wd.none.val, (.int .i64 (q2).2)]) (by simp [results, Tryz.results82, go_sem, Wd.val, Wd.none, g0, g1, g2, g3]) rfl ⟨rfl, RS, by first | exact KS | exact KS.mono (fun _ _ e => e.elim)⟩
          have dd : (q2.2 != 0) = false := by simp [he]
          have hq := Lib.hid (T3.out he)
          clear he
          go_wp2_with fail
          refine (head_cr3 W s b bb _ _ _ _ (lower name) w.heap.size g2 RW.out (cell_of BX.out.e0 rfl) WG.out (by unfold lower; rw [List.length_map]; exact hlen)).mono ?_
          rintro e W1 ⟨rfl, r1, k1⟩
          rw [← hq.out] at r1 ⊢
          replace BX := Lib.hid (BX.out.keeps k1 (fun k hk e => by rcases e with e | e <;> omega))
          replace KW := Lib.hid (KW.out.trans k1)
          replace WG := Lib.hid (show WdCells g2 q0.1.here 0 fl (lower name) W1 from k1.heap WG.out (fun e => by rcases e with e | e <;> omega))
          replace RW := Lib.hid r1
          clear r1 k1 cc dd hq
          clear W
          rename World => W
          go_wp2_with fail
          rw [rounds_succ]
          have cc : W.cell? ⟨gp, 3, none⟩ = some (.func (.func 147) #[Pt s] #[]) := cell_of BX.out.ep rfl
          by_cases he : q3.2 = 0
          rotate_left
          · have dd : ((q3).2 != 0) = true := by simp [he]
            have hr := (Z3).out he
            subst hr
            have cs : W.cell? ⟨w.heap.size, 0, none⟩ = some (.pointer (some ⟨s, 0, none⟩)) := cell_of BX.out.e0 rfl
            clear he
            go_wp2_with fail
            refine (sp_back W s b bb _ x.here RW.out).mono ?_
            rintro e W' ⟨rfl, rb, kb⟩
            have BB := Lib.hid (BX.out.keeps kb (fun k hk e => by rcases e with e | e <;> omega))
            have KK := Lib.hid (KW.out.trans kb)
            have RR := Lib.hid rb
            have a0 : W'.cell? ⟨w.heap.size + 5, 0, none⟩ = some (.int .i64 0) := cell_of BB.out.e5 rfl
            have a1 : W'.cell? ⟨w.heap.size + 5, 1, none⟩ = some (.int .i64 0) := cell_of BB.out.e5 rfl
            have a2 : W'.cell? ⟨w.heap.size + 5, 2, none⟩ = some (.int .i64 0) := cell_of BB.out.e5 rfl
            have a3 : W'.cell? ⟨w.heap.size + 5, 3, none⟩ = some (.string ⟨#[]⟩) := cell_of BB.out.e5 rfl
            have b0 := free_of (i := 0) BB.out.e5
            have b1 := free_of (i := 1) BB.out.e5
            have b2 := free_of (i := 2) BB.out.e5
            have b3 := free_of (i := 3) BB.out.e5
            clear rb kb cs
            go_wp2_with fail
            have hB := set4 BB.out.e5 (.int .i64 0) (.int .i64 0) (.int .i64 0) (.string ⟨#[]⟩)
            have g0 := cell_of (i := 0) hB rfl
            have g1 := cell_of (i := 1) hB rfl
            have g2 := cell_of (i := 2) hB rfl
            have g3 := cell_of (i := 3) hB rfl
            have KS := keeps_set4 KK.out (w.heap.size + 5) (.int .i64 0) (.int .i64 0) (.int .i64 0) (.string ⟨#[]⟩) (by omega)
            have RS := (RR.out).keeps (keeps_set4g _ (w.heap.size + 5) (.int .i64 0) (.int .i64 0) (.int .i64 0) (.string ⟨#[]⟩)) (fun e => by have e : s = w.heap.size + 5 := e; omega) (fun e => by have e : b = w.heap.size + 5 := e; omega) (fun e => by have e : bb = w.heap.size + 5 := e; omega)
            exact bodyPost_ret (v := .tuple #[Wd.none.val, (.int .i64 (q3).2)]) (by simp [results, Tryz.results82, go_sem, Wd.val, Wd.none, g0, g1, g2, g3]) rfl ⟨rfl, RS, by first | exact KS | exact KS.mono (fun _ _ e => e.elim)⟩
          have dd : (q3.2 != 0) = false := by simp [he]
          have hq := Lib.hid (T4.out he)
          clear he
          go_wp2_with fail
          refine (sp_align W s b bb _ RW.out).mono ?_
          rintro e W1 ⟨rfl, r1, k1⟩
          rw [← hq.out] at r1 ⊢
          replace BX := Lib.hid (BX.out.keeps k1 (fun k hk e => by rcases e with e | e <;> omega))
          replace KW := Lib.hid (KW.out.trans k1)
          replace WG := Lib.hid (show WdCells g2 q0.1.here 0 fl (lower name) W1 from k1.heap WG.out (fun e => by rcases e with e | e <;> omega))
          replace RW := Lib.hid r1
          clear r1 k1 cc dd hq
          clear W
          rename World => W
          go_wp2_with fail
          rw [rounds_succ]
          have cc : W.cell? ⟨gp, 4, none⟩ = some (.func (.func 152) #[] #[Pt w.heap.size, Pt g2, Pt (w.heap.size + 1 + 1 + 1 + 1)]) := cell_of BX.out.ep rfl
          by_cases he : q4.2 = 0
          rotate_left
          · have dd : ((q4).2 != 0) = true := by simp [he]
            have hr := (Z4).out he
            subst hr
            have cs : W.cell? ⟨w.heap.size, 0, none⟩ = some (.pointer (some ⟨s, 0, none⟩)) := cell_of BX.out.e0 rfl
            clear he
            go_wp2_with fail
            refine (sp_back W s b bb _ x.here RW.out).mono ?_
            rintro e W' ⟨rfl, rb, kb⟩
            have BB := Lib.hid (BX.out.keeps kb (fun k hk e => by rcases e with e | e <;> omega))
            have KK := Lib.hid (KW.out.trans kb)
            have RR := Lib.hid rb
            have a0 : W'.cell? ⟨w.heap.size + 5, 0, none⟩ = some (.int .i64 0) := cell_of BB.out.e5 rfl
            have a1 : W'.cell? ⟨w.heap.size + 5, 1, none⟩ = some (.int .i64 0) := cell_of BB.out.e5 rfl
            have a2 : W'.cell? ⟨w.heap.size + 5, 2, none⟩ = some (.int .i64 0) := cell_of BB.out.e5 rfl
            have a3 : W'.cell? ⟨w.heap.size + 5, 3, none⟩ = some (.string ⟨#[]⟩) := cell_of BB.out.e5 rfl
            have b0 := free_of (i := 0) BB.out.e5
            have b1 := free_of (i := 1) BB.out.e5
            have b2 := free_of (i := 2) BB.out.e5
            have b3 := free_of (i := 3) BB.out.e5
            clear rb kb cs
            go_wp2_with fail
            have hB := set4 BB.out.e5 (.int .i64 0) (.int .i64 0) (.int .i64 0) (.string ⟨#[]⟩)
            have g0 := cell_of (i := 0) hB rfl
            have g1 := cell_of (i := 1) hB rfl
            have g2 := cell_of (i := 2) hB rfl
            have g3 := cell_of (i := 3) hB rfl
            have KS := keeps_set4 KK.out (w.heap.size + 5) (.int .i64 0) (.int .i64 0) (.int .i64 0) (.string ⟨#[]⟩) (by omega)
            have RS := (RR.out).keeps (keeps_set4g _ (w.heap.size + 5) (.int .i64 0) (.int .i64 0) (.int .i64 0) (.string ⟨#[]⟩)) (fun e => by have e : s = w.heap.size + 5 := e; omega) (fun e => by have e : b = w.heap.size + 5 := e; omega) (fun e => by have e : bb = w.heap.size + 5 := e; omega)
            exact bodyPost_ret (v := .tuple #[Wd.none.val, (.int .i64 (q4).2)]) (by simp [results, Tryz.results82, go_sem, Wd.val, Wd.none, g0, g1, g2, g3]) rfl ⟨rfl, RS, by first | exact KS | exact KS.mono (fun _ _ e => e.elim)⟩
          have dd : (q4.2 != 0) = false := by simp [he]
          have hq := Lib.hid (T5.out he)
          clear he
          go_wp2_with fail
          refine (head_cr4 W s b bb _ _ _ _ cd (lower name) w.heap.size g2 (w.heap.size + 1 + 1 + 1 + 1) RW.out (cell_of BX.out.e0 rfl) WG.out (cell_of BX.out.e4 rfl) (by omega) (by omega) (by omega) (by omega) (by omega)).mono ?_
          rintro e W1 ⟨rfl, r1, g1, k1⟩
          rw [← hq.out] at r1 ⊢
          replace BX := Lib.hid (BX.out.keeps k1 (fun k hk e => by rcases e with e | e | e <;> omega))
          replace KW := Lib.hid (KW.out.trans' k1 (fun i hi e => by rcases e with e | e | e; exact .inl e; exact .inr e; omega))
          replace WG := Lib.hid (show WdCells g2 q0.1.here q4.1.here fl (lower name) W1 from g1)
          replace RW := Lib.hid r1
          clear r1 k1 g1 cc dd hq W
          rename World => W
          go_wp2_with fail
          rw [rounds_succ]
          have cc : W.cell? ⟨gp, 5, none⟩ = some (.func (.func 153) #[] #[Pt w.heap.size, Pt (w.heap.size + 1), Pt g2]) := cell_of BX.out.ep rfl
          by_cases he : q5.2 = 0
          rotate_left
          · have dd : ((q5).2 != 0) = true := by simp [he]
            have hr := (Z5).out he
            subst hr
            have cs : W.cell? ⟨w.heap.size, 0, none⟩ = some (.pointer (some ⟨s, 0, none⟩)) := cell_of BX.out.e0 rfl
            clear he
            go_wp2_with fail
            refine (sp_back W s b bb _ x.here RW.out).mono ?_
            rintro e W' ⟨rfl, rb, kb⟩
            have BB := Lib.hid (BX.out.keeps kb (fun k hk e => by rcases e with e | e <;> omega))
            have KK := Lib.hid (KW.out.trans kb)
            have RR := Lib.hid rb
            have a0 : W'.cell? ⟨w.heap.size + 5, 0, none⟩ = some (.int .i64 0) := cell_of BB.out.e5 rfl
            have a1 : W'.cell? ⟨w.heap.size + 5, 1, none⟩ = some (.int .i64 0) := cell_of BB.out.e5 rfl
            have a2 : W'.cell? ⟨w.heap.size + 5, 2, none⟩ = some (.int .i64 0) := cell_of BB.out.e5 rfl
            have a3 : W'.cell? ⟨w.heap.size + 5, 3, none⟩ = some (.string ⟨#[]⟩) := cell_of BB.out.e5 rfl
            have b0 := free_of (i := 0) BB.out.e5
            have b1 := free_of (i := 1) BB.out.e5
            have b2 := free_of (i := 2) BB.out.e5
            have b3 := free_of (i := 3) BB.out.e5
            clear rb kb cs
            go_wp2_with fail
            have hB := set4 BB.out.e5 (.int .i64 0) (.int .i64 0) (.int .i64 0) (.string ⟨#[]⟩)
            have g0 := cell_of (i := 0) hB rfl
            have g1 := cell_of (i := 1) hB rfl
            have g2 := cell_of (i := 2) hB rfl
            have g3 := cell_of (i := 3) hB rfl
            have KS := keeps_set4 KK.out (w.heap.size + 5) (.int .i64 0) (.int .i64 0) (.int .i64 0) (.string ⟨#[]⟩) (by omega)
            have RS := (RR.out).keeps (keeps_set4g _ (w.heap.size + 5) (.int .i64 0) (.int .i64 0) (.int .i64 0) (.string ⟨#[]⟩)) (fun e => by have e : s = w.heap.size + 5 := e; omega) (fun e => by have e : b = w.heap.size + 5 := e; omega) (fun e => by have e : bb = w.heap.size + 5 := e; omega)
            exact bodyPost_ret (v := .tuple #[Wd.none.val, (.int .i64 (q5).2)]) (by simp [results, Tryz.results82, go_sem, Wd.val, Wd.none, g0, g1, g2, g3]) rfl ⟨rfl, RS, by first | exact KS | exact KS.mono (fun _ _ e => e.elim)⟩
          have dd : (q5.2 != 0) = false := by simp [he]
          have hq := Lib.hid (T6.out he)
          clear he
          go_wp2_with fail
          refine (head_cr5 W s b bb _ _ _ _ l (lower name) w.heap.size (w.heap.size + 1) g2 RW.out (cell_of BX.out.e0 rfl) WG.out (cell_of BX.out.e1 rfl)).mono ?_
          rintro e W1 ⟨rfl, r1, k1⟩
          rw [← hq.out] at r1 ⊢
          replace BX := Lib.hid (BX.out.keeps k1 (fun k hk e => by rcases e with e | e <;> omega))
          replace KW := Lib.hid (KW.out.trans k1)
          replace WG := Lib.hid (show WdCells g2 q0.1.here q4.1.here fl (lower name) W1 from k1.heap WG.out (fun e => by rcases e with e | e <;> omega))
          replace RW := Lib.hid r1
          clear r1 k1 cc dd hq
          clear W
          rename World => W
          go_wp2_with fail
          rw [rounds_succ]
          by_cases he : q6.2 = 0
          rotate_left
          · have dd : ((q6).2 != 0) = true := by simp [he]
            have hr := (Z6).out he
            subst hr
            have cs : W.cell? ⟨w.heap.size, 0, none⟩ = some (.pointer (some ⟨s, 0, none⟩)) := cell_of BX.out.e0 rfl
            clear he
            go_wp2_with fail
            refine (sp_back W s b bb _ x.here RW.out).mono ?_
            rintro e W' ⟨rfl, rb, kb⟩
            have BB := Lib.hid (BX.out.keeps kb (fun k hk e => by rcases e with e | e <;> omega))
            have KK := Lib.hid (KW.out.trans kb)
            have RR := Lib.hid rb
            have a0 : W'.cell? ⟨w.heap.size + 5, 0, none⟩ = some (.int .i64 0) := cell_of BB.out.e5 rfl
            have a1 : W'.cell? ⟨w.heap.size + 5, 1, none⟩ = some (.int .i64 0) := cell_of BB.out.e5 rfl
            have a2 : W'.cell? ⟨w.heap.size + 5, 2, none⟩ = some (.int .i64 0) := cell_of BB.out.e5 rfl
            have a3 : W'.cell? ⟨w.heap.size + 5, 3, none⟩ = some (.string ⟨#[]⟩) := cell_of BB.out.e5 rfl
            have b0 := free_of (i := 0) BB.out.e5
            have b1 := free_of (i := 1) BB.out.e5
            have b2 := free_of (i := 2) BB.out.e5
            have b3 := free_of (i := 3) BB.out.e5
            clear rb kb cs
            go_wp2_with fail
            have hB := set4 BB.out.e5 (.int .i64 0) (.int .i64 0) (.int .i64 0) (.string ⟨#[]⟩)
            have g0 := cell_of (i := 0) hB rfl
            have g1 := cell_of (i := 1) hB rfl
            have g2 := cell_of (i := 2) hB rfl
            have g3 := cell_of (i := 3) hB rfl
            have KS := keeps_set4 KK.out (w.heap.size + 5) (.int .i64 0) (.int .i64 0) (.int .i64 0) (.string ⟨#[]⟩) (by omega)
            have RS := (RR.out).keeps (keeps_set4g _ (w.heap.size + 5) (.int .i64 0) (.int .i64 0) (.int .i64 0) (.string ⟨#[]⟩)) (fun e => by have e : s = w.heap.size + 5 := e; omega) (fun e => by have e : b = w.heap.size + 5 := e; omega) (fun e => by have e : bb = w.heap.size + 5 := e; omega)
            exact bodyPost_ret (v := .tuple #[Wd.none.val, (.int .i64 (q6).2)]) (by simp [results, Tryz.results82, go_sem, Wd.val, Wd.none, g0, g1, g2, g3]) rfl ⟨rfl, RS, by first | exact KS | exact KS.mono (fun _ _ e => e.elim)⟩
          have dd : (q6.2 != 0) = false := by simp [he]
          have hr := ZF.out he
          subst hr
          clear he
          have a0 : W.cell? ⟨w.heap.size + 5, 0, none⟩ = some (.int .i64 0) := cell_of BX.out.e5 rfl
          have a1 : W.cell? ⟨w.heap.size + 5, 1, none⟩ = some (.int .i64 0) := cell_of BX.out.e5 rfl
          have a2 : W.cell? ⟨w.heap.size + 5, 2, none⟩ = some (.int .i64 0) := cell_of BX.out.e5 rfl
          have a3 : W.cell? ⟨w.heap.size + 5, 3, none⟩ = some (.string ⟨#[]⟩) := cell_of BX.out.e5 rfl
          have b0 := free_of (i := 0) BX.out.e5
          have b1 := free_of (i := 1) BX.out.e5
          have b2 := free_of (i := 2) BX.out.e5
          have b3 := free_of (i := 3) BX.out.e5
          have y0 : W.cell? ⟨g2, 0, none⟩ = some (.int .i64 q0.1.here) := cell_of WG.out rfl
          have y1 : W.cell? ⟨g2, 1, none⟩ = some (.int .i64 q4.1.here) := cell_of WG.out rfl
          have y2 : W.cell? ⟨g2, 2, none⟩ = some (.int .i64 fl) := cell_of WG.out rfl
          have y3 : W.cell? ⟨g2, 3, none⟩ = some (.string ⟨(lower name).toArray⟩) := cell_of WG.out rfl
          go_wp2_with fail
          have hB := set4 BX.out.e5 (.int .i64 q0.1.here) (.int .i64 q4.1.here) (.int .i64 fl) (.string ⟨(lower name).toArray⟩)
          have g0 := cell_of (i := 0) hB rfl
          have g1 := cell_of (i := 1) hB rfl
          have g2' := cell_of (i := 2) hB rfl
          have g3 := cell_of (i := 3) hB rfl
          have KS := keeps_set4 KW.out (w.heap.size + 5) (.int .i64 q0.1.here) (.int .i64 q4.1.here) (.int .i64 fl) (.string ⟨(lower name).toArray⟩) (by omega)
          have RS := RW.out.keeps (keeps_set4g _ (w.heap.size + 5) (.int .i64 q0.1.here) (.int .i64 q4.1.here) (.int .i64 fl) (.string ⟨(lower name).toArray⟩)) (fun e => by have e : s = w.heap.size + 5 := e; omega) (fun e => by have e : b = w.heap.size + 5 := e; omega) (fun e => by have e : bb = w.heap.size + 5 := e; omega)
          exact bodyPost_ret (v := .tuple #[Wd.val ⟨q0.1.here, q4.1.here, fl, lower name⟩, .int .i64 0]) (by simp [results, Tryz.results82, go_sem, Wd.val, g0, g1, g2', g3]) rfl ⟨rfl, RS, KS⟩
end Go.Proofs.Shed
