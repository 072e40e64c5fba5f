/- Layer 15: New. Conditions: the configuration may be, and there is room for all. -/
import Derived.Test.YthhfkhhhclmimaaGreatDoorMVB
import Derived.Test.YthhfkhhhclmimaaGreatDoorMDC
import Derived.Deep.DeepCutAuto
set_option linter.unusedVariables false
set_option linter.unusedSimpArgs false
set_option maxRecDepth 10000
set_option maxHeartbeats 4000000
namespace Go.Proofs.Shed
open Go Go.RowKit Go.Proofs.K Go.Proofs.Cod

theorem map_run {P : Program} {k : TypeId} {α : Type} [DecidableEq α] (kk : Key P k α) {w : World} {b n : Nat} {f : α → Option Value} (t e : TypeId) (ht : P.underlying t = some (.map k e)) (hown : MapIs kk w b n f) (hn : n < maxLen) (key : α) (hok : kk.ok key) (val : Value) :
    ∃ w', (Instr.mapUpdate t (.map (some b)) (kk.val key) val).run P w = .ok () w' ∧ MapIs kk w' b (n + 1) (upd f key val) ∧ Keeps (fun g => g = b) w w' := by
  obtain ⟨D, hown, hr⟩ := hown
  have hD := (hown.tidy kk.kd).isMap
  obtain ⟨w', hrun, r1, r2⟩ := hown.update kk.kd ht hn (kk.reads key hok) (show RV val = some (.held val, []) from rfl)
  exact ⟨w', hrun, ⟨_, r1, hr.put hD key val⟩, Keeps.grown (S := fun g => g = b) r2 (fun j _ e => (Option.some.inj e).symm)⟩

theorem allocs3 (w : World) (o0 o1 o2 : Obj) : ∃ W, W = ((w.alloc o0).alloc o1).alloc o2 ∧ W.heap[w.heap.size]? = some o0 ∧ W.heap[w.heap.size + 1]? = some o1 ∧ W.heap[w.heap.size + 2]? = some o2 ∧ W.heap.size = w.heap.size + 3 ∧ Keeps (fun _ => False) w W := by
  refine ⟨_, rfl, ?_, ?_, ?_, ?_, ?_⟩
  · exact (halloc_old _ _ (by first | (simp; done) | (simp; omega))).trans ((halloc_old _ _ (by first | (simp; done) | (simp; omega))).trans (halloc_at _ _))
  · exact (halloc_old _ _ (by first | (simp; done) | (simp; omega))).trans (halloc_2 _ _ _)
  · have := halloc_at ((w.alloc o0).alloc o1) o2
    simpa using this
  · simp
  · exact ((Keeps.alloc _ _ _).trans (Keeps.alloc _ _ _)).trans (Keeps.alloc _ _ _)
theorem intern_new (w : World) (n : Int) : Calls Tryz.prog 119 #[.int .i64 n] w fun e w' => ∃ nb, e = .returned (.pointer (some ⟨nb, 0, none⟩)) ∧ w.heap.size ≤ nb ∧ nb < w'.heap.size ∧ Keeps (fun _ => False) w w' := by
  have hmm := @run_makeMap Tryz.prog
  go_enter Tryz.func119, Tryz.ntmps119
  go_wp2_with fail
  go_ret
  exact ⟨_, rfl, by omega, by simp, (Keeps.alloc _ _ _).trans (Keeps.alloc _ _ _)⟩
theorem al3 (w : World) (o0 o1 o2 : Obj) : (((w.alloc o0).alloc o1).alloc o2).heap[w.heap.size]? = some o0 ∧ (((w.alloc o0).alloc o1).alloc o2).heap[w.heap.size + 1]? = some o1 ∧ (((w.alloc o0).alloc o1).alloc o2).heap[w.heap.size + 1 + 1]? = some o2 ∧ Keeps (fun _ => False) w (((w.alloc o0).alloc o1).alloc o2) := by
  obtain ⟨W, rfl, h0, h1, h2, _, hk⟩ := allocs3 w o0 o1 o2
  exact ⟨h0, h1, h2, hk⟩
theorem al2 (w : World) (o0 o1 : Obj) : ((w.alloc o0).alloc o1).heap[w.heap.size]? = some o0 ∧ ((w.alloc o0).alloc o1).heap[w.heap.size + 1]? = some o1 ∧ Keeps (fun _ => False) w ((w.alloc o0).alloc o1) :=
  ⟨(halloc_old _ _ (by simp)).trans (halloc_at _ _), halloc_2 _ _ _, (Keeps.alloc _ _ _).trans (Keeps.alloc _ _ _)⟩
theorem setSize (w : World) (p : Addr) (v : Value) : (w.setCell p v).heap.size = w.heap.size := by simp
theorem al1s (w : World) (p : Addr) (v : Value) (o : Obj) : ((w.setCell p v).alloc o).heap[w.heap.size]? = some o := by
  have := halloc_at (w.setCell p v) o
  rwa [setSize] at this
theorem al2s (w : World) (p : Addr) (v : Value) (o0 o1 : Obj) : (((w.setCell p v).alloc o0).alloc o1).heap[w.heap.size]? = some o0 ∧ (((w.setCell p v).alloc o0).alloc o1).heap[w.heap.size + 1]? = some o1 := by
  have h := al2 (w.setCell p v) o0 o1
  rw [setSize] at h
  exact ⟨h.1, h.2.1⟩
theorem MapIs.empty {P : Program} {k : TypeId} {α : Type} (kk : Key P k α) {w : World} {b : Nat} (h : w.heap[b]? = some (.map #[] 0)) : MapIs kk w b 0 (fun _ => none) :=
  ⟨.map [], ⟨#[], 0, h, ⟨by simp, Go.MapKept.stamped_empty 0, by simp⟩, Nat.le_refl _, rfl⟩, fun _ _ => rfl, fun _ _ _ h => by cases h⟩
def mach0 (nb : Nat) (slots : Int) (inp : List UInt8) (pb : Nat) : Mc := ⟨none, none, none, none, nb, 0, 0, 0, 0, slots, 0, [], inp, false, 0, 0, 0, pb⟩
/-- Behind the machine's making. -/
def Fin9 (W3 : World) (slots : Int) (inp : List UInt8) (v : Value) (wx : World) : Prop :=
  ∃ mb nb pb x11 : Nat, v = .pointer (some ⟨x11, 0, none⟩) ∧ wx.heap[x11]? = some (.cells #[.pointer (some ⟨mb, 0, none⟩)] 35 (0, 0)) ∧ RMc wx mb (mach0 nb slots inp pb) ∧ MapIs ik wx pb 0 (fun _ => none) ∧ W3.heap.size ≤ x11 ∧ W3.heap.size ≤ mb ∧ W3.heap.size ≤ pb ∧ mb ≠ x11 ∧ Keeps (fun _ => False) W3 wx
theorem fin9 (W3 wx : World) (slots : Int) (inp : List UInt8) (x11 mb nb pb : Nat) (h1 : wx.heap[x11]? = some (.cells #[.pointer (some ⟨mb, 0, none⟩)] 35 (0, 0))) (h2 : wx.heap[mb]? = some (.cells (mach0 nb slots inp pb).cells 47 (0, 0))) (h3 : wx.heap[pb]? = some (.map #[] 0))
    (l1 : W3.heap.size ≤ x11) (l2 : W3.heap.size ≤ mb) (l3 : W3.heap.size ≤ pb) (n : mb ≠ x11) (k : Keeps (fun _ => False) W3 wx) : Fin9 W3 slots inp (.pointer (some ⟨x11, 0, none⟩)) wx := ⟨mb, nb, pb, x11, rfl, h1, h2, MapIs.empty ik h3, l1, l2, l3, n, k⟩
structure NBx (x2 x6 x7 x8 x9 x11 mb b : Nat) (dict data ret hz slots : Int) (W : World) : Prop where
  r2 : RCf W x2 dict data ret hz slots
  r6 : W.heap[x6]? = some (.cells #[.int .i64 dict] 2 (0, 0))
  r7 : W.heap[x7]? = some (.cells #[.int .i64 (dict + data * 8)] 2 (0, 0))
  r8 : W.heap[x8]? = some (.cells #[.int .i64 (dict + data * 8 + ret * 8)] 2 (0, 0))
  r9 : W.heap[x9]? = some (.cells #[.pointer (some ⟨b, 0, none⟩)] 82 (0, 0))
  r11 : W.heap[x11]? = some (.cells #[.pointer (some ⟨mb, 0, none⟩)] 35 (0, 0))
theorem NBx.keeps {x2 x6 x7 x8 x9 x11 mb b : Nat} {dict data ret hz slots : Int} {W W' : World} (h : NBx x2 x6 x7 x8 x9 x11 mb b dict data ret hz slots W) {S : Nat → Prop} (k : Keeps S W W') (n : ∀ k, k = x2 ∨ k = x6 ∨ k = x7 ∨ k = x8 ∨ k = x9 ∨ k = x11 → ¬ S k) : NBx x2 x6 x7 x8 x9 x11 mb b dict data ret hz slots W' :=
  ⟨k.heap h.r2 (n _ (by simp)), k.heap h.r6 (n _ (by simp)), k.heap h.r7 (n _ (by simp)), k.heap h.r8 (n _ (by simp)), k.heap h.r9 (n _ (by simp)), k.heap h.r11 (n _ (by simp))⟩
theorem num_ok (s : List UInt8) : ik.ok (num s) := by
  have h := idx_bd s names 86 names_len
  show (Lit.int .i64 (num s)).wf = true
  unfold num
  have h1 : 0 ≤ idx s names + 1 := by omega
  have h2 : idx s names + 1 ≤ 86 := by omega
  generalize idx s names + 1 = n at h1 h2
  simp [Lit.wf, IntKind.min, IntKind.max, IntKind.bits, IntKind.signed]
  omega
/-- What New needs to go through. -/
structure NewOk (dict data ret hz : Int) (m1 : Mem) (x1 y : Sp) (root base list caught : Int) : Prop where
  d8 : 8 ≤ dict
  dm : dict % 8 = 0
  t0 : 0 ≤ data
  r0 : 0 ≤ ret
  h16 : 16 ≤ hz
  hm : hz % 8 = 0
  top : dict + data * 8 + ret * 8 + hz ≤ 1048576
  put : Heap.put (Mem.zero (dict + data * 8 + ret * 8 + hz).toNat) ⟨dict + data * 8 + ret * 8, hz, false⟩ = (m1, 0)
  rt : Class.root ⟨m1, 8, dict, 8⟩ = (x1, root, 0)
  pr : Vm.prims x1 = some (y, base, list, caught)

def VmPost (dict data ret slots hz : Int) (inp : List UInt8) (y : Sp) (root base list caught : Int) (w : World) (e : Ending) (w' : World) : Prop :=
  ∃ mb nb pb s b bb db rb hb lo hi : Nat, e = .returned (.tuple #[.pointer (some ⟨mb, 0, none⟩), .int .i64 0]) ∧ RMc w' mb ⟨some s, some db, some rb, some hb, nb, 0, 0, root, list, slots, 0, [], inp, false, base, caught, 0, pb⟩ ∧ RSp w' s b bb y ∧
    RStk w' db b ⟨dict, data, 0, -3, -4⟩ ∧ RStk w' rb b ⟨dict + data * 8, ret, 0, -5, -6⟩ ∧ w'.heap[hb]? = some (.cells #[.pointer (some ⟨b, 0, none⟩), .int .i64 (dict + data * 8 + ret * 8), .int .i64 (dict + data * 8 + ret * 8 + hz)] 298 (0, 0)) ∧ Does (fun g => lo ≤ g ∧ g < hi) w' pb ∧
    (w.heap.size ≤ mb ∧ w.heap.size ≤ pb ∧ w.heap.size ≤ b ∧ w.heap.size ≤ bb) ∧ (mb < lo ∧ pb < lo ∧ b < lo ∧ bb < lo) ∧ lo ≤ hi ∧ hi ≤ hb ∧ hb < db ∧ db < rb ∧ rb < s ∧ mb ≠ pb ∧ mb ≠ b ∧ mb ≠ bb ∧ b ≠ bb ∧ Keeps (fun _ => False) w w'
def newV (x2 x6 x7 x8 x9 x11 mb : Nat) : Array Value := #[.func (.func 122) #[] #[Pt x9, Pt x8, Pt x2, Pt x11], .func (.func 124) #[] #[Pt x9, Pt x6, Pt x2, Pt x11], .func (.func 126) #[] #[Pt x9, Pt x7, Pt x2, Pt x11],
  .func (.func 127) #[] #[Pt x9, Pt x2, Pt x11], .func (.func 129) #[] #[Pt x11], .func (.func 131) #[Pt mb] #[]]
theorem vm_new (w : World) (dict data ret hz slots : Int) (inp : List UInt8) (m1 : Mem) (x1 y : Sp) (root base list caught : Int) (ok : NewOk dict data ret hz m1 x1 y root base list caught) :
    Calls Tryz.prog 71 #[.agg #[.int .i64 dict, .int .i64 data, .int .i64 ret, .int .i64 hz, .int .i64 slots], .string ⟨inp.toArray⟩] w (VmPost dict data ret slots hz inp y root base list caught w) := by
  obtain ⟨d8, dm, t0, r0, h16, hm, top, put, rt, pr⟩ := ok
  have e1 : decide (dict < 0) = false := decide_eq_false (by omega)
  have e2 : decide (data < 0) = false := decide_eq_false (by omega)
  have e3 : decide (ret < 0) = false := decide_eq_false (by omega)
  have e4 : decide (hz < 0) = false := decide_eq_false (by omega)
  have e5 : dict.tmod 8 = 0 := by rw [Int.tmod_eq_emod_of_nonneg (by omega)]; exact dm
  have e6 : hz.tmod 8 = 0 := by rw [Int.tmod_eq_emod_of_nonneg (by omega)]; exact hm
  have e7 : (dict % 8 != 0) = false := by simp [dm]
  have e8 : (hz % 8 != 0) = false := by simp [hm]
  have c0 := Lib.hid (halloc_at w (.cells #[.int .i64 dict, .int .i64 data, .int .i64 ret, .int .i64 hz, .int .i64 slots] 119))
  have K0 := Lib.hid (Keeps.alloc (fun _ => False) w (.cells #[.int .i64 dict, .int .i64 data, .int .i64 ret, .int .i64 hz, .int .i64 slots] 119))
  have hs0 : (w.alloc (.cells #[.int .i64 dict, .int .i64 data, .int .i64 ret, .int .i64 hz, .int .i64 slots] 119)).heap.size = w.heap.size + 1 := by simp
  generalize hW : w.alloc (.cells #[.int .i64 dict, .int .i64 data, .int .i64 ret, .int .i64 hz, .int .i64 slots] 119) = W at c0 K0 hs0
  have HW := Lib.hid hW
  have a0 : W.cell? ⟨w.heap.size, 0, none⟩ = some (.int .i64 dict) := cell_of c0.out rfl
  have a1 : W.cell? ⟨w.heap.size, 1, none⟩ = some (.int .i64 data) := cell_of c0.out rfl
  have a2 : W.cell? ⟨w.heap.size, 2, none⟩ = some (.int .i64 ret) := cell_of c0.out rfl
  have a3 : W.cell? ⟨w.heap.size, 3, none⟩ = some (.int .i64 hz) := cell_of c0.out rfl
  have a4 : W.cell? ⟨w.heap.size, 4, none⟩ = some (.int .i64 slots) := cell_of c0.out rfl
  obtain ⟨mx, hmx, hmr⟩ : ∃ mx : Int, mx ≤ 1048576 ∧ ∀ V, (Builtin.max_ #[2, 2, 2, 2] 2 #[.int .i64 dict, .int .i64 hz, .int .i64 data, .int .i64 ret]).run Tryz.prog V = .ok (.int .i64 mx) V := by
    refine ⟨if ret > (if data > (if hz > dict then hz else dict) then data else (if hz > dict then hz else dict)) then ret else (if data > (if hz > dict then hz else dict) then data else (if hz > dict then hz else dict)), ?_, fun V => rfl⟩
    repeat' split
    all_goals omega
  have hmd : decide (1048576 < mx) = false := decide_eq_false (by omega)
  clear hmx
  clear hW
  go_enter Tryz.func71, Tryz.ntmps71
  go_upto_region 1 with fail
  rw [HW.out]
  clear HW
  go_wp2_with fail
  obtain ⟨W1, hW1, x6, x7, x8, hs1, k1⟩ := allocs3 W (.cells #[.int .i64 dict] 2) (.cells #[.int .i64 (dict + data * 8)] 2) (.cells #[.int .i64 (dict + data * 8 + ret * 8)] 2)
  rw [← hW1]
  clear hW1
  have hn : NewPost (dict + data * 8 + ret * 8 + hz) W1 = fun e w' => ∃ b bb, e = .returned (.tuple #[.pointer (some ⟨b, 0, none⟩), .int .i64 0]) ∧ RMem w' b bb (Mem.zero (dict + data * 8 + ret * 8 + hz).toNat) ∧ W1.heap.size ≤ b ∧ W1.heap.size ≤ bb ∧ Keeps (fun _ => False) W1 w' := by
    funext e w'
    unfold NewPost Mem.newCode
    rw [if_pos (by rw [if_pos (by omega)])]
  have HN := mem_new W1 (dict + data * 8 + ret * 8 + hz)
  rw [hn] at HN
  refine HN.mono ?_
  rintro e W2 ⟨b, bb, rfl, hm2, hb1, hb2, k2⟩
  clear HN hn a0 a1 a2 a3 a4 e1 e2 e3 e4 e5 e6 e7 e8 hmr hmd
  have kk := k1.trans k2
  have X2 := Lib.hid (kk.heap c0.out id)
  have X6 := Lib.hid (k2.heap x6 id)
  have X7 := Lib.hid (k2.heap x7 id)
  have X8 := Lib.hid (k2.heap x8 id)
  have M2 := Lib.hid hm2
  have K2 := Lib.hid (K0.out.trans kk)
  have hs2 := k2.size
  have hbl := hm2.lt
  clear x6 x7 x8 hm2 k1 k2 kk c0 K0
  go_wp2_with fail
  obtain ⟨x9, hx9⟩ : ∃ x9, x9 = W2.heap.size := ⟨_, rfl⟩
  have X9 := Lib.hid (halloc_at W2 (.cells #[.pointer (some ⟨b, 0, none⟩)] 82))
  rw [← hx9] at X9
  have KA := Lib.hid (Keeps.alloc (fun _ => False) W2 (.cells #[.pointer (some ⟨b, 0, none⟩)] 82))
  have hs3 : (W2.alloc (.cells #[.pointer (some ⟨b, 0, none⟩)] 82)).heap.size = W2.heap.size + 1 := by simp
  rw [← hx9]
  rw [← hx9] at hs3
  have HX9 := Lib.hid hx9
  clear hx9
  generalize W2.alloc (.cells #[.pointer (some ⟨b, 0, none⟩)] 82) = W3 at X9 KA hs3 ⊢
  replace X2 := Lib.hid (KA.out.heap X2.out id)
  replace X6 := Lib.hid (KA.out.heap X6.out id)
  replace X7 := Lib.hid (KA.out.heap X7.out id)
  replace X8 := Lib.hid (KA.out.heap X8.out id)
  replace M2 := Lib.hid (M2.out.keeps KA.out id id)
  replace K2 := Lib.hid (K2.out.trans KA.out)
  clear KA
  have hmm := @run_makeMap Tryz.prog
  have a4 : W3.cell? ⟨w.heap.size, 4, none⟩ = some (.int .i64 slots) := cell_of X2.out rfl
  have hx2s : w.heap.size < W3.heap.size := lt_of_heap X2.out
  have HIN := Lib.hid fun V => intern_new V 1024
  have HS3 := Lib.hid hs3
  clear hs3
  go_cut [11] (fun v11 wx => Fin9 W3 slots inp v11 wx)
  case first =>
    go_region_held3 (fun w' => w'.cell? ⟨w.heap.size, 4, none⟩ = some (.int .i64 slots))
      (first | go_keep | (repeat (first | exact p4 | refine (Keeps.alloc (fun _ => False) _ _).cell ?_ id | refine (Keeps.setCell (S := fun k => k = W3.heap.size) _ ⟨W3.heap.size, 0, none⟩ _ (fun _ => rfl)).cell ?_ (by show ¬ w.heap.size = W3.heap.size; omega) | refine (Keeps.setCell (S := fun k => k = W3.heap.size + 1) _ ⟨W3.heap.size + 1, 0, none⟩ _ (fun _ => rfl)).cell ?_ (by show ¬ w.heap.size = W3.heap.size + 1; omega))))
      (first
        | (go_at_call 119; refine (HIN.out ((W3.alloc (.cells #[.pointer none] 35)).alloc (.map #[] 0)).drew).mono ?_; rintro e w4 ⟨nb, rfl, l4, l5, k4⟩; dsimp only
           have ks : Keeps (fun _ => False) W3 w4 := ((Keeps.alloc (fun _ => False) W3 (.cells #[.pointer none] 35)).trans (Keeps.alloc (fun _ => False) _ (.map #[] 0))).trans ((Keeps.drew (fun _ => False) _).trans k4)
           have p4 : w4.cell? ⟨w.heap.size, 4, none⟩ = some (.int .i64 slots) := ks.cell a4 id
           have s4 := ks.size
           have g1 : w4.heap.size < w4.heap.size + 1 := Nat.lt_succ_self _
           have g2 : w4.heap.size < w4.heap.size + 1 + 1 := Nat.lt_succ_of_lt g1
           have g3 : w4.heap.size ≤ w4.heap.size + 1 := Nat.le_succ _
           have g4 : ¬ w4.heap.size = w4.heap.size + 1 := by omega
           have g5 : ¬ w4.heap.size = w4.heap.size + 1 + 1 := by omega
           have nw : w.heap.size ≠ w4.heap.size := by omega
           have nw' : w4.heap.size ≠ w.heap.size := by omega
           have hz := k4.heap (show (((W3.alloc (.cells #[.pointer none] 35)).alloc (.map #[] 0)).drew).heap[W3.heap.size]? = some (.cells #[.pointer none] 35 (0, 0)) from (halloc_old _ _ (by simp)).trans (halloc_at W3 _)) id
           have hp := k4.heap (show (((W3.alloc (.cells #[.pointer none] 35)).alloc (.map #[] 0)).drew).heap[W3.heap.size + 1]? = some (.map #[] 0) from halloc_2 _ _ _) id
           have z0 : w4.cell? ⟨W3.heap.size, 0, none⟩ = some (.pointer none) := cell_of hz rfl
           have q0 : w4.frozen? ⟨W3.heap.size, 0, none⟩ = false := free_of hz
           have nz : w.heap.size ≠ W3.heap.size := by omega
           have nz' : W3.heap.size ≠ w.heap.size := by omega
           have lz := lt_of_heap hz
           have lz1 := Nat.lt_succ_of_lt lz
           have lz2 := Nat.ne_of_lt lz
           have lz3 := Nat.ne_of_lt lz1
           have lz4 := lz2.symm
           have lz5 := lz3.symm)
        | (go_at_call 119; refine (HIN.out ((W3.alloc (.map #[] 0)).alloc (.cells #[.pointer none] 35)).drew).mono ?_; rintro e w4 ⟨nb, rfl, l4, l5, k4⟩; dsimp only
           have ks : Keeps (fun _ => False) W3 w4 := ((Keeps.alloc (fun _ => False) W3 (.map #[] 0)).trans (Keeps.alloc (fun _ => False) _ (.cells #[.pointer none] 35))).trans ((Keeps.drew (fun _ => False) _).trans k4)
           have p4 : w4.cell? ⟨w.heap.size, 4, none⟩ = some (.int .i64 slots) := ks.cell a4 id
           have s4 := ks.size
           have g1 : w4.heap.size < w4.heap.size + 1 := Nat.lt_succ_self _
           have g2 : w4.heap.size < w4.heap.size + 1 + 1 := Nat.lt_succ_of_lt g1
           have g3 : w4.heap.size ≤ w4.heap.size + 1 := Nat.le_succ _
           have g4 : ¬ w4.heap.size = w4.heap.size + 1 := by omega
           have g5 : ¬ w4.heap.size = w4.heap.size + 1 + 1 := by omega
           have nw : w.heap.size ≠ w4.heap.size := by omega
           have nw' : w4.heap.size ≠ w.heap.size := by omega
           have hz := k4.heap (show (((W3.alloc (.map #[] 0)).alloc (.cells #[.pointer none] 35)).drew).heap[W3.heap.size + 1]? = some (.cells #[.pointer none] 35 (0, 0)) from halloc_2 _ _ _) id
           have hp := k4.heap (show (((W3.alloc (.map #[] 0)).alloc (.cells #[.pointer none] 35)).drew).heap[W3.heap.size]? = some (.map #[] 0) from (halloc_old _ _ (by simp)).trans (halloc_at W3 _)) id
           have z0 : w4.cell? ⟨(W3.heap.size + 1), 0, none⟩ = some (.pointer none) := cell_of hz rfl
           have q0 : w4.frozen? ⟨(W3.heap.size + 1), 0, none⟩ = false := free_of hz
           have nz : w.heap.size ≠ (W3.heap.size + 1) := by omega
           have nz' : (W3.heap.size + 1) ≠ w.heap.size := by omega
           have lz := lt_of_heap hz
           have lz1 := Nat.lt_succ_of_lt lz
           have lz2 := Nat.ne_of_lt lz
           have lz3 := Nat.ne_of_lt lz1
           have lz4 := lz2.symm
           have lz5 := lz3.symm)
        | (go_at_call 119; refine (HIN.out (W3.alloc (.cells #[.pointer none] 35)).drew).mono ?_; rintro e w4 ⟨nb, rfl, l4, l5, k4⟩; dsimp only
           have ks : Keeps (fun _ => False) W3 w4 := ((Keeps.alloc (fun _ => False) W3 (.cells #[.pointer none] 35))).trans ((Keeps.drew (fun _ => False) _).trans k4)
           have p4 : w4.cell? ⟨w.heap.size, 4, none⟩ = some (.int .i64 slots) := ks.cell a4 id
           have s4 := ks.size
           have g1 : w4.heap.size < w4.heap.size + 1 := Nat.lt_succ_self _
           have g2 : w4.heap.size < w4.heap.size + 1 + 1 := Nat.lt_succ_of_lt g1
           have g3 : w4.heap.size ≤ w4.heap.size + 1 := Nat.le_succ _
           have g4 : ¬ w4.heap.size = w4.heap.size + 1 := by omega
           have g5 : ¬ w4.heap.size = w4.heap.size + 1 + 1 := by omega
           have nw : w.heap.size ≠ w4.heap.size := by omega
           have nw' : w4.heap.size ≠ w.heap.size := by omega
           have hz := k4.heap (show ((W3.alloc (.cells #[.pointer none] 35)).drew).heap[W3.heap.size]? = some (.cells #[.pointer none] 35 (0, 0)) from halloc_at W3 _) id
           have z0 : w4.cell? ⟨W3.heap.size, 0, none⟩ = some (.pointer none) := cell_of hz rfl
           have q0 : w4.frozen? ⟨W3.heap.size, 0, none⟩ = false := free_of hz
           have nz : w.heap.size ≠ W3.heap.size := by omega
           have nz' : W3.heap.size ≠ w.heap.size := by omega
           have lz := lt_of_heap hz
           have lz1 := Nat.lt_succ_of_lt lz
           have lz2 := Nat.ne_of_lt lz
           have lz3 := Nat.ne_of_lt lz1
           have lz4 := lz2.symm
           have lz5 := lz3.symm)
        | (go_at_call 119; refine (HIN.out (W3.alloc (.map #[] 0)).drew).mono ?_; rintro e w4 ⟨nb, rfl, l4, l5, k4⟩; dsimp only
           have ks : Keeps (fun _ => False) W3 w4 := ((Keeps.alloc (fun _ => False) W3 (.map #[] 0))).trans ((Keeps.drew (fun _ => False) _).trans k4)
           have p4 : w4.cell? ⟨w.heap.size, 4, none⟩ = some (.int .i64 slots) := ks.cell a4 id
           have s4 := ks.size
           have g1 : w4.heap.size < w4.heap.size + 1 := Nat.lt_succ_self _
           have g2 : w4.heap.size < w4.heap.size + 1 + 1 := Nat.lt_succ_of_lt g1
           have g3 : w4.heap.size ≤ w4.heap.size + 1 := Nat.le_succ _
           have g4 : ¬ w4.heap.size = w4.heap.size + 1 := by omega
           have g5 : ¬ w4.heap.size = w4.heap.size + 1 + 1 := by omega
           have nw : w.heap.size ≠ w4.heap.size := by omega
           have nw' : w4.heap.size ≠ w.heap.size := by omega
           have hp := k4.heap (show ((W3.alloc (.map #[] 0)).drew).heap[W3.heap.size]? = some (.map #[] 0) from halloc_at W3 _) id)
        | (go_at_call 119; refine (HIN.out (W3).drew).mono ?_; rintro e w4 ⟨nb, rfl, l4, l5, k4⟩; dsimp only
           have ks : Keeps (fun _ => False) W3 w4 := ((Keeps.refl (fun _ => False) W3)).trans ((Keeps.drew (fun _ => False) _).trans k4)
           have p4 : w4.cell? ⟨w.heap.size, 4, none⟩ = some (.int .i64 slots) := ks.cell a4 id
           have s4 := ks.size
           have g1 : w4.heap.size < w4.heap.size + 1 := Nat.lt_succ_self _
           have g2 : w4.heap.size < w4.heap.size + 1 + 1 := Nat.lt_succ_of_lt g1
           have g3 : w4.heap.size ≤ w4.heap.size + 1 := Nat.le_succ _
           have g4 : ¬ w4.heap.size = w4.heap.size + 1 := by omega
           have g5 : ¬ w4.heap.size = w4.heap.size + 1 + 1 := by omega
           have nw : w.heap.size ≠ w4.heap.size := by omega
           have nw' : w4.heap.size ≠ w.heap.size := by omega
           have dummy := s4))
    all_goals
      go_wp2_with fail
      go_meet
      first
        | exact fin9 W3 _ slots inp (w4.heap.size + 1 + 1) (w4.heap.size + 1) nb w4.heap.size (al3 w4 _ _ _).2.2.1 (al3 w4 _ _ _).2.1 (al3 w4 _ _ _).1 (by omega) (by omega) (by omega) (by omega) (ks.trans (al3 w4 _ _ _).2.2.2)
        | exact fin9 W3 _ slots inp (w4.heap.size + 1) (w4.heap.size + 1 + 1) nb w4.heap.size (al3 w4 _ _ _).2.1 (al3 w4 _ _ _).2.2.1 (al3 w4 _ _ _).1 (by omega) (by omega) (by omega) (by omega) (ks.trans (al3 w4 _ _ _).2.2.2)
        | exact fin9 W3 _ slots inp w4.heap.size (w4.heap.size + 1 + 1) nb (w4.heap.size + 1) (al3 w4 _ _ _).1 (al3 w4 _ _ _).2.2.1 (al3 w4 _ _ _).2.1 (by omega) (by omega) (by omega) (by omega) (ks.trans (al3 w4 _ _ _).2.2.2)
        | exact fin9 W3 _ slots inp (w4.heap.size + 1) w4.heap.size nb W3.heap.size (al2 w4 _ _).2.1 (al2 w4 _ _).1 ((al2 w4 _ _).2.2.heap hp id) (by omega) (by omega) (by omega) (by omega) (ks.trans (al2 w4 _ _).2.2)
        | exact fin9 W3 _ slots inp w4.heap.size (w4.heap.size + 1) nb W3.heap.size (al2 w4 _ _).1 (al2 w4 _ _).2.1 ((al2 w4 _ _).2.2.heap hp id) (by omega) (by omega) (by omega) (by omega) (ks.trans (al2 w4 _ _).2.2)
        | (have hset := hset_same (i := 0) hz (.pointer (some ⟨w4.heap.size, 0, none⟩))
           have kset : Keeps (fun k => k = W3.heap.size + 1) w4 (w4.setCell ⟨W3.heap.size + 1, 0, none⟩ (.pointer (some ⟨w4.heap.size, 0, none⟩))) := Keeps.setCell _ _ _ (fun _ => rfl)
           have ka := Keeps.alloc (fun _ => False) (w4.setCell ⟨W3.heap.size + 1, 0, none⟩ (.pointer (some ⟨w4.heap.size, 0, none⟩))) (.cells (mach0 nb slots inp W3.heap.size).cells 47)
           exact fin9 W3 _ slots inp (W3.heap.size + 1) w4.heap.size nb W3.heap.size (ka.heap hset id) (al1s w4 _ _ _) (ka.heap (kset.heap hp (fun e => by have e : W3.heap.size = W3.heap.size + 1 := e; omega)) id) (by omega) (by omega) (by omega) (by omega) ((ks.setNew ⟨W3.heap.size + 1, 0, none⟩ _ (by show W3.heap.size ≤ W3.heap.size + 1; omega)).trans ka))
        | (have hset := hset_same (i := 0) hz (.pointer (some ⟨w4.heap.size + 1, 0, none⟩))
           have ka := (Keeps.alloc (fun _ => False) (w4.setCell ⟨W3.heap.size, 0, none⟩ (.pointer (some ⟨w4.heap.size + 1, 0, none⟩))) (.map #[] 0)).trans (Keeps.alloc (fun _ => False) _ (.cells (mach0 nb slots inp w4.heap.size).cells 47))
           exact fin9 W3 _ slots inp W3.heap.size (w4.heap.size + 1) nb w4.heap.size (ka.heap hset id) (al2s w4 _ _ _ _).2 (al2s w4 _ _ _ _).1 (by omega) (by omega) (by omega) (by omega) ((ks.setNew ⟨W3.heap.size, 0, none⟩ _ (Nat.le_refl _)).trans ka))
        | (have hset := hset_same (i := 0) hz (.pointer (some ⟨w4.heap.size, 0, none⟩))
           have kset : Keeps (fun k => k = W3.heap.size) w4 (w4.setCell ⟨W3.heap.size, 0, none⟩ (.pointer (some ⟨w4.heap.size, 0, none⟩))) := Keeps.setCell _ _ _ (fun _ => rfl)
           have ka := Keeps.alloc (fun _ => False) (w4.setCell ⟨W3.heap.size, 0, none⟩ (.pointer (some ⟨w4.heap.size, 0, none⟩))) (.cells (mach0 nb slots inp (W3.heap.size + 1)).cells 47)
           exact fin9 W3 _ slots inp W3.heap.size w4.heap.size nb (W3.heap.size + 1) (ka.heap hset id) (al1s w4 _ _ _) (ka.heap (kset.heap hp (fun e => by have e : W3.heap.size + 1 = W3.heap.size := e; omega)) id) (by omega) (by omega) (by omega) (by omega) ((ks.setNew ⟨W3.heap.size, 0, none⟩ _ (Nat.le_refl _)).trans ka))
  case rest =>
    obtain ⟨mb, nb, pb, x11, rfl, h11, hmc, hpb, l1, l2, l3, l4, kc⟩ := hcut
    have HB := Lib.hid (show NBx w.heap.size (w.heap.size + 1) (w.heap.size + 1 + 1) (w.heap.size + 1 + 1 + 1) x9 x11 mb b dict data ret hz slots wc by rw [← hs0]; exact ⟨kc.heap X2.out id, kc.heap X6.out id, kc.heap X7.out id, kc.heap X8.out id, kc.heap X9.out id, h11⟩)
    have HMC := Lib.hid hmc
    have HPB := Lib.hid hpb
    have HM := Lib.hid (M2.out.keeps kc id id)
    have HK := Lib.hid (K2.out.trans kc)
    have hlo := lt_of_heap h11
    have hmp : mb ≠ pb := fun e => MapIs.noRow hpb _ _ _ (e ▸ hmc)
    have hxp : x11 ≠ pb := fun e => MapIs.noRow hpb _ _ _ (e ▸ h11)
    have hmlo := lt_of_heap hmc
    have hplo := hpb.lt
    have HL := Lib.hid (And.intro (And.intro l1 l2) (And.intro l3 l4))
    clear h11 hmc hpb kc X2 X6 X7 X8 X9 M2 K2 a4 hx2s HIN l1 l2 l3 l4
    go_wp2_with fail
    refine (vm_primitives wc).mono ?_
    rintro e w4 ⟨bS, rfl, fS, hmS, hgS, hbS, kS⟩
    have h4 := kS.size
    have HG := Lib.hid hgS
    have HMS := Lib.hid hmS
    have HSlt := hmS.lt
    have HKS := Lib.hid kS
    clear hgS hmS kS
    go_wp2_with (first
      | (at_range; refine wpList_range sk _ rfl _ 235 rfl _ Tryz.underlying235 bS 500 fS rfl HMS.out ?_; intro w5 cnt0 hrg0 hk0)
      | go_in)
    go_frame
    have HR0 := Lib.hid hrg0
    have HK0 := Lib.hid hk0
    clear hrg0 hk0
    go_loopw [91] (fun _ wr => ∃ (left : List UInt8 → Bool) (cnt m : Nat) (g : Int → Option Value), MapRun sk wr bS w4.heap.size 500 fS left cnt ∧ m + cnt ≤ 500 ∧ MapIs ik wr pb m g ∧ (∀ s, (fS s).isSome = true → left s = false → g (num s) = fS s) ∧ Keeps (fun k => k = pb ∨ k = w4.heap.size) w5 wr) (fun _ wr => wr.rangeLeft bS w4.heap.size)
    case atStart =>
      refine ⟨_, cnt0, 0, _, HR0.out, by have := HR0.out.cnt_le; omega, (HPB.out.keeps HKS.out id).keeps HK0.out id, fun s h1 h2 => ?_, Keeps.refl _ _⟩
      have h2 : (fS s).isSome = false := h2
      rw [h1] at h2
      cases h2
    case round =>
      obtain ⟨left, cnt, m, g, hrg, hm5, hpm, hgl, hk⟩ := hrel
      have HR := Lib.hid hrg
      have HP := Lib.hid hpm
      have HGL := Lib.hid hgl
      have HK5 := Lib.hid hk
      clear hrg hpm hgl hk
      go_wp2_with (first
        | (at_next; refine wpList_mstep sk _ rfl _ rfl bS w4.heap.size 500 fS left cnt rfl HR.out ?_ ?_)
        | go_in)
      · intro hl
        have HLF := Lib.hid hl
        clear hl
        have KW := Lib.hid (((HKS.out.trans HK0.out).mono (T := fun k => k = pb) (fun _ _ e => e.elim)).trans' HK5.out (fun i hi e => by rcases e with e | e; exact e; omega))
        have hszr := HK5.out.size
        have hsz5 := HK0.out.size
        have HDO := Lib.hid (show Does (fun g => wc.heap.size ≤ g ∧ g < w4.heap.size) wr pb from by
          refine ⟨m, g, by omega, HP.out, fun s kd hs => ?_⟩
          have hg := HG.out s
          rw [hs] at hg
          obtain ⟨v, h1, h2⟩ := hg
          have hsn := kin_all s (by rw [hs]; simp)
          have hok : sk.ok s := by
            have : ∀ s ∈ names, s.length ≤ 1000 := by decide +kernel
            exact Nat.le_trans (this s hsn) (by unfold maxLen; omega)
          refine ⟨v, by rw [HGL.out s (by rw [h1]; rfl) (HLF.out s hok), h1], ?_⟩
          refine (h2.mono (Y := fun g => wc.heap.size ≤ g ∧ g < w4.heap.size) (fun g hg hx => ⟨hx, hg⟩)).keeps ?_
          exact KeepX.of ((HK0.out.mono (T := fun k => k = pb ∨ k = w4.heap.size) (fun _ _ e => e.elim)).trans HK5.out) (fun g hg e => by have := hg.1; have := hg.2; rcases e with e | e <;> omega))
        have BB := Lib.hid (HB.out.keeps KW.out (fun k hk e => by
          have e : k = pb := e
          have h1 := HL.out
          have h2 := HS3.out
          have h3 := HX9.out
          rcases hk with h | h | h | h | h | h <;> omega))
        have MM := Lib.hid (HM.out.keeps KW.out (fun e => by have e : b = pb := e; have h1 := HL.out; have h2 := HS3.out; have h3 := HX9.out; omega) (fun e => by have e : bb = pb := e; have h1 := HL.out; have h2 := HS3.out; have h3 := HX9.out; omega))
        have CC := Lib.hid (HMC.out.keeps KW.out (fun e => hmp e))
        have KK := Lib.hid ((HK.out.mono (T := fun k => k = pb) (fun _ _ e => e.elim)).trans KW.out)
        clear HLF HGL HG HMS HP HR HK5 KW HB HM HMC HK HKS HK0 HPB HR0
        have hlo4 : wc.heap.size ≤ w4.heap.size ∧ w4.heap.size ≤ wr.heap.size := ⟨h4, by omega⟩
        have hmf := hmf
        have cx11 : wr.cell? ⟨x11, 0, none⟩ = some (.pointer (some ⟨mb, 0, none⟩)) := cell_of BB.out.r11 rfl
        go_wp2_with fail
        change Code.wp _ _ _ _ (wr.alloc (.cells (newV w.heap.size (w.heap.size + 1) (w.heap.size + 1 + 1) (w.heap.size + 1 + 1 + 1) x9 x11 mb) 80))
        have HN := Lib.hid (And.intro (And.intro hs0 hs1) (And.intro (And.intro hb1 hb2) (And.intro hs2 hbl)))
        have SL := Lib.hid (halloc_at wr (.cells (newV w.heap.size (w.heap.size + 1) (w.heap.size + 1 + 1) (w.heap.size + 1 + 1 + 1) x9 x11 mb) 80))
        have ka := Keeps.alloc (fun _ => False) wr (.cells (newV w.heap.size (w.heap.size + 1) (w.heap.size + 1 + 1) (w.heap.size + 1 + 1 + 1) x9 x11 mb) 80)
        obtain ⟨gp, hgp⟩ : ∃ gp, gp = wr.heap.size := ⟨_, rfl⟩
        rw [← hgp] at SL ⊢
        generalize wr.alloc (.cells (newV w.heap.size (w.heap.size + 1) (w.heap.size + 1 + 1) (w.heap.size + 1 + 1 + 1) x9 x11 mb) 80) = V at SL ka ⊢
        have hvs := ka.size
        have hgV := lt_of_heap SL.out
        have HGP := Lib.hid hgp
        replace BB := Lib.hid (BB.out.keeps ka (fun _ _ => id))
        replace MM := Lib.hid (MM.out.keeps ka id id)
        replace CC := Lib.hid (CC.out.keeps ka id)
        replace HDO := Lib.hid (HDO.out.keeps ka id (fun _ _ => id))
        have hbx : ∀ k, (k = w.heap.size ∨ k = w.heap.size + 1 ∨ k = w.heap.size + 1 + 1 ∨ k = w.heap.size + 1 + 1 + 1 ∨ k = x9 ∨ k = x11) → k ≠ mb ∧ k ≠ bb ∧ k < wr.heap.size := fun k hk => by
          have h1 := HL.out
          have h2 := HS3.out
          have h3 := HX9.out
          rcases hk with h | h | h | h | h | h <;> omega
        have hmbb : mb ≠ bb ∧ mb ≠ b ∧ mb ≠ gp ∧ bb ≠ gp ∧ w.heap.size ≤ mb ∧ w.heap.size ≤ pb ∧ w.heap.size ≤ b ∧ w.heap.size ≤ bb := by
          have h1 := HL.out
          have h2 := HS3.out
          have h3 := HX9.out
          omega
        have hbp : bb ≠ pb := by
          have h1 := HL.out
          have h2 := HS3.out
          have h3 := HX9.out
          omega
        have hblo : b < wc.heap.size ∧ bb < wc.heap.size := by
          have h1 := HL.out
          have h2 := HS3.out
          have h3 := HX9.out
          omega
        have HBX := Lib.hid hbx
        have HMB := Lib.hid hmbb
        have hbne := MM.out.ne
        have KK2 : Keeps (fun _ => False) w V := (KK.out.trans' (ka.mono (T := fun k => k = pb) (fun _ _ e => e.elim)) (fun i hi e => e)).mono (fun i hi e => by have e : i = pb := e; omega)
        replace KK := Lib.hid KK2
        clear KK2 ka hgp hbx hs0 hs1 hb1 hb2 hs2 hbl hlo4
        refine wp_loop_rounds 7 ?_
        rw [rounds_succ]
        have cc : V.cell? ⟨gp, 0, none⟩ = some (.func (.func 122) #[] #[Pt x9, Pt (w.heap.size + 1 + 1 + 1), Pt w.heap.size, Pt x11]) := cell_of SL.out rfl
        go_wp2_with fail
        refine (vm_new1 V mb b bb _ _ (dict + data * 8 + ret * 8) dict data ret hz slots _ _ _ _ CC.out MM.out (cell_of BB.out.r9 rfl) (cell_of BB.out.r8 rfl) BB.out.r2 (cell_of BB.out.r11 rfl) (by omega) (by omega) hm h16 (by show _ ≤ ((dict + data * 8 + ret * 8 + hz).toNat : Int); omega) (by rw [put]) HMB.out.1 HMB.out.2.1 (HBX.out _ (by simp)).2.1 (HBX.out _ (by simp)).2.1 (HBX.out _ (by simp)).2.1 (HBX.out _ (by simp)).2.1 (HBX.out _ (by simp)).1 (HBX.out _ (by simp)).1 (HBX.out _ (by simp)).1 (HBX.out _ (by simp)).1).mono ?_
        rintro e V1 ⟨hb, rfl, r1, q1, l1, k1⟩
        rw [put] at q1
        have hSL := k1.heap SL.out (fun e => by rcases e with e | e; exact HMB.out.2.2.1 e.symm; exact HMB.out.2.2.2.1 e.symm)
        have hBB := BB.out.keeps k1 (fun k hk e => by have := HBX.out k hk; rcases e with e | e; exact this.1 e; exact this.2.1 e)
        have hDO := HDO.out.keeps k1 (fun e => by rcases e with e | e; exact hmp e.symm; exact hbp e.symm) (fun g hg e => by rcases e with e | e <;> omega)
        have hKK : Keeps (fun _ => False) w V1 := KK.out.trans' k1 (fun i hi e => by have := HMB.out; rcases e with e | e <;> omega)
        have hs1 := k1.size
        have hh1 := lt_of_heap q1.head
        replace SL := Lib.hid hSL
        replace BB := Lib.hid hBB
        replace HDO := Lib.hid hDO
        replace KK := Lib.hid hKK
        have R1 := Lib.hid r1
        have Q1 := Lib.hid q1
        clear hSL hBB hDO hKK r1 q1 k1 cc MM CC
        have htop := Q1.out.top
        have hgb := HMB.out
        go_wp2_with fail
        rw [rounds_succ]
        have cc : V1.cell? ⟨gp, 1, none⟩ = some (.func (.func 124) #[] #[Pt x9, Pt (w.heap.size + 1), Pt w.heap.size, Pt x11]) := cell_of SL.out rfl
        go_wp2_with fail
        refine (vm_new2 V1 mb b bb _ _ dict dict data ret hz slots _ _ _ _ R1.out Q1.out.mem (cell_of BB.out.r9 rfl) (cell_of BB.out.r6 rfl) BB.out.r2 (cell_of BB.out.r11 rfl) (by omega) dm t0 (by omega) (by omega) (HBX.out _ (by simp)).1 (HBX.out _ (by simp)).1 (HBX.out _ (by simp)).1 (HBX.out _ (by simp)).1).mono ?_
        rintro e V2 ⟨db, rfl, r2, sd, l2, k2⟩
        have hSL := k2.heap SL.out (fun e => by have h1 := HMB.out; have e : gp = mb := e; omega)
        have hBB := BB.out.keeps k2 (fun k hk e => by have h1 := HBX.out k hk; have e : k = mb := e; omega)
        have hDO := HDO.out.keeps k2 (fun e => by have e : pb = mb := e; omega) (fun g hg e => by have e : g = mb := e; omega)
        have hKK : Keeps (fun _ => False) w V2 := KK.out.trans' k2 (fun i hi e => by have h1 := HMB.out; have e : i = mb := e; omega)
        have hszV2 := k2.size
        have hh2 := lt_of_heap sd.head
        have Q2 := Lib.hid (Q1.out.keeps k2 (fun e => by have e : hb = mb := e; omega) (fun e => HMB.out.2.1 (by have e : b = mb := e; exact e.symm)) (fun e => HMB.out.1 (by have e : bb = mb := e; exact e.symm)))
        replace SL := Lib.hid hSL
        replace BB := Lib.hid hBB
        replace HDO := Lib.hid hDO
        replace KK := Lib.hid hKK
        have R2 := Lib.hid r2
        have SD := Lib.hid sd
        clear hSL hBB hDO hKK r2 sd k2 cc R1 Q1
        go_wp2_with fail
        rw [rounds_succ]
        have cc : V2.cell? ⟨gp, 2, none⟩ = some (.func (.func 126) #[] #[Pt x9, Pt (w.heap.size + 1 + 1), Pt w.heap.size, Pt x11]) := cell_of SL.out rfl
        go_wp2_with fail
        refine (vm_new3 V2 mb b bb _ _ (dict + data * 8) dict data ret hz slots _ _ _ _ R2.out Q2.out.mem (cell_of BB.out.r9 rfl) (cell_of BB.out.r7 rfl) BB.out.r2 (cell_of BB.out.r11 rfl) (by omega) (by omega) r0 (by omega) (by omega) (HBX.out _ (by simp)).1 (HBX.out _ (by simp)).1 (HBX.out _ (by simp)).1 (HBX.out _ (by simp)).1).mono ?_
        rintro e V3 ⟨rb, rfl, r3, sr, l3, k3⟩
        have hSL := k3.heap SL.out (fun e => by have h1 := HMB.out; have e : gp = mb := e; omega)
        have hBB := BB.out.keeps k3 (fun k hk e => by have h1 := HBX.out k hk; have e : k = mb := e; omega)
        have hDO := HDO.out.keeps k3 (fun e => by have e : pb = mb := e; omega) (fun g hg e => by have e : g = mb := e; omega)
        have hKK : Keeps (fun _ => False) w V3 := KK.out.trans' k3 (fun i hi e => by have h1 := HMB.out; have e : i = mb := e; omega)
        have hszV3 := k3.size
        have hh3 := lt_of_heap sr.head
        have Q3 := Lib.hid (Q2.out.keeps k3 (fun e => by have e : hb = mb := e; omega) (fun e => HMB.out.2.1 (by have e : b = mb := e; exact e.symm)) (fun e => HMB.out.1 (by have e : bb = mb := e; exact e.symm)))
        have SD3 := Lib.hid (SD.out.keeps k3 (fun e => by have e : db = mb := e; omega))
        replace SL := Lib.hid hSL
        replace BB := Lib.hid hBB
        replace HDO := Lib.hid hDO
        replace KK := Lib.hid hKK
        have R3 := Lib.hid r3
        have SR := Lib.hid sr
        clear hSL hBB hDO hKK r3 sr k3 cc R2 Q2 SD
        go_wp2_with fail
        rw [rounds_succ]
        have cc : V3.cell? ⟨gp, 3, none⟩ = some (.func (.func 127) #[] #[Pt x9, Pt w.heap.size, Pt x11]) := cell_of SL.out rfl
        go_wp2_with fail
        refine (vm_new4 V3 mb b bb _ _ dict data ret hz slots _ _ _ R3.out Q3.out.mem (cell_of BB.out.r9 rfl) BB.out.r2 (cell_of BB.out.r11 rfl) d8 (by omega) (HBX.out _ (by simp)).1 (HBX.out _ (by simp)).1 (HBX.out _ (by simp)).1).mono ?_
        rintro e V4 ⟨s, rfl, r4, sp, l4, k4⟩
        have hSL := k4.heap SL.out (fun e => by have h1 := HMB.out; have e : gp = mb := e; omega)
        have hBB := BB.out.keeps k4 (fun k hk e => by have h1 := HBX.out k hk; have e : k = mb := e; omega)
        have hDO := HDO.out.keeps k4 (fun e => by have e : pb = mb := e; omega) (fun g hg e => by have e : g = mb := e; omega)
        have hKK : Keeps (fun _ => False) w V4 := KK.out.trans' k4 (fun i hi e => by have h1 := HMB.out; have e : i = mb := e; omega)
        have hszV4 := k4.size
        have hh4 := lt_of_heap sp.head
        have Q4 := Lib.hid (k4.heap Q3.out.head (fun e => by have e : hb = mb := e; omega))
        have SD4 := Lib.hid (SD3.out.keeps k4 (fun e => by have e : db = mb := e; omega))
        have SR4 := Lib.hid (SR.out.keeps k4 (fun e => by have e : rb = mb := e; omega))
        replace SL := Lib.hid hSL
        replace BB := Lib.hid hBB
        replace HDO := Lib.hid hDO
        replace KK := Lib.hid hKK
        have R4 := Lib.hid r4
        have SP := Lib.hid sp
        clear hSL hBB hDO hKK r4 sp k4 cc R3 Q3 SD3 SR
        go_wp2_with fail
        rw [rounds_succ]
        have cc : V4.cell? ⟨gp, 4, none⟩ = some (.func (.func 129) #[] #[Pt x11]) := cell_of SL.out rfl
        go_wp2_with fail
        refine (vm_new5 V4 mb s b bb _ _ _ _ _ R4.out rfl SP.out rt (cell_of BB.out.r11 rfl) (by omega) HMB.out.2.1 HMB.out.1 (by have := (HBX.out x11 (by simp)).2.2; omega) (HBX.out _ (by simp)).2.1 (HBX.out _ (by simp)).1).mono ?_
        rintro e V5 ⟨rfl, r5, sp, k5⟩
        have hSL := k5.heap SL.out (fun e => by have h1 := HMB.out; rcases e with e | e | e <;> omega)
        have hBB := BB.out.keeps k5 (fun k hk e => by have h1 := HBX.out k hk; rcases e with e | e | e <;> omega)
        have hDO := HDO.out.keeps k5 (fun e => by rcases e with e | e | e <;> omega) (fun g hg e => by rcases e with e | e | e <;> omega)
        have hKK : Keeps (fun _ => False) w V5 := KK.out.trans' k5 (fun i hi e => by have h1 := HMB.out; rcases e with e | e | e <;> omega)
        have hszV5 := k5.size
        have Q5 := Lib.hid (k5.heap Q4.out (fun e => by rcases e with e | e | e <;> omega))
        have SD5 := Lib.hid (SD4.out.keeps k5 (fun e => by rcases e with e | e | e <;> omega))
        have SR5 := Lib.hid (SR4.out.keeps k5 (fun e => by rcases e with e | e | e <;> omega))
        replace SL := Lib.hid hSL
        replace BB := Lib.hid hBB
        replace HDO := Lib.hid hDO
        replace KK := Lib.hid hKK
        have R5 := Lib.hid r5
        replace SP := Lib.hid sp
        clear hSL hBB hDO hKK r5 sp k5 cc R4 Q4 SD4 SR4
        go_wp2_with fail
        rw [rounds_succ]
        have cc : V5.cell? ⟨gp, 5, none⟩ = some (.func (.func 131) #[Pt mb] #[]) := cell_of SL.out rfl
        go_wp2_with fail
        refine (vm_prims V5 mb s b bb _ _ _ _ _ _ R5.out rfl SP.out pr (by omega) HMB.out.2.1 HMB.out.1).mono ?_
        rintro e V6 ⟨rfl, r6, sp, k6⟩
        have hSL := k6.heap SL.out (fun e => by have h1 := HMB.out; rcases e with e | e | e <;> omega)
        have hBB := BB.out.keeps k6 (fun k hk e => by have h1 := HBX.out k hk; rcases e with e | e | e <;> omega)
        have hDO := HDO.out.keeps k6 (fun e => by rcases e with e | e | e <;> omega) (fun g hg e => by rcases e with e | e | e <;> omega)
        have hKK : Keeps (fun _ => False) w V6 := KK.out.trans' k6 (fun i hi e => by have h1 := HMB.out; rcases e with e | e | e <;> omega)
        have hszV6 := k6.size
        have Q6 := Lib.hid (k6.heap Q5.out (fun e => by rcases e with e | e | e <;> omega))
        have SD6 := Lib.hid (SD5.out.keeps k6 (fun e => by rcases e with e | e | e <;> omega))
        have SR6 := Lib.hid (SR5.out.keeps k6 (fun e => by rcases e with e | e | e <;> omega))
        replace SL := Lib.hid hSL
        replace BB := Lib.hid hBB
        replace HDO := Lib.hid hDO
        replace KK := Lib.hid hKK
        have R6 := Lib.hid r6
        replace SP := Lib.hid sp
        clear hSL hBB hDO hKK r6 sp k6 cc R5 Q5 SD5 SR5
        go_wp2_with fail
        rw [rounds_succ]
        have c11 : V6.cell? ⟨x11, 0, none⟩ = some (.pointer (some ⟨mb, 0, none⟩)) := cell_of BB.out.r11 rfl
        go_wp2_with fail
        go_ret2
        refine ⟨mb, nb, pb, s, b, bb, db, rb, hb, wc.heap.size, w4.heap.size, rfl, R6.out, SP.out, SD6.out, SR6.out, Q6.out, HDO.out, ?_, ?_, h4, ?_, ?_, ?_, ?_, hmp, HMB.out.2.1, HMB.out.1, hbne, KK.out⟩
        · exact HMB.out.2.2.2.2
        all_goals omega
      · intro x v w6 cnt1 hok hlx hfx hrg1 hlt hg1 hen
        have hr := HR.out.lts
        have HR1 := Lib.hid hrg1
        have HP1 := Lib.hid (HP.out.keeps hg1 (fun e => by have e : pb = w4.heap.size := e; omega))
        have HK1 := Lib.hid (HK5.out.trans (hg1.mono (T := fun k => k = pb ∨ k = w4.heap.size) (fun _ _ e => .inr e)))
        have KW6 := ((HKS.out.trans HK0.out).mono (T := fun k => k = pb) (fun _ _ e => e.elim)).trans' HK1.out (fun i hi e => by rcases e with e | e; exact e; omega)
        have HFX := Lib.hid hfx
        have c11 : w6.cell? ⟨x11, 0, none⟩ = some (.pointer (some ⟨mb, 0, none⟩)) := cell_of (KW6.heap HB.out.r11 hxp) rfl
        have c17 : w6.cell? ⟨mb, 17, none⟩ = some (.map (some pb)) := cell_of (KW6.heap HMC.out hmp) rfl
        change (Instr.entry (.pointer (some ⟨w4.heap.size, 0, none⟩))).run Tryz.prog w6 = .ok (.tuple #[.string ⟨x.toArray⟩, v]) w6 at hen
        rw [show sk.val x = Value.string ⟨x.toArray⟩ from rfl]
        have hnk := num_ok x
        have HNK := Lib.hid hnk
        clear hrg1 hg1 hfx hok hlx hnk KW6
        go_wp2_with fail
        go_region_held3 (fun w' => w'.cell? ⟨x11, 0, none⟩ = some (.pointer (some ⟨mb, 0, none⟩)) ∧ w'.cell? ⟨mb, 17, none⟩ = some (.map (some pb)))
          (first | go_keep | exact ⟨k8.cell q11 hxp, k8.cell q17 hmp⟩)
          (first
            | (go_at_call 121; refine (number_any x w6.drew).mono ?_; rintro e w7 ⟨rfl, k7⟩; dsimp only
               have k7 := (Keeps.drew (fun _ => False) w6).trans k7
               have q11 := k7.cell c11 id
               have q17 := k7.cell c17 id
               obtain ⟨w8, hrun, hp8, k8⟩ := map_run ik 45 _ Tryz.underlying45 (HP1.out.keeps k7 id) (by unfold maxLen; omega) (num x) HNK.out v
               have hrun : (Instr.mapUpdate 45 (.map (some pb)) (.int .i64 (num x)) v).run Tryz.prog w7 = .ok () w8 := hrun))
        have HR8 := Lib.hid ((HR1.out.keeps k7 id id).keeps k8 (fun e => by have e : bS = pb := e; omega) (fun e => by have e : w4.heap.size = pb := e; omega))
        have HP8 := Lib.hid hp8
        have HK8 := Lib.hid ((HK1.out.trans (k7.mono (T := fun k => k = pb ∨ k = w4.heap.size) (fun _ _ e => e.elim))).trans (k8.mono (T := fun k => k = pb ∨ k = w4.heap.size) (fun _ _ e => .inl e)))
        have HG8 := Lib.hid (show ∀ s, (fS s).isSome = true → (left s && !decide (s = x)) = false → upd g (num x) v (num s) = fS s from by
          intro s h1 h2
          have hin : ∀ s, (fS s).isSome = true → s ∈ names := fun s hs => kin_all s (fun e => by
            have := HG.out s
            rw [e] at this
            rw [this] at hs
            cases hs)
          unfold upd
          by_cases e : s = x
          · rw [if_pos (by rw [e]), e, HFX.out]
          · rw [if_neg (fun e' => e (num_inj (hin s h1) (hin x (by rw [HFX.out]; rfl)) e'))]
            refine HGL.out s h1 ?_
            simpa [e] using h2)
        clear hp8 k8 k7 hrun q11 q17 c11 c17 hen
        go_wp2_with fail
        go_roundw
        case rel => exact ⟨_, cnt1, m + 1, _, HR8.out, by omega, HP8.out, HG8.out, HK8.out⟩
        case measure => rw [HR8.out.left_eq, HR.out.left_eq]; exact hlt
end Go.Proofs.Shed
