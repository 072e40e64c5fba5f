/- Of ErrG: WVmA, WHeadM, WRfA, WRfB. No condition. -/
import Derived.Test.YthhfkhhhclmimaaGreatDoorM25
import Derived.Test.YthhfkhhhclmimaaGreatDoorM04
import Derived.Test.YthhfkhhhclmimaaGreatDoorM05
import Derived.IntWalk
set_option linter.unusedVariables false
set_option linter.unusedSimpArgs false
set_option maxRecDepth 10000
set_option maxHeartbeats 4000000
namespace Go.Proofs.Shed
open Go Go.RowKit Go.Proofs.K Go.Proofs.Cod
theorem vm_prims (w : World) (mb s b bb : Nat) (c : Mc) (x y : Sp) (base list caught : Int) (hc : RMc w mb c) (hsp : c.sp = some s) (h : RSp w s b bb x) (hp : Vm.prims x = some (y,base,list,caught)) (n1 : mb ≠ s) (n2 : mb ≠ b) (n3 : mb ≠ bb) :
 Calls Tryz.prog 131 #[.pointer (some ⟨mb,0,none⟩)] w fun e w' => e = .returned (.int .i64 0) ∧ RMc w' mb { c with base := base,list := list,caught := caught } ∧ RSp w' s b bb y ∧ Keeps (fun k => k = mb ∨ k = s ∨ k = bb) w w' := by
 unfold Vm.prims at hp
 by_cases p1 : (x.comma 10).2 = 0
 case neg => rw [if_pos p1] at hp; cases hp
 rw [if_neg (by simpa using p1)] at hp
 have C1 := h_ fun V R => sp_comma V s b bb x 10 R
 generalize hx1 : x.comma 10 = x1 at hp p1 C1
 obtain ⟨x1,e1⟩ := x1
 simp only at hp p1
 subst p1
 by_cases p2 : x1.list.2.2 = 0
 case neg => rw [if_pos p2] at hp; cases hp
 rw [if_neg (by simpa using p2)] at hp
 have C2 := h_ fun V R => head_list V s b bb x1 R
 generalize x1.list = x2 at hp p2 C2
 obtain ⟨x2,l,e2⟩ := x2
 simp only at hp p2
 subst p2
 generalize hf : Vm.primFold l names x2 0 = r3 at hp
 cases r3 with
 | none => simp only at hp; cases hp
 | some r3 =>
 obtain ⟨x3,last⟩ := r3
 simp only at hp
 have C4 := h_ fun V R => head_create V s b bb x3 l [98,97,115,101] 0 1003 R (by omega) (by omega)
 by_cases p4 : (x3.create l [98,97,115,101] 0 1003).2.2 = 0
 case neg => rw [if_pos p4] at hp; cases hp
 rw [if_neg (by simpa using p4)] at hp
 generalize x3.create l [98,97,115,101] 0 1003 = x4 at hp p4 C4
 obtain ⟨x4,wd4,e4⟩ := x4
 simp only at hp p4
 subst p4
 have C5 := h_ fun V R => sp_comma V s b bb x4 x.here R
 by_cases p5 : (x4.comma x.here).2 = 0
 case neg => rw [if_pos p5] at hp; cases hp
 rw [if_neg (by simpa using p5)] at hp
 generalize x4.comma x.here = x5 at hp p5 C5
 obtain ⟨x5,e5⟩ := x5
 simp only at hp p5
 subst p5
 have C6 := h_ fun V R => sp_comma V s b bb x5 last R
 by_cases p6 : (x5.comma last).2 = 0
 case neg => rw [if_pos p6] at hp; cases hp
 rw [if_neg (by simpa using p6)] at hp
 generalize x5.comma last = x6 at hp p6 C6
 obtain ⟨x6,e6⟩ := x6
 simp only at hp p6
 subst p6
 injection hp with hp
 injection hp with h1 hp
 injection hp with h2 hp
 injection hp with h3 h4
 subst h1
 subst h2
 subst h3
 subst h4
 have HF := h_ hf
 have HNM := h_ fun w => names_any w
 clear hf hx1
 obtain ⟨sp,dk,rk,hpp,nmb,ip,self,root,li,slots,fuel,out,inp,over,ba,ca,handler,does⟩ := c
 simp only at hsp
 subst hsp
 have c0 := hc.c0
 have f14 := hc.free 14
 have c14 := hc.c14
 have HC1 := h_ (hc.setBase x.here)
 have K1 : Keeps (fun k => k = mb) w (w.setCell ⟨mb,14,none⟩ (.int .i64 x.here)) := Keeps.setCell _ _ _ (fun _ => rfl)
 have HS := h_ (sp_here w s b bb x h)
 have R1 := h_ (h.keeps K1 (fun e => n1 e.symm) (fun e => n2 e.symm) (fun e => n3 e.symm))
 have KK1 := h_ (K1.mono (T := fun k => k = mb ∨ k = s ∨ k = bb) (fun _ _ e => .inl e))
 have N1 := h_ n1
 have N2 := h_ n2
 have N3 := h_ n3
 unfold optP at c0
 clear hc h K1 n1 n2 n3
 go_enter Tryz.func131,Tryz.ntmps131
 go_wp2_with fail
 refine HS.out.mono ?_
 rintro e w1 ⟨rfl,rfl⟩
 clear HS
 go_wp2_with fail
 clear c0 f14 c14
 refine (C1.out _ R1.out).mono ?_
 rintro e W ⟨rfl,r1,k1⟩
 replace HC1 := h_ (HC1.out.keeps k1 (fun e => by rcases e with e | e; exact N1.out e; exact N3.out e))
 replace KK1 := h_ (KK1.out.trans (k1.mono (fun _ _ e => .inr e)))
 replace R1 := h_ r1
 clear r1 k1
 have c0 : W.cell? ⟨mb,0,none⟩ = some (.pointer (some ⟨s,0,none⟩)) := HC1.out.c0
 go_wp2_with fail
 refine (C2.out _ R1.out).mono ?_
 clear c0
 rintro e W ⟨rfl,r1,k1⟩
 replace HC1 := h_ (HC1.out.keeps k1 (fun e => by rcases e with e | e; exact N1.out e; exact N3.out e))
 replace KK1 := h_ (KK1.out.trans (k1.mono (fun _ _ e => .inr e)))
 replace R1 := h_ r1
 clear r1 k1
 have c0 : W.cell? ⟨mb,0,none⟩ = some (.pointer (some ⟨s,0,none⟩)) := HC1.out.c0
 have hwW := KK1.out.size
 have f8 := HC1.out.free 8
 have c8 := HC1.out.c8
 have K8 : Keeps (fun k => k = mb) W (W.setCell ⟨mb,8,none⟩ (.int .i64 l)) := Keeps.setCell _ _ _ (fun _ => rfl)
 replace HC1 := h_ (HC1.out.setList l)
 replace R1 := h_ (R1.out.keeps K8 (fun e => N1.out e.symm) (fun e => N2.out e.symm) (fun e => N3.out e.symm))
 replace KK1 := h_ (KK1.out.trans (K8.mono (T := fun k => k = mb ∨ k = s ∨ k = bb) (fun _ _ e => .inl e)))
 clear K8
 go_wp2_with fail
 have hgn : mb < (W.setCell ⟨mb,8,none⟩ (.int .i64 l)).heap.size := lt_of_heap HC1.out
 have KA := h_ (Keeps.alloc (fun _ => False) (W.setCell ⟨mb,8,none⟩ (.int .i64 l)) (.cells #[.int .i64 0,.int .i64 0,.int .i64 0,.string ⟨#[]⟩] 53))
 have AA := h_ (halloc_at (W.setCell ⟨mb,8,none⟩ (.int .i64 l)) (.cells #[.int .i64 0,.int .i64 0,.int .i64 0,.string ⟨#[]⟩] 53))
 have hsz : (W.setCell ⟨mb,8,none⟩ (.int .i64 l)).heap.size = W.heap.size := by simp
 have hsA : ((W.setCell ⟨mb,8,none⟩ (.int .i64 l)).alloc (.cells #[.int .i64 0,.int .i64 0,.int .i64 0,.string ⟨#[]⟩] 53)).heap.size = W.heap.size + 1 := by simp
 generalize hW1 : (W.setCell ⟨mb,8,none⟩ (.int .i64 l)) = W1 at *
 generalize hW2 : W1.alloc (.cells #[.int .i64 0,.int .i64 0,.int .i64 0,.string ⟨#[]⟩] 53) = W2 at *
 clear hW1 hW2 f8 c8 c0
 have hgW : W1.heap.size = W.heap.size := hsz
 obtain ⟨gW,hg⟩ : ∃ gW,gW = W.heap.size := ⟨_,rfl⟩
 rw [← hg] at hsz hsA hgW ⊢
 rw [hgW] at hgn AA
 have hlts : s < gW ∧ bb < gW ∧ b < gW := by
  have := R1.out.head
  have h1 := lt_of_heap this
  have h2 := R1.out.mem.lt
  omega
 replace HC1 := h_ (HC1.out.keeps KA.out id)
 replace R1 := h_ (R1.out.keeps KA.out id id id)
 replace KK1 := h_ (KK1.out.trans (KA.out.mono (fun _ _ e => e.elim)))
 have hg0 : w.heap.size ≤ gW := by omega
 have HG := h_ hg
 clear hg KA
 refine (HNM.out _).mono ?_
 rintro e W3 ⟨rfl,hW3⟩
 have ON := h_ (own_names W2)
 have KN := h_ (Keeps.alloc (fun _ => False) W2 (.cells (names.map nm).toArray 9))
 rw [hW3] at ON KN
 rw [hsA] at ON ⊢
 clear hW3
 replace HC1 := h_ (HC1.out.keeps KN.out id)
 replace R1 := h_ (R1.out.keeps KN.out id id id)
 replace KK1 := h_ (KK1.out.trans (KN.out.mono (fun _ _ e => e.elim)))
 replace AA := h_ (show WdCells gW 0 0 0 [] W3 from KN.out.heap AA.out id)
 clear KN
 go_wp2_with fail
 go_loopw [45] (fun iv wr => ∃ (i : Nat) (y : Sp) (lst a f : Int) (n : List UInt8),iv = .int .i64 i ∧ i ≤ 86 ∧ Vm.primFold l (names.drop i) y lst = some (x3,last) ∧ RSp wr s b bb y ∧ WdCells gW a lst f n wr ∧ Keeps (fun k => k = gW ∨ k = s ∨ k = bb) W3 wr) (fun iv _ => 86 - (intOf iv).toNat)
 case atStart => exact ⟨0,x2,0,0,0,[],rfl,by omega,HF.out,R1.out,AA.out,Keeps.refl _ _⟩
 case round =>
  obtain ⟨i,y,lst,a,f,n,rfl,hi,hf,hr,hw,hk⟩ := hrel
  have HY := h_ hr
  have HWD := h_ hw
  have HK := h_ hk
  have HMC := h_ (HC1.out.keeps hk (fun e => by rcases e with e | e | e; omega; exact N1.out e; exact N3.out e))
  clear hr hw hk
  by_cases hlt : i < 86
  · have hi' : i < names.length := by rw [names_len]; exact hlt
    obtain ⟨g,hg,hc⟩ := own_str (ON.out.keeps HK.out (fun g e => by cases e; exact fun e => by rcases e with e | e | e <;> (have e : gW + 1 = _ := e; omega))) i hi'
    cases hg
    rw [List.drop_eq_getElem_cons hi'] at hf
    have hln : names[i].length ≤ 31 := by
     have : ∀ s ∈ names,s.length ≤ 31 := by decide +kernel
     exact this _ (List.getElem_mem hi')
    generalize names[i] = nmn at hc hf hln
    rw [Vm.primFold] at hf
    by_cases pc : (y.create l nmn 0 (num nmn)).2.2 = 0
    case neg => rw [if_neg pc] at hf; cases hf
    rw [if_pos pc] at hf
    have HNU := h_ fun V => number_any nmn V
    have HCR := h_ fun V R => head_create V s b bb y l nmn 0 (num nmn) R (by omega) (by omega)
    generalize y.create l nmn 0 (num nmn) = y2 at hf pc HCR
    obtain ⟨y2,wd,e2⟩ := y2
    simp only at hf pc
    subst pc
    have HF2 := h_ hf
    have hi0 : (0 : Int) ≤ (i : Int) := by omega
    unfold nm at hc
    clear hf hln hi'
    generalize num nmn = nu at HNU HCR
    go_upto_region 13 with fail
    have m0 : wr.cell? ⟨mb,0,none⟩ = some (.pointer (some ⟨s,0,none⟩)) := HMC.out.c0
    have m8 : wr.cell? ⟨mb,8,none⟩ = some (.int .i64 l) := HMC.out.c8
    have hmw : mb < wr.heap.size := lt_of_heap HMC.out
    have hsw : s < wr.heap.size ∧ bb < wr.heap.size := ⟨lt_of_heap HY.out.head,HY.out.mem.lt.2⟩
    go_cut [8,9] (fun v8 v9 wx => ∃ g8 : Nat,v8 = .pointer (some ⟨g8,0,none⟩) ∧ v9 = .int .i64 0 ∧ WdCells g8 wd.at_ wd.xt wd.flags wd.name wx ∧ RSp wx s b bb y2 ∧ wr.heap.size ≤ g8 ∧ Keeps (fun k => k = s ∨ k = bb) wr wx)
    case first =>
     go_region_held3 (fun w' => w'.cell? ⟨mb,0,none⟩ = some (.pointer (some ⟨s,0,none⟩)) ∧ w'.cell? ⟨mb,8,none⟩ = some (.int .i64 l))
      (first | go_keep)
      (first
        | (go_at_call 121; refine (HNU.out (wr.alloc (.cells #[.int .i64 0,.int .i64 0,.int .i64 0,.string ⟨#[]⟩] 53)).drew).mono ?_; rintro e w4 ⟨rfl,k4⟩; dsimp only
           have kk := ((Keeps.alloc (fun _ => False) wr (.cells #[.int .i64 0,.int .i64 0,.int .i64 0,.string ⟨#[]⟩] 53)).trans (Keeps.drew (fun _ => False) _)).trans k4
           have hz := k4.heap (show ((wr.alloc (.cells #[.int .i64 0,.int .i64 0,.int .i64 0,.string ⟨#[]⟩] 53)).drew).heap[wr.heap.size]? = _ from halloc_at wr _) id
           have p0 := kk.cell m0 id
           have p8 := kk.cell m8 id
           have r4 := HY.out.keeps kk id id id
           have l4 := kk.size
           have zz : wr.heap.size < w4.heap.size := lt_of_heap hz)
        | (go_at_call 121; refine (HNU.out wr.drew).mono ?_; rintro e w4 ⟨rfl,k4⟩; dsimp only
           have kk := (Keeps.drew (fun _ => False) wr).trans k4
           have p0 := kk.cell m0 id
           have p8 := kk.cell m8 id
           have r4 := HY.out.keeps kk id id id
           have l4 := kk.size)
        | (go_at_call 82; refine (HCR.out (w4.alloc (.cells #[.int .i64 0,.int .i64 0,.int .i64 0,.string ⟨#[]⟩] 53)) (r4.allocd _)).mono ?_; rintro e w5 ⟨rfl,r5,k5⟩; dsimp only [Wd.val]
           have hz := k5.heap (halloc_at w4 (.cells #[.int .i64 0,.int .i64 0,.int .i64 0,.string ⟨#[]⟩] 53)) (fun e => by rcases e with e | e <;> omega)
           have o0 := k5.cell ((Keeps.alloc (fun _ => False) w4 (.cells #[.int .i64 0,.int .i64 0,.int .i64 0,.string ⟨#[]⟩] 53)).cell p0 id) (fun e => by rcases e with e | e; exact N1.out e; exact N3.out e)
           have o8 := k5.cell ((Keeps.alloc (fun _ => False) w4 (.cells #[.int .i64 0,.int .i64 0,.int .i64 0,.string ⟨#[]⟩] 53)).cell p8 id) (fun e => by rcases e with e | e; exact N1.out e; exact N3.out e)
           have ks := (kk.mono (T := fun k => k = s ∨ k = bb) (fun _ _ e => e.elim)).trans (((Keeps.alloc (fun k => k = s ∨ k = bb) w4 (.cells #[.int .i64 0,.int .i64 0,.int .i64 0,.string ⟨#[]⟩] 53))).trans k5)
           have n0 : mb ≠ w4.heap.size := by omega
           have n0' : w4.heap.size ≠ mb := by omega
           have z0 : w5.cell? ⟨w4.heap.size,0,none⟩ = some (.int .i64 0) := cell_of hz rfl
           have z1 : w5.cell? ⟨w4.heap.size,1,none⟩ = some (.int .i64 0) := cell_of hz rfl
           have z2 : w5.cell? ⟨w4.heap.size,2,none⟩ = some (.int .i64 0) := cell_of hz rfl
           have z3 : w5.cell? ⟨w4.heap.size,3,none⟩ = some (.string ⟨#[]⟩) := cell_of hz rfl
           have q0 := free_of (i := 0) hz
           have q1 := free_of (i := 1) hz
           have q2 := free_of (i := 2) hz
           have q3 := free_of (i := 3) hz)
        | (go_at_call 82; refine (HCR.out w4 r4).mono ?_; rintro e w5 ⟨rfl,r5,k5⟩; dsimp only [Wd.val]
           have hz := k5.heap hz (fun e => by rcases e with e | e <;> omega)
           have o0 := k5.cell p0 (fun e => by rcases e with e | e; exact N1.out e; exact N3.out e)
           have o8 := k5.cell p8 (fun e => by rcases e with e | e; exact N1.out e; exact N3.out e)
           have ks := (kk.mono (T := fun k => k = s ∨ k = bb) (fun _ _ e => e.elim)).trans k5
           have n0 : mb ≠ wr.heap.size := by omega
           have n0' : wr.heap.size ≠ mb := by omega
           have z0 : w5.cell? ⟨wr.heap.size,0,none⟩ = some (.int .i64 0) := cell_of hz rfl
           have z1 : w5.cell? ⟨wr.heap.size,1,none⟩ = some (.int .i64 0) := cell_of hz rfl
           have z2 : w5.cell? ⟨wr.heap.size,2,none⟩ = some (.int .i64 0) := cell_of hz rfl
           have z3 : w5.cell? ⟨wr.heap.size,3,none⟩ = some (.string ⟨#[]⟩) := cell_of hz rfl
           have q0 := free_of (i := 0) hz
           have q1 := free_of (i := 1) hz
           have q2 := free_of (i := 2) hz
           have q3 := free_of (i := 3) hz)
        | (go_at_call 82; refine (HCR.out w4 r4).mono ?_; rintro e w5 ⟨rfl,r5,k5⟩; dsimp only [Wd.val]
           have o0 := k5.cell p0 (fun e => by rcases e with e | e; exact N1.out e; exact N3.out e)
           have o8 := k5.cell p8 (fun e => by rcases e with e | e; exact N1.out e; exact N3.out e)
           have ks := (kk.mono (T := fun k => k = s ∨ k = bb) (fun _ _ e => e.elim)).trans k5))
     all_goals
      go_wp2_with fail
      go_meet
      refine ⟨_,rfl,rfl,?_⟩
      first
       | (have hB := set4 (g := w4.heap.size) hz (.int .i64 wd.at_) (.int .i64 wd.xt) (.int .i64 wd.flags) (.string ⟨wd.name.toArray⟩)
          have kB := keeps_set4 ks (w4.heap.size) (.int .i64 wd.at_) (.int .i64 wd.xt) (.int .i64 wd.flags) (.string ⟨wd.name.toArray⟩) (by omega)
          have hby := HY.out.mem.lt
          have rB := r5.keeps (keeps_set4g w5 (w4.heap.size) (.int .i64 wd.at_) (.int .i64 wd.xt) (.int .i64 wd.flags) (.string ⟨wd.name.toArray⟩)) (fun e => by have e : s = w4.heap.size := e; omega) (fun e => by have e : b = w4.heap.size := e; omega) (fun e => by have e : bb = w4.heap.size := e; omega)
          exact ⟨hB,rB,by omega,kB⟩)
       | (have hB := set4 (g := wr.heap.size) hz (.int .i64 wd.at_) (.int .i64 wd.xt) (.int .i64 wd.flags) (.string ⟨wd.name.toArray⟩)
          have kB := keeps_set4 ks (wr.heap.size) (.int .i64 wd.at_) (.int .i64 wd.xt) (.int .i64 wd.flags) (.string ⟨wd.name.toArray⟩) (by omega)
          have hby := HY.out.mem.lt
          have rB := r5.keeps (keeps_set4g w5 (wr.heap.size) (.int .i64 wd.at_) (.int .i64 wd.xt) (.int .i64 wd.flags) (.string ⟨wd.name.toArray⟩)) (fun e => by have e : s = wr.heap.size := e; omega) (fun e => by have e : b = wr.heap.size := e; omega) (fun e => by have e : bb = wr.heap.size := e; omega)
          exact ⟨hB,rB,by omega,kB⟩)
       | (have hA := halloc_at w5 (.cells #[.int .i64 wd.at_,.int .i64 wd.xt,.int .i64 wd.flags,.string ⟨wd.name.toArray⟩] 53)
          have kA := ks.trans (Keeps.alloc (fun k => k = s ∨ k = bb) w5 (.cells #[.int .i64 wd.at_,.int .i64 wd.xt,.int .i64 wd.flags,.string ⟨wd.name.toArray⟩] 53))
          have lA := ks.size
          exact ⟨hA,r5.allocd _,by omega,kA⟩)
    case rest =>
     obtain ⟨g8,rfl,rfl,hw8,r8,h8,k8⟩ := hcut
     have e0 : wc.cell? ⟨g8,0,none⟩ = some (.int .i64 wd.at_) := cell_of hw8 rfl
     have e1 : wc.cell? ⟨g8,1,none⟩ = some (.int .i64 wd.xt) := cell_of hw8 rfl
     have e2 : wc.cell? ⟨g8,2,none⟩ = some (.int .i64 wd.flags) := cell_of hw8 rfl
     have e3 : wc.cell? ⟨g8,3,none⟩ = some (.string ⟨wd.name.toArray⟩) := cell_of hw8 rfl
     have hWD := h_ (show WdCells gW a lst f n wc from k8.heap HWD.out (fun e => by rcases e with e | e <;> omega))
     have R8 := h_ r8
     have K8 := h_ (HK.out.trans (k8.mono (T := fun k => k = gW ∨ k = s ∨ k = bb) (fun _ _ e => .inr e)))
     clear hw8 r8 k8
     by_cases hca : nmn = [40,99,97,117,103,104,116,41]
     · have d : (nmn == [40,99,97,117,103,104,116,41]) = true := by simp [hca]
       replace HF2 := h_ (show Vm.primFold l (names.drop (i + 1)) y2 wd.xt = some (x3,last) by have := HF2.out; rw [if_pos hca] at this; exact this)
       have q0 : wc.cell? ⟨gW,0,none⟩ = some (.int .i64 a) := cell_of hWD.out rfl
       have q1 : wc.cell? ⟨gW,1,none⟩ = some (.int .i64 lst) := cell_of hWD.out rfl
       have q2 : wc.cell? ⟨gW,2,none⟩ = some (.int .i64 f) := cell_of hWD.out rfl
       have q3 : wc.cell? ⟨gW,3,none⟩ = some (.string ⟨n.toArray⟩) := cell_of hWD.out rfl
       have b0 := free_of (i := 0) hWD.out
       have b1 := free_of (i := 1) hWD.out
       have b2 := free_of (i := 2) hWD.out
       have b3 := free_of (i := 3) hWD.out
       have WN := h_ (set4 hWD.out (.int .i64 wd.at_) (.int .i64 wd.xt) (.int .i64 wd.flags) (.string ⟨wd.name.toArray⟩))
       have KN := h_ (K8.out.trans ((keeps_set4g wc gW (.int .i64 wd.at_) (.int .i64 wd.xt) (.int .i64 wd.flags) (.string ⟨wd.name.toArray⟩)).mono (T := fun k => k = gW ∨ k = s ∨ k = bb) (fun _ _ e => .inl e)))
       have RN := h_ (R8.out.keeps (keeps_set4g wc gW (.int .i64 wd.at_) (.int .i64 wd.xt) (.int .i64 wd.flags) (.string ⟨wd.name.toArray⟩)) (fun e => by have e : s = gW := e; omega) (fun e => by have e : b = gW := e; omega) (fun e => by have e : bb = gW := e; omega))
       clear hca
       go_wp2_with fail
       go_roundw
       case rel => exact ⟨i + 1,y2,wd.xt,wd.at_,wd.flags,wd.name,by go_num,by omega,HF2.out,RN.out,WN.out,KN.out⟩
       case measure => simp [intOf]; omega
     · have d : (nmn == [40,99,97,117,103,104,116,41]) = false := by simp [hca]
       replace HF2 := h_ (show Vm.primFold l (names.drop (i + 1)) y2 lst = some (x3,last) by have := HF2.out; rw [if_neg hca] at this; exact this)
       clear hca
       go_wp2_with fail
       go_roundw
       case rel => exact ⟨i + 1,y2,lst,a,f,n,by go_num,by omega,HF2.out,R8.out,hWD.out,K8.out⟩
       case measure => simp [intOf]; omega
  · have hge : i = 86 := by omega
    subst hge
    rw [show names.drop 86 = [] by rw [← names_len]; exact List.drop_length] at hf
    rw [Vm.primFold] at hf
    injection hf with hf
    injection hf with h1 h2
    subst h1
    subst h2
    clear hlt
    have m0 : wr.cell? ⟨mb,0,none⟩ = some (.pointer (some ⟨s,0,none⟩)) := HMC.out.c0
    have m8 : wr.cell? ⟨mb,8,none⟩ = some (.int .i64 l) := HMC.out.c8
    have hmw : mb < wr.heap.size := lt_of_heap HMC.out
    have hsw : s < wr.heap.size ∧ bb < wr.heap.size := ⟨lt_of_heap HY.out.head,HY.out.mem.lt.2⟩
    have hbw : b < wr.heap.size := HY.out.mem.lt.1
    have hgr : gW < wr.heap.size := lt_of_heap HWD.out
    go_wp2_with fail
    go_cut [10,11] (fun v8 v9 wx => v9 = .int .i64 0 ∧ RSp wx s b bb x4 ∧ Keeps (fun k => k = s ∨ k = bb) wr wx)
    case first =>
     go_region_held3 (fun w' => w'.cell? ⟨mb,0,none⟩ = some (.pointer (some ⟨s,0,none⟩)) ∧ w'.cell? ⟨mb,8,none⟩ = some (.int .i64 l))
      (first | go_keep)
      (first
        | (go_at_call 82; refine (C4.out (wr.alloc (.cells #[.int .i64 0,.int .i64 0,.int .i64 0,.string ⟨#[]⟩] 53)).drew ((HY.out.allocd _).drew)).mono ?_; rintro e w5 ⟨rfl,r5,k5⟩; dsimp only [Wd.val]
           have hz := k5.heap (show ((wr.alloc (.cells #[.int .i64 0,.int .i64 0,.int .i64 0,.string ⟨#[]⟩] 53)).drew).heap[wr.heap.size]? = _ from halloc_at wr _) (fun e => by rcases e with e | e <;> omega)
           have o0 := k5.cell ((Keeps.alloc (fun _ => False) wr (.cells #[.int .i64 0,.int .i64 0,.int .i64 0,.string ⟨#[]⟩] 53)).cell m0 id) (fun e => by rcases e with e | e; exact N1.out e; exact N3.out e)
           have o8 := k5.cell ((Keeps.alloc (fun _ => False) wr (.cells #[.int .i64 0,.int .i64 0,.int .i64 0,.string ⟨#[]⟩] 53)).cell m8 id) (fun e => by rcases e with e | e; exact N1.out e; exact N3.out e)
           have ks := ((Keeps.alloc (fun k => k = s ∨ k = bb) wr (.cells #[.int .i64 0,.int .i64 0,.int .i64 0,.string ⟨#[]⟩] 53)).trans (Keeps.drew _ _)).trans k5
           have n0 : mb ≠ wr.heap.size := by omega
           have n0' : wr.heap.size ≠ mb := by omega
           have z0 : w5.cell? ⟨wr.heap.size,0,none⟩ = some (.int .i64 0) := cell_of hz rfl
           have z1 : w5.cell? ⟨wr.heap.size,1,none⟩ = some (.int .i64 0) := cell_of hz rfl
           have z2 : w5.cell? ⟨wr.heap.size,2,none⟩ = some (.int .i64 0) := cell_of hz rfl
           have z3 : w5.cell? ⟨wr.heap.size,3,none⟩ = some (.string ⟨#[]⟩) := cell_of hz rfl
           have q0 := free_of (i := 0) hz
           have q1 := free_of (i := 1) hz
           have q2 := free_of (i := 2) hz
           have q3 := free_of (i := 3) hz)
        | (go_at_call 82; refine (C4.out wr.drew HY.out.drew).mono ?_; rintro e w5 ⟨rfl,r5,k5⟩; dsimp only [Wd.val]
           have o0 := k5.cell m0 (fun e => by rcases e with e | e; exact N1.out e; exact N3.out e)
           have o8 := k5.cell m8 (fun e => by rcases e with e | e; exact N1.out e; exact N3.out e)
           have ks := (Keeps.drew (fun k => k = s ∨ k = bb) wr).trans k5))
     all_goals
      go_wp2_with fail
      go_meet
      refine ⟨rfl,?_⟩
      first
       | (have hB := set4 (g := wr.heap.size) hz (.int .i64 wd4.at_) (.int .i64 wd4.xt) (.int .i64 wd4.flags) (.string ⟨wd4.name.toArray⟩)
          have kB := keeps_set4 ks wr.heap.size (.int .i64 wd4.at_) (.int .i64 wd4.xt) (.int .i64 wd4.flags) (.string ⟨wd4.name.toArray⟩) (by omega)
          have rB := r5.keeps (keeps_set4g w5 wr.heap.size (.int .i64 wd4.at_) (.int .i64 wd4.xt) (.int .i64 wd4.flags) (.string ⟨wd4.name.toArray⟩)) (fun e => by have e : s = wr.heap.size := e; omega) (fun e => by have e : b = wr.heap.size := e; omega) (fun e => by have e : bb = wr.heap.size := e; omega)
          exact ⟨rB,kB⟩)
       | (have kA := ks.trans (Keeps.alloc (fun k => k = s ∨ k = bb) w5 (.cells #[.int .i64 wd4.at_,.int .i64 wd4.xt,.int .i64 wd4.flags,.string ⟨wd4.name.toArray⟩] 53))
          exact ⟨r5.allocd _,kA⟩)
    case rest =>
     obtain ⟨rfl,r9,k9⟩ := hcut
     have nS : ¬ (mb = s ∨ mb = bb) := fun e => by rcases e with e | e; exact N1.out e; exact N3.out e
     have M9 := h_ (HMC.out.keeps k9 nS)
     have W9 := h_ (show WdCells gW a lst f n wc from k9.heap HWD.out (fun e => by rcases e with e | e <;> omega))
     have R9 := h_ r9
     have K9 := h_ (HK.out.trans (k9.mono (T := fun k => k = gW ∨ k = s ∨ k = bb) (fun _ _ e => .inr e)))
     have NS := h_ nS
     have m0 : wc.cell? ⟨mb,0,none⟩ = some (.pointer (some ⟨s,0,none⟩)) := M9.out.c0
     have m14 : wc.cell? ⟨mb,14,none⟩ = some (.int .i64 x.here) := M9.out.c14
     clear r9 k9 m8 nS
     go_upto_region 22 with fail
     go_still_tail 8,(by kernel_rfl)
     change wpList _ _ _ _ _ wc.drew
     go_wp2_with fail
     refine (C5.out _ R9.out.drew).mono ?_
     rintro e W ⟨rfl,r1,k1⟩
     have k1 := (Keeps.drew (fun k => k = s ∨ k = bb) wc).trans k1
     replace M9 := h_ (M9.out.keeps k1 NS.out)
     replace W9 := h_ (show WdCells gW a lst f n W from k1.heap W9.out (fun e => by rcases e with e | e <;> omega))
     replace K9 := h_ (K9.out.trans (k1.mono (T := fun k => k = gW ∨ k = s ∨ k = bb) (fun _ _ e => .inr e)))
     replace R9 := h_ r1
     clear r1 k1 m0 m14
     have m0 : W.cell? ⟨mb,0,none⟩ = some (.pointer (some ⟨s,0,none⟩)) := M9.out.c0
     have m15 := M9.out.c15
     have f15 := M9.out.free 15
     have KX : Keeps (fun k => k = mb) W (W.setCell ⟨mb,15,none⟩ (.int .i64 x5.here)) := Keeps.setCell _ _ _ (fun _ => rfl)
     have M10 := h_ (M9.out.setCaught x5.here)
     have W10 := h_ (show WdCells gW a lst f n (W.setCell ⟨mb,15,none⟩ (.int .i64 x5.here)) from KX.heap W9.out (fun e => by have e : gW = mb := e; omega))
     have R10 := h_ (R9.out.keeps KX (fun e => N1.out e.symm) (fun e => N2.out e.symm) (fun e => N3.out e.symm))
     have K10 := h_ ((K9.out.mono (T := fun k => k = mb ∨ k = gW ∨ k = s ∨ k = bb) (fun _ _ e => .inr e)).trans (KX.mono (fun _ _ e => .inl e)))
     have n10 : (W.setCell ⟨mb,15,none⟩ (.int .i64 x5.here)).cell? ⟨mb,0,none⟩ = some (.pointer (some ⟨s,0,none⟩)) := M10.out.c0
     have n11 : (W.setCell ⟨mb,15,none⟩ (.int .i64 x5.here)).cell? ⟨gW,1,none⟩ = some (.int .i64 lst) := cell_of W10.out rfl
     clear KX
     go_wp2_with fail
     refine (sp_here W s b bb _ R9.out).mono ?_
     rintro e w1 ⟨rfl,rfl⟩
     go_upto_region 26 with fail
     generalize hV : W.setCell ⟨mb,15,none⟩ (.int .i64 x5.here) = V at M10 W10 R10 K10 n10 n11 ⊢
     clear hV m0 m15 f15
     go_still_tail 6,(by kernel_rfl)
     change wpList _ _ _ _ _ V.drew
     go_wp2_with fail
     refine (C6.out _ R10.out.drew).mono ?_
     rintro e W' ⟨rfl,r1,k1⟩
     have k1 := (Keeps.drew (fun k => k = s ∨ k = bb) V).trans k1
     have MF := h_ (M10.out.keeps k1 NS.out)
     have RF := h_ r1
     have KF := h_ (KK1.out.trans' (K10.out.trans (k1.mono (T := fun k => k = mb ∨ k = gW ∨ k = s ∨ k = bb) (fun _ _ e => .inr (.inr e)))) (fun i hi e => by rcases e with e | e | e | e; exact .inl e; omega; exact .inr (.inl e); exact .inr (.inr e)))
     clear r1 k1
     go_wp2_with fail
     go_ret
     exact ⟨rfl,MF.out,RF.out,KF.out⟩
end Go.Proofs.Shed
set_option maxRecDepth 10000
set_option maxHeartbeats 4000000
namespace Go.Proofs.Shed
open Go Go.RowKit Go.Proofs.K
def Mem.markWd (m : Mem) (a fl : Int) : Mem × Int :=
 match m.readWd a with
 | none => (m,-256)
 | some (x,_) => if fl < 0 ∨ 255 < fl then (m,-256) else m.setCell (a + 8) (x.name.length + fl * 256)
theorem readWd_name31 {m : Mem} {a : Int} {d : Wd} {l : Int} (e : m.readWd a = some (d,l)) : d.name.length ≤ 31 := by
 unfold Mem.readWd at e
 simp only at e
 split at e
 · cases e
 · rename_i h1
   split at e
   · cases e
   · cases e
     have h3 : ¬ 31 < (m.cell (a + 8)).1 % 256 := fun h => h1 (.inr (.inr (.inl h)))
     show (m.text (a + 16) ((m.cell (a + 8)).1 % 256)).1.length ≤ 31
     unfold Mem.text
     split
     · simp only [bytesN_len]; omega
     · simp
theorem head_mark (w : World) (b bb : Nat) (m : Mem) (d : Wd) (fl : Int) (h : RMem w b bb m) (a0 : 0 ≤ d.at_) (a1 : d.at_ ≤ 4194304) (f0 : 0 ≤ fl) (f1 : fl ≤ 255) :
 Calls Tryz.prog 37 #[.pointer (some ⟨b,0,none⟩),d.val,.int .i64 fl] w fun e w' => e = .returned (.int .i64 (m.markWd d.at_ fl).2) ∧ RMem w' b bb (m.markWd d.at_ fl).1 ∧ Keeps (fun g => g = bb) w w' := by
 have H := h_ h
 obtain ⟨at_,xt,flags,name⟩ := d
 simp only at a0 a1 ⊢
 unfold Wd.val
 simp only
 have HRD := h_ fun V (hV : RMem V b bb m) => head_read V b bb m at_ hV a0 a1
 have hk : m.markWd at_ fl = match m.readWd at_ with
  | none => (m,-256)
  | some (x,_) => if fl < 0 ∨ 255 < fl then (m,-256) else m.setCell (at_ + 8) (x.name.length + fl * 256) := rfl
 generalize m.markWd at_ fl = Q at hk ⊢
 have hn := fun d l (e : m.readWd at_ = some (d,l)) => readWd_name31 e
 generalize m.readWd at_ = r at hk HRD hn
 clear h
 cases r with
 | none =>
  simp only at hk
  subst hk
  unfold readWdV Wd.val Wd.none at HRD
  simp only at HRD
  have M0 := h_ (H.out.keeps (Keeps.alloc (fun _ => False) w (.cells #[.int .i64 at_,.int .i64 xt,.int .i64 flags,.string ⟨name.toArray⟩] 53)) id id)
  have K0 := h_ (Keeps.alloc (fun g => g = bb) w (.cells #[.int .i64 at_,.int .i64 xt,.int .i64 flags,.string ⟨name.toArray⟩] 53))
  have hw0 := h_ (halloc_at w (.cells #[.int .i64 at_,.int .i64 xt,.int .i64 flags,.string ⟨name.toArray⟩] 53))
  go_enter Tryz.func37,Tryz.ntmps37
  go_wp2_with fail
  refine (HRD.out _ M0.out).mono ?_
  rintro e w1 ⟨rfl,k1⟩
  have M1 := h_ (M0.out.keeps k1 id id)
  have K1 := h_ (K0.out.trans (k1.mono (fun _ _ e => e.elim)))
  have e0 : w1.cell? ⟨w.heap.size,0,none⟩ = some (.int .i64 at_) := k1.cell (cell_of hw0.out rfl) id
  clear k1
  skip
  have R2 := h_ (M1.out.keeps (Keeps.alloc (fun _ => False) w1 (.cells #[.int .i64 0,.int .i64 0,.int .i64 0,.string ⟨#[]⟩] 53)) id id)
  have K2 := h_ (K1.out.trans (Keeps.alloc _ w1 (.cells #[.int .i64 0,.int .i64 0,.int .i64 0,.string ⟨#[]⟩] 53)))
  go_wp2_with fail
  go_ret
  exact ⟨rfl,R2.out,K2.out⟩
 | some x =>
  obtain ⟨⟨ya,yx,yf,yn⟩,l⟩ := x
  have hn31 := hn _ _ rfl
  simp only at hn31 hk
  rw [if_neg (by omega)] at hk
  subst hk
  unfold readWdV Wd.val at HRD
  simp only at HRD
  have HS := h_ fun V (hV : RMem V b bb m) => mem_setCell V b bb m (at_ + 8) (yn.length + fl * 256) hV
  have hw : wrap64 (fl * 256) = fl * 256 := IntWalk.wrap64_in _ (by omega)
  have hw2 : wrap64 ((yn.length : Int) + fl * 256) = (yn.length : Int) + fl * 256 := IntWalk.wrap64_in _ (by omega)
  clear hn
  have M0 := h_ (H.out.keeps (Keeps.alloc (fun _ => False) w (.cells #[.int .i64 at_,.int .i64 xt,.int .i64 flags,.string ⟨name.toArray⟩] 53)) id id)
  have K0 := h_ (Keeps.alloc (fun g => g = bb) w (.cells #[.int .i64 at_,.int .i64 xt,.int .i64 flags,.string ⟨name.toArray⟩] 53))
  have hw0 := h_ (halloc_at w (.cells #[.int .i64 at_,.int .i64 xt,.int .i64 flags,.string ⟨name.toArray⟩] 53))
  go_enter Tryz.func37,Tryz.ntmps37
  go_wp2_with fail
  refine (HRD.out _ M0.out).mono ?_
  rintro e w1 ⟨rfl,k1⟩
  have M1 := h_ (M0.out.keeps k1 id id)
  have K1 := h_ (K0.out.trans (k1.mono (fun _ _ e => e.elim)))
  have e0 : w1.cell? ⟨w.heap.size,0,none⟩ = some (.int .i64 at_) := k1.cell (cell_of hw0.out rfl) id
  clear k1
  skip
  have R2 := h_ (M1.out.keeps (Keeps.alloc (fun _ => False) w1 (.cells #[.int .i64 ya,.int .i64 yx,.int .i64 yf,.string ⟨yn.toArray⟩] 53)) id id)
  have K2 := h_ (K1.out.trans (Keeps.alloc _ w1 (.cells #[.int .i64 ya,.int .i64 yx,.int .i64 yf,.string ⟨yn.toArray⟩] 53)))
  have e1 := (Keeps.alloc (fun _ => False) w1 (.cells #[.int .i64 ya,.int .i64 yx,.int .i64 yf,.string ⟨yn.toArray⟩] 53)).cell e0 id
  have e3 : (w1.alloc (.cells #[.int .i64 ya,.int .i64 yx,.int .i64 yf,.string ⟨yn.toArray⟩] 53)).cell? ⟨w1.heap.size,3,none⟩ = some (.string ⟨yn.toArray⟩) := cell_of (halloc_at w1 _) rfl
  clear e0
  go_wp2_with fail
  refine (HS.out _ R2.out).mono ?_
  rintro e w3 ⟨rfl,m3,k3⟩
  have M3 := h_ m3
  have K3 := h_ (K2.out.trans k3)
  clear m3 k3
  go_wp2_with fail
  go_ret
  exact ⟨rfl,M3.out,K3.out⟩
set_option maxRecDepth 10000
set_option maxHeartbeats 4000000
theorem ref_lower (w : World) (s : List UInt8) (hs : s.length ≤ 1000000) : Calls Tryz.prog 368 #[.string ⟨s.toArray⟩] w fun e w' => e = .returned (.string ⟨(lower s).toArray⟩) ∧ Keeps (fun _ => False) w w' := by
 go_enter Tryz.func368,Tryz.ntmps368
 go_wp2_with fail
 go_loopw [3,4] (fun ov iv wr => ∃ i : Nat,i ≤ s.length ∧ iv = .int .i64 i ∧ ov = .string ⟨(lower (s.take i)).toArray⟩ ∧ Keeps (fun _ => False) w wr) (fun _ i _ => s.length - (intOf i).toNat)
 case atStart => exact ⟨0,Nat.zero_le _,rfl,rfl,Keeps.refl _ _⟩
 case round =>
  obtain ⟨i,hi,rfl,rfl,hk⟩ := hrel
  have HK := h_ hk
  clear hk
  by_cases hlt : i < s.length
  · have c2 : (i : Int) < s.length := by omega
    have c3 : (0 : Int) ≤ i := by omega
    have c7 : wrap64 ((i : Int) + 1) = (i : Int) + 1 := IntWalk.wrap64_in _ (by omega)
    have htk : lower (s.take (i + 1)) = lower (s.take i) ++ [lowB s[i]] := by
     unfold lower
     rw [show s.take (i + 1) = s.take i ++ [s[i]] from by simp,List.map_append]
     rfl
    have HT := h_ htk
    have hll : (lower (s.take i)).length = i := by unfold lower; simp; omega
    obtain ⟨c,hc⟩ : ∃ c,c = s[i] := ⟨_,rfl⟩
    have HCI := h_ hc
    rw [← hc] at HT
    generalize lower (s.take i) = o at HT hll ⊢
    have hm1 : ¬ 9223372036854775807 < o.length + 1 := by omega
    have conv : ∀ (v : UInt8),(convert 143 9 (.slice (some ⟨wr.heap.size,0,none⟩) 1 1)).run Tryz.prog (wr.alloc (.cells #[.int .u8 (v.toNat : Int)] 5)) = .ok (.string ⟨#[v]⟩) (wr.alloc (.cells #[.int .u8 (v.toNat : Int)] 5)) := by
     intro v
     have := run_convert_bytes_arg (P := Tryz.prog) (wr.alloc (.cells #[.int .u8 (v.toNat : Int)] 5)) 143 5 Tryz.underlying143 Tryz.underlying5 wr.heap.size 0 1 1 [(v.toNat : Int)] rfl (fun j hj => by
      have : j = 0 := by omega
      subst this
      exact cell_of (halloc_at wr _) rfl) 9 Tryz.underlying9
     rw [this]
     have h2 : strOfNums [(v.toNat : Int)] = ⟨#[v]⟩ := by
      unfold strOfNums
      simp
     rw [h2]
    have KA := h_ fun (v : UInt8) => HK.out.trans (Keeps.alloc (fun _ => False) wr (.cells #[.int .u8 (v.toNat : Int)] 5))
    clear htk
    go_upto_region 5 with fail
    go_cut [5] (fun v wx => v = .int .u8 (c.toNat : Int) ∧ wx = wr)
    case first =>
     go_wp2_with fail
     go_meet
     exact ⟨by rw [HCI.out]; rfl,rfl⟩
    case rest =>
     obtain ⟨rfl,rfl⟩ := hcut
     clear hc
     by_cases h65 : 65 ≤ c.toNat
     · by_cases h90 : c.toNat ≤ 90
       · have hv : ((lowB c).toNat : Int) = (c.toNat : Int) + 32 := lowB_hit ⟨h65,h90⟩
         have cv := conv (lowB c)
         rw [hv] at cv
         have KB := KA.out (lowB c)
         rw [hv] at KB
         have KC := h_ KB
         have w1 : IntKind.u8.wrap ((c.toNat : Int) + 32) = (c.toNat : Int) + 32 := by show ((c.toNat : Int) + 32) % 256 = _; omega
         have f65 : (65 : Int) ≤ (c.toNat : Int) := by omega
         have f90 : (c.toNat : Int) ≤ 90 := by omega
         clear conv KB hv h65 h90
         go_wp2_with fail
         go_roundw
         case rel => exact ⟨i + 1,by omega,by go_num,by rw [HT.out]; rfl,KC.out⟩
         case measure => simp [intOf]; omega
       · have hv : lowB c = c := lowB_miss (fun e => h90 e.2)
         rw [hv] at HT
         have cv := conv c
         have KC := h_ (KA.out c)
         have f65 : (65 : Int) ≤ (c.toNat : Int) := by omega
         have f90 : (90 : Int) < (c.toNat : Int) := by omega
         clear conv hv h65 h90
         go_wp2_with fail
         go_roundw
         case rel => exact ⟨i + 1,by omega,by go_num,by rw [HT.out]; rfl,KC.out⟩
         case measure => simp [intOf]; omega
     · have hv : lowB c = c := lowB_miss (fun e => h65 e.1)
       rw [hv] at HT
       have cv := conv c
       have KC := h_ (KA.out c)
       have f65 : (c.toNat : Int) < 65 := by omega
       clear conv hv h65
       go_wp2_with fail
       go_roundw
       case rel => exact ⟨i + 1,by omega,by go_num,by rw [HT.out]; rfl,KC.out⟩
       case measure => simp [intOf]; omega
  · have hil : i = s.length := by omega
    subst hil
    have hn : ¬ ((s.length : Int) < s.length) := by omega
    rw [List.take_length]
    clear hlt
    go_wp2_with fail
    go_ret
    exact ⟨rfl,HK.out⟩
theorem Sp.and_zero {r : Sp × Int} {f : Sp → Sp × Int} (h : (Sp.andThen r f).2 = 0) : r.2 = 0 ∧ (f r.1).2 = 0 ∧ Sp.andThen r f = f r.1 := by
 unfold Sp.andThen at h ⊢
 split at h
 · rename_i e; exact absurd h e
 · rename_i e; rw [if_neg e]; exact ⟨by simpa using e,h,rfl⟩
theorem Sp.create_succ {x : Sp} {l : Int} {name : List UInt8} {fl cd : Int} (h : (x.create l name fl cd).2.2 = 0) : ∃ y0 y1 y2 y3 y4 y5 y6 : Sp,name ≠ [] ∧ name.length ≤ 31 ∧ (x.mem.cell l).2 = 0 ∧ x.align = (y0,0) ∧ y0.comma (x.mem.cell l).1 = (y1,0) ∧
 y1.comma (name.length + fl * 256) = (y2,0) ∧ y2.chars (lower name) = (y3,0) ∧ y3.align = (y4,0) ∧ y4.comma cd = (y5,0) ∧ y5.setCellAt l y0.here = (y6,0) ∧ x.create l name fl cd = (y6,⟨y0.here,y4.here,fl,lower name⟩,0) := by
 unfold Sp.create at h ⊢
 split at h
 · cases h
 · rename_i hn
   rw [if_neg hn]
   split at h
   · rename_i h6; exact absurd h h6
   · rename_i h6
     rw [if_neg h6]
     have h6 : (x.cr6 l name fl cd).2 = 0 := by simpa using h6
     obtain ⟨h5,a6,e6⟩ := Sp.and_zero h6
     obtain ⟨h4,a5,e5⟩ := Sp.and_zero h5
     obtain ⟨h3,a4,e4⟩ := Sp.and_zero h4
     obtain ⟨h2,a3,e3⟩ := Sp.and_zero h3
     obtain ⟨h1,a2,e2⟩ := Sp.and_zero h2
     obtain ⟨h0,a1,e1⟩ := Sp.and_zero h1
     have hc : (x.mem.cell l).2 = 0 := by
      unfold Sp.cr0 at h0
      split at h0
      · rename_i e; exact e
      · exact h0
     have e0 : x.cr0 l = x.align := by unfold Sp.cr0; rw [if_pos hc]
     have f0 : x.cr0 l = ((x.cr0 l).1,0) := Prod.ext rfl h0
     have f1 : x.cr1 l = ((x.cr1 l).1,0) := Prod.ext rfl h1
     have f2 : x.cr2 l name fl = ((x.cr2 l name fl).1,0) := Prod.ext rfl h2
     have f3 : x.cr3 l name fl = ((x.cr3 l name fl).1,0) := Prod.ext rfl h3
     have f4 : x.cr4 l name fl = ((x.cr4 l name fl).1,0) := Prod.ext rfl h4
     have f5 : x.cr5 l name fl cd = ((x.cr5 l name fl cd).1,0) := Prod.ext rfl h5
     have f6 : x.cr6 l name fl cd = ((x.cr6 l name fl cd).1,0) := Prod.ext rfl h6
     refine ⟨(x.cr0 l).1,(x.cr1 l).1,(x.cr2 l name fl).1,(x.cr3 l name fl).1,(x.cr4 l name fl).1,(x.cr5 l name fl cd).1,(x.cr6 l name fl cd).1,fun e => hn (.inl e),by
      have := fun e => hn (.inr e)
      omega,hc,by rw [← e0]; exact f0,e1 ▸ f1,e2 ▸ f2,e3 ▸ f3,e4 ▸ f4,e5 ▸ f5,e6 ▸ f6,rfl⟩
theorem RsOk.of {s b bb : Nat} {x y : Sp} {w : World} {e : Ending} {w' : World} (h : RsOk s b bb x w e w') (hx : x = y) : RsOk s b bb y w e w' := hx ▸ h
theorem ref_list (w : World) (s b bb : Nat) (x : Sp) (h0 : x.list.2.2 = 0) (h : RRs w s b bb x) : Calls Tryz.prog 214 #[.pointer (some ⟨s,0,none⟩)] w fun e w' => e = .returned (.tuple #[.int .i64 x.list.2.1,.int .i64 0]) ∧ RRs w' s b bb x.list.1 ∧ Keeps (fun k => k = s ∨ k = bb) w w' := by
 have hl : x.align.2 = 0 ∧ (x.align.1.comma 0).2 = 0 ∧ x.list = ((x.align.1.comma 0).1,x.align.1.here,0) := by
  unfold Sp.list at h0 ⊢
  split at h0
  · rename_i e; exact absurd h0 e
  · rename_i e
    split at h0
    · rename_i e2; exact absurd h0 e2
    · rename_i e2; rw [if_neg e,if_neg e2]; exact ⟨by simpa using e,by simpa using e2,rfl⟩
 obtain ⟨h1,h2,h3⟩ := hl
 rw [h3]
 have HA := h_ (rs_align w s b bb x h1 h)
 have HC := h_ fun V (hV : RRs V s b bb x.align.1) => rs_comma V s b bb x.align.1 0 h2 hV
 generalize x.align.1 = y at HA HC ⊢
 generalize (y.comma 0).1 = z at HC ⊢
 clear h h0 h1 h2 h3
 go_enter Tryz.func214,Tryz.ntmps214
 go_wp2_with fail
 refine HA.out.mono ?_
 rintro e w1 ⟨rfl,r1,k1⟩
 have R1 := h_ r1
 have K1 := h_ k1
 have c3 := r1.c3
 clear r1 k1
 go_wp2_with fail
 refine (HC.out _ R1.out).mono ?_
 rintro e w2 ⟨rfl,r2,k2⟩
 have R2 := h_ r2
 have K2 := h_ (K1.out.trans k2)
 clear r2 k2
 go_wp2_with fail
 go_ret2
 exact ⟨rfl,R2.out,K2.out⟩
set_option maxRecDepth 10000
set_option maxHeartbeats 4000000
theorem RRs.lts {w : World} {s b bb : Nat} {x : Sp} (h : RRs w s b bb x) : s < w.heap.size ∧ b < w.heap.size ∧ bb < w.heap.size := ⟨lt_of_heap h.head,h.mem.lt⟩
theorem ref_create (w : World) (s b bb : Nat) (x : Sp) (l : Int) (name : List UInt8) (fl cd : Int) (hf0 : 0 ≤ fl) (hf1 : fl ≤ 255) (hok : (x.create l name fl cd).2.2 = 0) (h : RRs w s b bb x) :
 Calls Tryz.prog 215 #[.pointer (some ⟨s,0,none⟩),.int .i64 l,.string ⟨name.toArray⟩,.int .i64 fl,.int .i64 cd] w
 fun e w' => e = .returned (.tuple #[(x.create l name fl cd).2.1.val,.int .i64 0]) ∧ RRs w' s b bb (x.create l name fl cd).1 ∧ Keeps (fun k => k = s ∨ k = bb) w w' := by
 obtain ⟨y0,y1,y2,y3,y4,y5,y6,n0,n1,h0,e0,e1,e2,e3,e4,e5,e6,ec⟩ := Sp.create_succ hok
 rw [ec]
 have HC := h_ fun V (hV : RRs V s b bb x) => rm_cell V b bb x.mem l hV.mem
 rw [h0] at HC
 have HLW := h_ fun V => ref_lower V name (by omega)
 have A0 := h_ fun V (hV : RRs V s b bb x) => (rs_align V s b bb x (by rw [e0]) hV).mono fun _ _ h => h.of (show _ = y0 by rw [e0])
 have A1 := h_ fun V (hV : RRs V s b bb y0) => (rs_comma V s b bb y0 (x.mem.cell l).1 (by rw [e1]) hV).mono fun _ _ h => h.of (show _ = y1 by rw [e1])
 have A2 := h_ fun V (hV : RRs V s b bb y1) => (rs_comma V s b bb y1 (name.length + fl * 256) (by rw [e2]) hV).mono fun _ _ h => h.of (show _ = y2 by rw [e2])
 have hll : (lower name).length = name.length := by unfold lower; simp
 have A3 := h_ fun V (hV : RRs V s b bb y2) => (rs_chars V s b bb y2 (lower name) (by omega) (by rw [e3]) hV).mono fun _ _ h => h.of (show _ = y3 by rw [e3])
 have A4 := h_ fun V (hV : RRs V s b bb y3) => (rs_align V s b bb y3 (by rw [e4]) hV).mono fun _ _ h => h.of (show _ = y4 by rw [e4])
 have A5 := h_ fun V (hV : RRs V s b bb y4) => (rs_comma V s b bb y4 cd (by rw [e5]) hV).mono fun _ _ h => h.of (show _ = y5 by rw [e5])
 have h6 : (y5.mem.setCell l y0.here).2 = 0 := congrArg Prod.snd e6
 have h6b : { y5 with mem := (y5.mem.setCell l y0.here).1 } = y6 := congrArg Prod.fst e6
 have A6 := h_ fun V (hV : RRs V s b bb y5) => rm_setCell V b bb y5.mem l y0.here hV.mem
 rw [h6] at A6
 have Z6 := h_ (Mem.setCell_size y5.mem l y0.here)
 have H6B := h_ h6b
 generalize (y5.mem.setCell l y0.here).1 = m6 at A6 Z6 H6B
 generalize (x.mem.cell l).1 = link at HC A1
 generalize lower name = low at HLW A3 ⊢
 have R0 := h_ (h.keeps (Keeps.alloc (fun _ => False) w (.cells #[.int .i64 0,.int .i64 0,.int .i64 0,.string ⟨#[]⟩] 307)) id id id)
 have K0 := h_ (Keeps.alloc (fun k => k = s ∨ k = bb) w (.cells #[.int .i64 0,.int .i64 0,.int .i64 0,.string ⟨#[]⟩] 307))
 have B0 := h_ (halloc_at w (.cells #[.int .i64 0,.int .i64 0,.int .i64 0,.string ⟨#[]⟩] 307))
 have LT := h_ h.lts
 have f1 : name.isEmpty = false := by cases name with | nil => exact absurd rfl n0 | cons => rfl
 have f2 : ¬ (31 : Int) < (name.length : Int) := by omega
 have f3 : wrap64 (256 * fl) = fl * 256 := by rw [Int.mul_comm]; exact IntWalk.wrap64_in _ (by omega)
 have f4 : wrap64 ((name.length : Int) + fl * 256) = name.length + fl * 256 := IntWalk.wrap64_in _ (by omega)
 clear h0 e0 e1 e2 e3 e4 e5 e6 ec h6 h6b hok h n0 n1 hll
 have c0 := R0.out.c0
 go_enter Tryz.func215,Tryz.ntmps215
 go_wp2_with fail
 refine (HC.out _ R0.out).mono ?_
 rintro e w1 ⟨rfl,rfl⟩
 have c3 := R0.out.c3
 go_wp2_with fail
 refine (HLW.out _).mono ?_
 rintro e w1 ⟨rfl,k1⟩
 have R1 := h_ (R0.out.keeps k1 id id id)
 have K1 := h_ (K0.out.trans (k1.mono (fun _ _ e => e.elim)))
 have B1 := h_ (k1.heap B0.out id)
 clear k1 c0 c3
 go_upto_region 8 with fail
 obtain ⟨g15,hg15⟩ : ∃ g15,g15 = w1.heap.size := ⟨_,rfl⟩
 have ka := Keeps.alloc (fun _ => False) w1 (.cells #[.int .i64 0,.int .i64 0,.int .i64 fl,.string ⟨low.toArray⟩] 307)
 have G2 := h_ (halloc_at w1 (.cells #[.int .i64 0,.int .i64 0,.int .i64 fl,.string ⟨low.toArray⟩] 307))
 rw [← hg15] at G2 ⊢
 have hlt1 := R1.out.lts
 have hbx := lt_of_heap B1.out
 have NG := h_ (show g15 ≠ s ∧ g15 ≠ bb ∧ w.heap.size ≠ s ∧ w.heap.size ≠ bb from by have := LT.out; omega)
 have NB := h_ (show g15 ≠ b from by omega)
 have NBX := h_ (show g15 ≠ w.heap.size from by omega)
 have NLT := h_ (show w.heap.size < g15 from by omega)
 have R2 := h_ (R1.out.keeps ka id id id)
 have B2 := h_ (ka.heap B1.out id)
 have K2 := h_ (K1.out.trans (ka.mono (fun _ _ e => e.elim)))
 generalize w1.alloc (.cells #[.int .i64 0,.int .i64 0,.int .i64 fl,.string ⟨low.toArray⟩] 307) = w2 at G2 R2 B2 K2 ⊢
 clear ka hg15 hlt1 hbx
 go_wp2_with fail
 refine (A0.out _ R2.out).mono ?_
 rintro e w3 ⟨rfl,r3,k3⟩
 have R3 := h_ r3
 have G3 := h_ (show w3.heap[g15]? = some (.cells #[.int .i64 0,.int .i64 0,.int .i64 fl,.string ⟨low.toArray⟩] 307 (0,0)) from k3.heap G2.out (fun e => NG.out.elim (fun n1 n2 => e.elim n1 n2.1)))
 have B3 := h_ (k3.heap B2.out (fun e => NG.out.elim (fun n1 n2 => e.elim n2.2.1 n2.2.2)))
 have K3 := h_ (K2.out.trans k3)
 clear r3 k3
 have c3 := R3.out.c3
 have f15 := free_of (i := 0) G3.out
 have y15 : w3.cell? ⟨g15,0,none⟩ = some (.int .i64 0) := cell_of G3.out rfl
 have ks := Keeps.setCell (S := fun k => k = g15) w3 ⟨g15,0,none⟩ (.int .i64 y0.here) (fun _ => rfl)
 have R4 := h_ (R3.out.keeps ks (fun e => NG.out.1 (by have e : s = g15 := e; exact e.symm)) (fun e => NB.out (by have e : b = g15 := e; exact e.symm)) (fun e => NG.out.2.1 (by have e : bb = g15 := e; exact e.symm)))
 have G4 := h_ (show (w3.setCell ⟨g15,0,none⟩ (.int .i64 y0.here)).heap[g15]? = some (.cells #[.int .i64 y0.here,.int .i64 0,.int .i64 fl,.string ⟨low.toArray⟩] 307 (0,0)) from hset_same (i := 0) G3.out (.int .i64 y0.here))
 have B4 := h_ (ks.heap B3.out (fun e => NBX.out (by have e : w.heap.size = g15 := e; exact e.symm)))
 have K4 := h_ (K3.out.trans' ks (fun i hi e => by have e : i = g15 := e; have := NLT.out; omega))
 clear ks
 go_wp2_with fail
 clear c3 f15 y15
 generalize w3.setCell ⟨g15,0,none⟩ (.int .i64 y0.here) = w4 at R4 G4 B4 K4 ⊢
 refine (A1.out _ R4.out).mono ?_
 rintro e w5 ⟨rfl,r5,k5⟩
 have R5 := h_ r5
 have G5 := h_ (show w5.heap[g15]? = some (.cells #[.int .i64 y0.here,.int .i64 0,.int .i64 fl,.string ⟨low.toArray⟩] 307 (0,0)) from k5.heap G4.out (fun e => NG.out.elim (fun n1 n2 => e.elim n1 n2.1)))
 have B5 := h_ (k5.heap B4.out (fun e => NG.out.elim (fun n1 n2 => e.elim n2.2.1 n2.2.2)))
 have K5 := h_ (K4.out.trans k5)
 clear r5 k5
 go_wp2_with fail
 rw [Int.mul_comm 256 fl]
 refine (A2.out _ R5.out).mono ?_
 rintro e w6 ⟨rfl,r6,k6⟩
 have R6 := h_ r6
 have G6 := h_ (show w6.heap[g15]? = some (.cells #[.int .i64 y0.here,.int .i64 0,.int .i64 fl,.string ⟨low.toArray⟩] 307 (0,0)) from k6.heap G5.out (fun e => NG.out.elim (fun n1 n2 => e.elim n1 n2.1)))
 have B6 := h_ (k6.heap B5.out (fun e => NG.out.elim (fun n1 n2 => e.elim n2.2.1 n2.2.2)))
 have K6 := h_ (K5.out.trans k6)
 clear r6 k6
 have y3 : w6.cell? ⟨g15,3,none⟩ = some (.string ⟨low.toArray⟩) := cell_of G6.out rfl
 go_wp2_with fail
 clear y3
 refine (A3.out _ R6.out).mono ?_
 rintro e w7 ⟨rfl,r7,k7⟩
 have R7 := h_ r7
 have G7 := h_ (show w7.heap[g15]? = some (.cells #[.int .i64 y0.here,.int .i64 0,.int .i64 fl,.string ⟨low.toArray⟩] 307 (0,0)) from k7.heap G6.out (fun e => NG.out.elim (fun n1 n2 => e.elim n1 n2.1)))
 have B7 := h_ (k7.heap B6.out (fun e => NG.out.elim (fun n1 n2 => e.elim n2.2.1 n2.2.2)))
 have K7 := h_ (K6.out.trans k7)
 clear r7 k7
 go_wp2_with fail
 refine (A4.out _ R7.out).mono ?_
 rintro e w8 ⟨rfl,r8,k8⟩
 have R8 := h_ r8
 have G8 := h_ (show w8.heap[g15]? = some (.cells #[.int .i64 y0.here,.int .i64 0,.int .i64 fl,.string ⟨low.toArray⟩] 307 (0,0)) from k8.heap G7.out (fun e => NG.out.elim (fun n1 n2 => e.elim n1 n2.1)))
 have B8 := h_ (k8.heap B7.out (fun e => NG.out.elim (fun n1 n2 => e.elim n2.2.1 n2.2.2)))
 have K8 := h_ (K7.out.trans k8)
 clear r8 k8
 have c3 := R8.out.c3
 have f15 := free_of (i := 1) G8.out
 have y15 : w8.cell? ⟨g15,1,none⟩ = some (.int .i64 0) := cell_of G8.out rfl
 have ks := Keeps.setCell (S := fun k => k = g15) w8 ⟨g15,1,none⟩ (.int .i64 y4.here) (fun _ => rfl)
 have R9 := h_ (R8.out.keeps ks (fun e => NG.out.1 (by have e : s = g15 := e; exact e.symm)) (fun e => NB.out (by have e : b = g15 := e; exact e.symm)) (fun e => NG.out.2.1 (by have e : bb = g15 := e; exact e.symm)))
 have G9 := h_ (show (w8.setCell ⟨g15,1,none⟩ (.int .i64 y4.here)).heap[g15]? = some (.cells #[.int .i64 y0.here,.int .i64 y4.here,.int .i64 fl,.string ⟨low.toArray⟩] 307 (0,0)) from hset_same (i := 1) G8.out (.int .i64 y4.here))
 have B9 := h_ (ks.heap B8.out (fun e => NBX.out (by have e : w.heap.size = g15 := e; exact e.symm)))
 have K9 := h_ (K8.out.trans' ks (fun i hi e => by have e : i = g15 := e; have := NLT.out; omega))
 clear ks
 go_wp2_with fail
 clear c3 f15 y15
 generalize w8.setCell ⟨g15,1,none⟩ (.int .i64 y4.here) = w9 at R9 G9 B9 K9 ⊢
 refine (A5.out _ R9.out).mono ?_
 rintro e w10 ⟨rfl,r10,k10⟩
 have R10 := h_ r10
 have G10 := h_ (show w10.heap[g15]? = some (.cells #[.int .i64 y0.here,.int .i64 y4.here,.int .i64 fl,.string ⟨low.toArray⟩] 307 (0,0)) from k10.heap G9.out (fun e => NG.out.elim (fun n1 n2 => e.elim n1 n2.1)))
 have B10 := h_ (k10.heap B9.out (fun e => NG.out.elim (fun n1 n2 => e.elim n2.2.1 n2.2.2)))
 have K10 := h_ (K9.out.trans k10)
 clear r10 k10
 have c0 := R10.out.c0
 have y0' : w10.cell? ⟨g15,0,none⟩ = some (.int .i64 y0.here) := cell_of G10.out rfl
 go_wp2_with fail
 go_still_tail 7,(by kernel_rfl)
 change wpList _ _ _ _ _ w10.drew
 have R11 := h_ (R10.out.keeps (Keeps.drew (fun _ => False) w10) id id id)
 have G11 := h_ (show w10.drew.heap[g15]? = _ from G10.out)
 have B11 := h_ (show w10.drew.heap[w.heap.size]? = _ from B10.out)
 have K11 := h_ (K10.out.trans (Keeps.drew _ w10))
 generalize w10.drew = w11 at R11 G11 B11 K11 ⊢
 clear c0 y0'
 go_wp2_with fail
 refine (A6.out _ R11.out).mono ?_
 rintro e w12 ⟨rfl,m12,k12⟩
 have hr12 := R11.out.withMem m12 Z6.out k12
 rw [H6B.out] at hr12
 have R12 := h_ hr12
 have G12 := h_ (show w12.heap[g15]? = some (.cells #[.int .i64 y0.here,.int .i64 y4.here,.int .i64 fl,.string ⟨low.toArray⟩] 307 (0,0)) from k12.heap G11.out NG.out.2.1)
 have B12 := h_ (show w12.heap[w.heap.size]? = some (.cells #[.int .i64 0,.int .i64 0,.int .i64 0,.string ⟨#[]⟩] 307 (0,0)) from k12.heap B11.out NG.out.2.2.2)
 have K12 := h_ (K11.out.trans (k12.mono (fun _ _ e => .inr e)))
 have x0 : w12.cell? ⟨g15,0,none⟩ = some (.int .i64 y0.here) := cell_of G12.out rfl
 have x1 : w12.cell? ⟨g15,1,none⟩ = some (.int .i64 y4.here) := cell_of G12.out rfl
 have x2 : w12.cell? ⟨g15,2,none⟩ = some (.int .i64 fl) := cell_of G12.out rfl
 have x3 : w12.cell? ⟨g15,3,none⟩ = some (.string ⟨low.toArray⟩) := cell_of G12.out rfl
 have a0 : w12.cell? ⟨w.heap.size,0,none⟩ = some (.int .i64 0) := cell_of B12.out rfl
 have a1 : w12.cell? ⟨w.heap.size,1,none⟩ = some (.int .i64 0) := cell_of B12.out rfl
 have a2 : w12.cell? ⟨w.heap.size,2,none⟩ = some (.int .i64 0) := cell_of B12.out rfl
 have a3 : w12.cell? ⟨w.heap.size,3,none⟩ = some (.string ⟨#[]⟩) := cell_of B12.out rfl
 have q0 := free_of (i := 0) B12.out
 have q1 := free_of (i := 1) B12.out
 have q2 := free_of (i := 2) B12.out
 have q3 := free_of (i := 3) B12.out
 clear m12 k12 hr12
 go_wp2_with fail
 have hB := set4 B12.out (.int .i64 y0.here) (.int .i64 y4.here) (.int .i64 fl) (.string ⟨low.toArray⟩)
 have g0 := cell_of (i := 0) hB rfl
 have g1 := cell_of (i := 1) hB rfl
 have g2 := cell_of (i := 2) hB rfl
 have g3 := cell_of (i := 3) hB rfl
 have RF := R12.out.keeps (keeps_set4g w12 w.heap.size (.int .i64 y0.here) (.int .i64 y4.here) (.int .i64 fl) (.string ⟨low.toArray⟩)) (fun e => NG.out.2.2.1 (by have e : s = w.heap.size := e; exact e.symm)) (fun e => by have e : b = w.heap.size := e; have := LT.out; omega) (fun e => NG.out.2.2.2 (by have e : bb = w.heap.size := e; exact e.symm))
 exact bodyPost_ret (v := .tuple #[Wd.val ⟨y0.here,y4.here,fl,low⟩,.int .i64 0]) (by simp [results,Tryz.results215,go_sem,Wd.val,g0,g1,g2,g3]) rfl ⟨rfl,RF,keeps_set4 K12.out _ _ _ _ _ (Nat.le_refl _)⟩
end Go.Proofs.Shed
