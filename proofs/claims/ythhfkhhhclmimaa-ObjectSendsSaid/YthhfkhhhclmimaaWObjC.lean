/- Layer 13: Dict. Conditions: the space lies in three blocks. -/
import Derived.Test.YthhfkhhhclmimaaWObjB
import Derived.Test.YthhfkhhhclmimaaWS
set_option linter.unusedVariables false
set_option linter.unusedSimpArgs false
set_option maxRecDepth 10000
set_option maxHeartbeats 4000000
namespace Go.Proofs.Shed
open Go Go.RowKit Go.Proofs.K

theorem obj_dict (w : World) (s b bb : Nat) (x : Sp) (c : Int) (h : RSp w s b bb x) (hc0 : -9223372036854775808 ≤ c) (hc1 : c ≤ 9223372036854775807) :
    Calls Try.prog 40 #[.pointer (some ⟨s, 0, none⟩), .int .i64 c] w (MkPost s b bb (Obj.dict x c) w) := by
  have H := Lib.hid h
  have C0 := h.c0
  clear h
  have HP := Lib.hid (obj_size w b bb x.mem c H.out.mem hc0 hc1)
  have HD : Hid (Obj.dict x c = if (Obj.size x.mem c).2 ≠ 0 then (x, 0, (Obj.size x.mem c).2)
  else if (Obj.dictR x (Obj.size x.mem c).1).2 ≠ 0 then (((Obj.dictR x (Obj.size x.mem c).1).1.back x.here).1, 0, (Obj.dictR x (Obj.size x.mem c).1).2)
  else ({ (Obj.dictR x (Obj.size x.mem c).1).1 with mem := (Obj.make (Obj.dictR x (Obj.size x.mem c).1).1.mem x.align.1.here c).1 }, x.align.1.here, (Obj.make (Obj.dictR x (Obj.size x.mem c).1).1.mem x.align.1.here c).2)) := rfl
  have HQ : ∀ n, Hid (Obj.dictR x n = if x.align.2 ≠ 0 then x.align else x.align.1.allot n) := fun n => rfl
  generalize Obj.dict x c = r at HD ⊢
  generalize Obj.size x.mem c = q at HP HD
  obtain ⟨n, e⟩ := q
  have hr := HD.out
  simp only at hr HP
  have HQn := HQ n
  clear HD HQ
  by_cases he : e = 0
  · subst he
    rw [if_neg (by simp)] at hr
    have HA := Lib.hid fun w H => sp_align w s b bb x H
    generalize Obj.dictR x n = d at hr HQn
    generalize x.align = y at HA hr HQn
    obtain ⟨y, ye⟩ := y
    simp only at hr
    have hq := HQn.out
    simp only at hq
    clear HQn
    have HB := Lib.hid fun w z H => sp_back w s b bb z x.here H
    by_cases hy : ye = 0
    · subst hy
      rw [if_neg (by simp)] at hq
      have HL := Lib.hid fun w H => sp_allot w s b bb y n H
      generalize y.allot n = z at HL hq
      subst hq
      obtain ⟨z, ze⟩ := d
      simp only at hr
      by_cases hz : ze = 0
      · subst hz
        rw [if_neg (by simp)] at hr
        have HM := Lib.hid fun w H => obj_make w b bb z.mem y.here c H hc0 hc1
        have hz2 := obj_make_size z.mem y.here c
        generalize Obj.make z.mem y.here c = m at HM hr hz2
        have HZ2 := Lib.hid hz2
        subst hr
        clear hz2
        go_enter Try.func40, Try.ntmps40
        go_wp2_with fail
        refine HP.out.mono ?_
        rintro e w1 ⟨rfl, k1⟩
        have K1 := Lib.hid (k1.mono (T := fun k => k = s ∨ k = bb) (fun _ _ => False.elim))
        have S1 := Lib.hid (H.out.keeps k1 id id id)
        clear k1
        go_wp2_with fail
        refine (sp_here _ _ _ _ _ S1.out).mono ?_
        rintro e w2 ⟨rfl, rfl⟩
        go_wp2_with fail
        refine (HA.out _ S1.out).mono ?_
        rintro e w2 ⟨rfl, s2, k2⟩
        have S2 := Lib.hid s2
        have K2 := Lib.hid (K1.out.trans k2)
        clear s2 k2
        go_wp2_with fail
        refine (sp_here _ _ _ _ _ S2.out).mono ?_
        rintro e w3 ⟨rfl, rfl⟩
        go_wp2_with fail
        refine (HL.out _ S2.out).mono ?_
        rintro e w3 ⟨rfl, s3, k3⟩
        have S3 := Lib.hid s3
        have K3 := Lib.hid (K2.out.trans k3)
        have C3 := S3.out.c0
        clear s3 k3
        go_wp2_with fail
        refine (HM.out _ S3.out.mem).mono ?_
        rintro e w4 ⟨rfl, m4, k4⟩
        have S4 := Lib.hid (S3.out.withMem' m4 HZ2.out k4)
        have K4 := Lib.hid (K3.out.trans (k4.mono (fun _ _ e => .inr e)))
        clear m4 k4
        go_wp2_with fail
        go_ret2
        exact ⟨rfl, S4.out, K4.out⟩
      · rw [if_pos hz] at hr
        have HBz := Lib.hid fun w H => HB.out w z H
        generalize z.back x.here = v at HBz hr
        subst hr
        have hz' : (ze != 0) = true := by simp [hz]
        clear hz
        go_enter Try.func40, Try.ntmps40
        go_wp2_with fail
        refine HP.out.mono ?_
        rintro e w1 ⟨rfl, k1⟩
        have K1 := Lib.hid (k1.mono (T := fun k => k = s ∨ k = bb) (fun _ _ => False.elim))
        have S1 := Lib.hid (H.out.keeps k1 id id id)
        clear k1
        go_wp2_with fail
        refine (sp_here _ _ _ _ _ S1.out).mono ?_
        rintro e w2 ⟨rfl, rfl⟩
        go_wp2_with fail
        refine (HA.out _ S1.out).mono ?_
        rintro e w2 ⟨rfl, s2, k2⟩
        have S2 := Lib.hid s2
        have K2 := Lib.hid (K1.out.trans k2)
        clear s2 k2
        go_wp2_with fail
        refine (sp_here _ _ _ _ _ S2.out).mono ?_
        rintro e w3 ⟨rfl, rfl⟩
        go_wp2_with fail
        refine (HL.out _ S2.out).mono ?_
        rintro e w3 ⟨rfl, s3, k3⟩
        have S3 := Lib.hid s3
        have K3 := Lib.hid (K2.out.trans k3)
        clear s3 k3
        go_wp2_with fail
        refine (HBz.out _ S3.out).mono ?_
        rintro e w4 ⟨rfl, s4, k4⟩
        have S4 := Lib.hid s4
        have K4 := Lib.hid (K3.out.trans k4)
        clear s4 k4
        go_wp2_with fail
        go_ret2
        exact ⟨rfl, S4.out, K4.out⟩
    · rw [if_pos hy] at hq
      subst hq
      simp only at hr
      rw [if_pos hy] at hr
      have HBz := Lib.hid fun w H => HB.out w y H
      generalize y.back x.here = v at HBz hr
      subst hr
      have hy' : (ye != 0) = true := by simp [hy]
      have hy2 : (ye == 0) = false := by simp [hy]
      clear hy
      go_enter Try.func40, Try.ntmps40
      go_wp2_with fail
      refine HP.out.mono ?_
      rintro e w1 ⟨rfl, k1⟩
      have K1 := Lib.hid (k1.mono (T := fun k => k = s ∨ k = bb) (fun _ _ => False.elim))
      have S1 := Lib.hid (H.out.keeps k1 id id id)
      clear k1
      go_wp2_with fail
      refine (sp_here _ _ _ _ _ S1.out).mono ?_
      rintro e w2 ⟨rfl, rfl⟩
      go_wp2_with fail
      refine (HA.out _ S1.out).mono ?_
      rintro e w2 ⟨rfl, s2, k2⟩
      have S2 := Lib.hid s2
      have K2 := Lib.hid (K1.out.trans k2)
      clear s2 k2
      go_wp2_with fail
      refine (sp_here _ _ _ _ _ S2.out).mono ?_
      rintro e w3 ⟨rfl, rfl⟩
      go_wp2_with fail
      refine (HBz.out _ S2.out).mono ?_
      rintro e w4 ⟨rfl, s4, k4⟩
      have S4 := Lib.hid s4
      have K4 := Lib.hid (K2.out.trans k4)
      clear s4 k4
      go_wp2_with fail
      go_ret2
      exact ⟨rfl, S4.out, K4.out⟩
  · rw [if_pos he] at hr
    subst hr
    have he' : (e != 0) = true := by simp [he]
    clear he HQn
    go_enter Try.func40, Try.ntmps40
    go_wp2_with fail
    refine HP.out.mono ?_
    rintro e w1 ⟨rfl, k1⟩
    have K1 := Lib.hid k1
    clear k1
    go_wp2_with fail
    go_ret2
    exact ⟨rfl, H.out.keeps K1.out id id id, K1.out.mono (fun _ _ => False.elim)⟩
end Go.Proofs.Shed
