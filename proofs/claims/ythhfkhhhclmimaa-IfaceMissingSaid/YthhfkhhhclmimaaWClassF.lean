/- Layer 11: make5. Conditions: the space lies in three blocks. PRINTED by wip/tools/gen_make5.py -/
import Derived.Test.YthhfkhhhclmimaaWClassE
set_option linter.unusedVariables false
set_option linter.unusedSimpArgs false
set_option maxRecDepth 10000
set_option maxHeartbeats 4000000
namespace Go.Proofs.Shed
open Go Go.RowKit Go.Proofs.K


theorem index5_0 (a b c d e : Value) (w : World) : (Instr.index 171 (.agg #[a, b, c, d, e]) (.int .i64 0)).run Try.prog w = .ok a w := by rfl
theorem index5_1 (a b c d e : Value) (w : World) : (Instr.index 171 (.agg #[a, b, c, d, e]) (.int .i64 1)).run Try.prog w = .ok b w := by rfl
theorem index5_2 (a b c d e : Value) (w : World) : (Instr.index 171 (.agg #[a, b, c, d, e]) (.int .i64 2)).run Try.prog w = .ok c w := by rfl
theorem index5_3 (a b c d e : Value) (w : World) : (Instr.index 171 (.agg #[a, b, c, d, e]) (.int .i64 3)).run Try.prog w = .ok d w := by rfl
theorem index5_4 (a b c d e : Value) (w : World) : (Instr.index 171 (.agg #[a, b, c, d, e]) (.int .i64 4)).run Try.prog w = .ok e w := by rfl

theorem class_make5 (w : World) (s b bb : Nat) (x : Sp) (root parent slots : Int) (h : RSp w s b bb x) (hp0 : -9223372036854775808 ≤ parent) (hp1 : parent ≤ 9223372036854775807) :
    Calls Try.prog 87 #[.pointer (some ⟨s, 0, none⟩), .int .i64 root, .int .i64 parent, .int .i64 slots] w (MkPost s b bb (Class.make5 x root parent slots) w) := by
  have H := Lib.hid h
  have h0 := h.c0
  clear h
  have HD : Hid (Class.make5 x root parent slots = if (x.mem.cell root).2 ≠ 0 then (x, 0, (x.mem.cell root).2)
    else if parent = 0 then (if (Tab.new x slots).2.2 ≠ 0 then ((Tab.new x slots).1, 0, (Tab.new x slots).2.2) else Class.make5.cells (Tab.new x slots).1 [357694784579, parent, 8, (Tab.new x slots).2.1, (x.mem.cell root).1] (Tab.new x slots).1.here)
    else if Class.is x.mem root parent = false then (x, 0, -2048)
    else (if (Tab.copy x (Class.read x.mem parent).1.table).2.2 ≠ 0 then ((Tab.copy x (Class.read x.mem parent).1.table).1, 0, (Tab.copy x (Class.read x.mem parent).1.table).2.2) else Class.make5.cells (Tab.copy x (Class.read x.mem parent).1.table).1 [357694784579, parent, (Class.read x.mem parent).1.size, (Tab.copy x (Class.read x.mem parent).1.table).2.1, (x.mem.cell root).1] (Tab.copy x (Class.read x.mem parent).1.table).1.here)) := rfl
  generalize Class.make5 x root parent slots = r at HD ⊢
  have hc := Lib.hid (mem_cell w b bb x.mem root H.out.mem)
  generalize x.mem.cell root = q at hc HD
  obtain ⟨prev, e0⟩ := q
  simp only at HD hc
  have ix0 := index5_0
  have ix1 := index5_1
  have ix2 := index5_2
  have ix3 := index5_3
  have ix4 := index5_4
  go_enter Try.func87, Try.ntmps87
  go_wp2_with fail
  refine hc.out.mono ?_
  rintro e1 w1 ⟨rfl, rfl⟩
  by_cases he0 : e0 = 0
  · have hr := HD.out
    rw [if_neg (by simpa using he0)] at hr
    have he0' : (e0 != 0) = false := by simp [he0]
    clear he0
    by_cases hp : parent = 0
    · rw [if_pos hp] at hr
      have hp' : (parent == 0) = true := by simp [hp]
      clear HD hp hp0 hp1
      have hN := Lib.hid (tab_new w s b bb x slots H.out)
      generalize Tab.new x slots = q at hN hr
      obtain ⟨y, u, e⟩ := q
      simp only at hr
      unfold MkPost at hN
      simp only at hN
      obtain ⟨sz, hsz⟩ : ∃ sz : Int, sz = 8 := ⟨_, rfl⟩
      rw [← hsz] at hr
      have HR := Lib.hid hr
      have HZ := Lib.hid hsz
      clear hr hsz
      go_wp2_with fail
      refine hN.out.mono ?_
      rintro e1 w1 ⟨rfl, s1, k1⟩
      have S := Lib.hid s1
      have K := Lib.hid k1
      clear s1 k1 h0
      by_cases he : e = 0
      · have hr := HR.out
        rw [if_neg (by simpa using he)] at hr
        have he' : (e != 0) = false := by simp [he]
        clear HR
        have HR := Lib.hid hr
        clear hr he
        go_wp2_with fail
        rw [← HZ.out]
        refine (sp_here _ _ _ _ _ S.out).mono ?_
        rintro e1 w1 ⟨rfl, rfl⟩
        go_wp2_with fail
        refine wp_loop_rounds 6 ?_
        rw [rounds_succ]
        go_wp2_with fail
        have hc := sp_comma _ s b bb _ (357694784579) S.out
        have hr := HR.out
        rw [Class.make5.cells] at hr
        generalize Sp.comma _ (357694784579) = qq at hc hr
        obtain ⟨y, e⟩ := qq
        have HC := Lib.hid hc
        clear hc HR
        simp only at hr
        refine HC.out.mono ?_
        rintro e1 w1 ⟨rfl, s1, k1⟩
        have K1 := Lib.hid (K.out.trans k1)
        clear K
        have K := K1
        have S := Lib.hid s1
        clear s1 k1 K1 HC
        by_cases he : e = 0
        · rw [if_neg (by simpa using he)] at hr
          have he' : (e != 0) = false := by simp [he]
          have HR := Lib.hid hr
          clear hr he
          go_wp2_with fail
          rw [rounds_succ]
          go_wp2_with fail
          have hc := sp_comma _ s b bb _ (parent) S.out
          have hr := HR.out
          rw [Class.make5.cells] at hr
          generalize Sp.comma _ (parent) = qq at hc hr
          obtain ⟨y, e⟩ := qq
          have HC := Lib.hid hc
          clear hc HR
          simp only at hr
          refine HC.out.mono ?_
          rintro e1 w1 ⟨rfl, s1, k1⟩
          have K1 := Lib.hid (K.out.trans k1)
          clear K
          have K := K1
          have S := Lib.hid s1
          clear s1 k1 K1 HC
          by_cases he : e = 0
          · rw [if_neg (by simpa using he)] at hr
            have he' : (e != 0) = false := by simp [he]
            have HR := Lib.hid hr
            clear hr he
            go_wp2_with fail
            rw [rounds_succ]
            go_wp2_with fail
            have hc := sp_comma _ s b bb _ (sz) S.out
            have hr := HR.out
            rw [Class.make5.cells] at hr
            generalize Sp.comma _ (sz) = qq at hc hr
            obtain ⟨y, e⟩ := qq
            have HC := Lib.hid hc
            clear hc HR
            simp only at hr
            refine HC.out.mono ?_
            rintro e1 w1 ⟨rfl, s1, k1⟩
            have K1 := Lib.hid (K.out.trans k1)
            clear K
            have K := K1
            have S := Lib.hid s1
            clear s1 k1 K1 HC
            by_cases he : e = 0
            · rw [if_neg (by simpa using he)] at hr
              have he' : (e != 0) = false := by simp [he]
              have HR := Lib.hid hr
              clear hr he
              go_wp2_with fail
              rw [rounds_succ]
              go_wp2_with fail
              have hc := sp_comma _ s b bb _ (u) S.out
              have hr := HR.out
              rw [Class.make5.cells] at hr
              generalize Sp.comma _ (u) = qq at hc hr
              obtain ⟨y, e⟩ := qq
              have HC := Lib.hid hc
              clear hc HR
              simp only at hr
              refine HC.out.mono ?_
              rintro e1 w1 ⟨rfl, s1, k1⟩
              have K1 := Lib.hid (K.out.trans k1)
              clear K
              have K := K1
              have S := Lib.hid s1
              clear s1 k1 K1 HC
              by_cases he : e = 0
              · rw [if_neg (by simpa using he)] at hr
                have he' : (e != 0) = false := by simp [he]
                have HR := Lib.hid hr
                clear hr he
                go_wp2_with fail
                rw [rounds_succ]
                go_wp2_with fail
                have hc := sp_comma _ s b bb _ (prev) S.out
                have hr := HR.out
                rw [Class.make5.cells] at hr
                generalize Sp.comma _ (prev) = qq at hc hr
                obtain ⟨y, e⟩ := qq
                have HC := Lib.hid hc
                clear hc HR
                simp only at hr
                refine HC.out.mono ?_
                rintro e1 w1 ⟨rfl, s1, k1⟩
                have K1 := Lib.hid (K.out.trans k1)
                clear K
                have K := K1
                have S := Lib.hid s1
                clear s1 k1 K1 HC
                by_cases he : e = 0
                · rw [if_neg (by simpa using he)] at hr
                  have he' : (e != 0) = false := by simp [he]
                  have HR := Lib.hid hr
                  clear hr he
                  go_wp2_with fail
                  rw [rounds_succ]
                  go_wp2_with fail
                  go_ret2
                  refine ⟨?_, ?_, K.out⟩
                  · rw [HR.out]; rfl
                  · rw [HR.out]; exact S.out
                · rw [if_pos he] at hr
                  have he' : (e != 0) = true := by simp [he]
                  have HR := Lib.hid hr
                  clear hr he
                  go_wp2_with fail
                  go_ret2
                  refine ⟨?_, ?_, K.out⟩
                  · rw [HR.out]; rfl
                  · rw [HR.out]; exact S.out
              · rw [if_pos he] at hr
                have he' : (e != 0) = true := by simp [he]
                have HR := Lib.hid hr
                clear hr he
                go_wp2_with fail
                go_ret2
                refine ⟨?_, ?_, K.out⟩
                · rw [HR.out]; rfl
                · rw [HR.out]; exact S.out
            · rw [if_pos he] at hr
              have he' : (e != 0) = true := by simp [he]
              have HR := Lib.hid hr
              clear hr he
              go_wp2_with fail
              go_ret2
              refine ⟨?_, ?_, K.out⟩
              · rw [HR.out]; rfl
              · rw [HR.out]; exact S.out
          · rw [if_pos he] at hr
            have he' : (e != 0) = true := by simp [he]
            have HR := Lib.hid hr
            clear hr he
            go_wp2_with fail
            go_ret2
            refine ⟨?_, ?_, K.out⟩
            · rw [HR.out]; rfl
            · rw [HR.out]; exact S.out
        · rw [if_pos he] at hr
          have he' : (e != 0) = true := by simp [he]
          have HR := Lib.hid hr
          clear hr he
          go_wp2_with fail
          go_ret2
          refine ⟨?_, ?_, K.out⟩
          · rw [HR.out]; rfl
          · rw [HR.out]; exact S.out
      · have hr := HR.out
        rw [if_pos he] at hr
        have he' : (e != 0) = true := by simp [he]
        clear HR
        have HR := Lib.hid hr
        clear hr he
        go_wp2_with fail
        go_ret2
        refine ⟨?_, ?_, K.out⟩
        · rw [HR.out]; rfl
        · rw [HR.out]; exact S.out
    · rw [if_neg hp] at hr
      have hp' : (parent == 0) = false := by simp [hp]
      clear HD hp
      have hI := Lib.hid (class_is w b bb x.mem root parent H.out.mem)
      cases hi : Class.is x.mem root parent with
      | false =>
        rw [hi] at hI
        rw [if_pos hi] at hr
        have HR := Lib.hid hr
        clear hr hi
        go_wp2_with fail
        refine hI.out.mono ?_
        rintro e1 w1 ⟨rfl, k1⟩
        have S := Lib.hid (H.out.keeps k1 id id id)
        have K := Lib.hid (k1.mono (T := fun k => k = s ∨ k = bb) (fun _ _ => False.elim))
        clear k1
        go_wp2_with fail
        go_ret2
        refine ⟨?_, ?_, K.out⟩
        · rw [HR.out]; rfl
        · rw [HR.out]; exact S.out
      | true =>
        rw [hi] at hI
        rw [if_neg (by rw [hi]; simp)] at hr
        clear hi
        have hrd := Lib.hid fun w H => class_read w b bb x.mem parent H hp0 hp1
        generalize Class.read x.mem parent = q at hrd hr
        obtain ⟨c, ok⟩ := q
        unfold readV Cls.val at hrd
        simp only at hrd hr
        have hN := Lib.hid fun w H => tab_copy w s b bb x c.table H
        generalize Tab.copy x c.table = q at hN hr
        obtain ⟨y, u, e⟩ := q
        simp only at hr
        unfold MkPost at hN
        simp only at hN
        have HR := Lib.hid hr
        clear hr
        go_wp2_with fail
        refine hI.out.mono ?_
        rintro e1 w1 ⟨rfl, k1⟩
        have S1 := Lib.hid (H.out.keeps k1 id id id)
        have c1 := k1.cell h0 id
        have KA := Lib.hid k1
        clear k1 h0
        go_wp2_with fail
        refine (hrd.out w1 S1.out.mem).mono ?_
        rintro e1 w2 ⟨rfl, k2⟩
        obtain ⟨sz, hsz⟩ : ∃ sz : Int, sz = c.size := ⟨_, rfl⟩
        have k3 := k2.trans (Keeps.alloc (fun _ => False) w2 (.cells #[.int .i64 c.at_, .int .i64 c.parent, .int .i64 c.size, .int .i64 c.table, .int .i64 c.prev] 114))
        have S2 := Lib.hid (S1.out.keeps k3 id id id)
        have KB := Lib.hid (KA.out.trans k3)
        clear k2 k3 c1
        go_wp2_with fail
        refine (hN.out _ S2.out).mono ?_
        rintro e1 w1 ⟨rfl, s1, k1⟩
        have S := Lib.hid s1
        have K := Lib.hid ((KB.out.mono (T := fun k => k = s ∨ k = bb) (fun _ _ => False.elim)).trans k1)
        clear s1 k1
        rw [← hsz] at HR
        have HZ := Lib.hid hsz
        clear hsz
        by_cases he : e = 0
        · have hr := HR.out
          rw [if_neg (by simpa using he)] at hr
          have he' : (e != 0) = false := by simp [he]
          clear HR
          have HR := Lib.hid hr
          clear hr he
          go_wp2_with fail
          rw [← HZ.out]
          refine (sp_here _ _ _ _ _ S.out).mono ?_
          rintro e1 w1 ⟨rfl, rfl⟩
          go_wp2_with fail
          refine wp_loop_rounds 6 ?_
          rw [rounds_succ]
          go_wp2_with fail
          have hc := sp_comma _ s b bb _ (357694784579) S.out
          have hr := HR.out
          rw [Class.make5.cells] at hr
          generalize Sp.comma _ (357694784579) = qq at hc hr
          obtain ⟨y, e⟩ := qq
          have HC := Lib.hid hc
          clear hc HR
          simp only at hr
          refine HC.out.mono ?_
          rintro e1 w1 ⟨rfl, s1, k1⟩
          have K1 := Lib.hid (K.out.trans k1)
          clear K
          have K := K1
          have S := Lib.hid s1
          clear s1 k1 K1 HC
          by_cases he : e = 0
          · rw [if_neg (by simpa using he)] at hr
            have he' : (e != 0) = false := by simp [he]
            have HR := Lib.hid hr
            clear hr he
            go_wp2_with fail
            rw [rounds_succ]
            go_wp2_with fail
            have hc := sp_comma _ s b bb _ (parent) S.out
            have hr := HR.out
            rw [Class.make5.cells] at hr
            generalize Sp.comma _ (parent) = qq at hc hr
            obtain ⟨y, e⟩ := qq
            have HC := Lib.hid hc
            clear hc HR
            simp only at hr
            refine HC.out.mono ?_
            rintro e1 w1 ⟨rfl, s1, k1⟩
            have K1 := Lib.hid (K.out.trans k1)
            clear K
            have K := K1
            have S := Lib.hid s1
            clear s1 k1 K1 HC
            by_cases he : e = 0
            · rw [if_neg (by simpa using he)] at hr
              have he' : (e != 0) = false := by simp [he]
              have HR := Lib.hid hr
              clear hr he
              go_wp2_with fail
              rw [rounds_succ]
              go_wp2_with fail
              have hc := sp_comma _ s b bb _ (sz) S.out
              have hr := HR.out
              rw [Class.make5.cells] at hr
              generalize Sp.comma _ (sz) = qq at hc hr
              obtain ⟨y, e⟩ := qq
              have HC := Lib.hid hc
              clear hc HR
              simp only at hr
              refine HC.out.mono ?_
              rintro e1 w1 ⟨rfl, s1, k1⟩
              have K1 := Lib.hid (K.out.trans k1)
              clear K
              have K := K1
              have S := Lib.hid s1
              clear s1 k1 K1 HC
              by_cases he : e = 0
              · rw [if_neg (by simpa using he)] at hr
                have he' : (e != 0) = false := by simp [he]
                have HR := Lib.hid hr
                clear hr he
                go_wp2_with fail
                rw [rounds_succ]
                go_wp2_with fail
                have hc := sp_comma _ s b bb _ (u) S.out
                have hr := HR.out
                rw [Class.make5.cells] at hr
                generalize Sp.comma _ (u) = qq at hc hr
                obtain ⟨y, e⟩ := qq
                have HC := Lib.hid hc
                clear hc HR
                simp only at hr
                refine HC.out.mono ?_
                rintro e1 w1 ⟨rfl, s1, k1⟩
                have K1 := Lib.hid (K.out.trans k1)
                clear K
                have K := K1
                have S := Lib.hid s1
                clear s1 k1 K1 HC
                by_cases he : e = 0
                · rw [if_neg (by simpa using he)] at hr
                  have he' : (e != 0) = false := by simp [he]
                  have HR := Lib.hid hr
                  clear hr he
                  go_wp2_with fail
                  rw [rounds_succ]
                  go_wp2_with fail
                  have hc := sp_comma _ s b bb _ (prev) S.out
                  have hr := HR.out
                  rw [Class.make5.cells] at hr
                  generalize Sp.comma _ (prev) = qq at hc hr
                  obtain ⟨y, e⟩ := qq
                  have HC := Lib.hid hc
                  clear hc HR
                  simp only at hr
                  refine HC.out.mono ?_
                  rintro e1 w1 ⟨rfl, s1, k1⟩
                  have K1 := Lib.hid (K.out.trans k1)
                  clear K
                  have K := K1
                  have S := Lib.hid s1
                  clear s1 k1 K1 HC
                  by_cases he : e = 0
                  · rw [if_neg (by simpa using he)] at hr
                    have he' : (e != 0) = false := by simp [he]
                    have HR := Lib.hid hr
                    clear hr he
                    go_wp2_with fail
                    rw [rounds_succ]
                    go_wp2_with fail
                    go_ret2
                    refine ⟨?_, ?_, K.out⟩
                    · rw [HR.out]; rfl
                    · rw [HR.out]; exact S.out
                  · rw [if_pos he] at hr
                    have he' : (e != 0) = true := by simp [he]
                    have HR := Lib.hid hr
                    clear hr he
                    go_wp2_with fail
                    go_ret2
                    refine ⟨?_, ?_, K.out⟩
                    · rw [HR.out]; rfl
                    · rw [HR.out]; exact S.out
                · rw [if_pos he] at hr
                  have he' : (e != 0) = true := by simp [he]
                  have HR := Lib.hid hr
                  clear hr he
                  go_wp2_with fail
                  go_ret2
                  refine ⟨?_, ?_, K.out⟩
                  · rw [HR.out]; rfl
                  · rw [HR.out]; exact S.out
              · rw [if_pos he] at hr
                have he' : (e != 0) = true := by simp [he]
                have HR := Lib.hid hr
                clear hr he
                go_wp2_with fail
                go_ret2
                refine ⟨?_, ?_, K.out⟩
                · rw [HR.out]; rfl
                · rw [HR.out]; exact S.out
            · rw [if_pos he] at hr
              have he' : (e != 0) = true := by simp [he]
              have HR := Lib.hid hr
              clear hr he
              go_wp2_with fail
              go_ret2
              refine ⟨?_, ?_, K.out⟩
              · rw [HR.out]; rfl
              · rw [HR.out]; exact S.out
          · rw [if_pos he] at hr
            have he' : (e != 0) = true := by simp [he]
            have HR := Lib.hid hr
            clear hr he
            go_wp2_with fail
            go_ret2
            refine ⟨?_, ?_, K.out⟩
            · rw [HR.out]; rfl
            · rw [HR.out]; exact S.out
        · have hr := HR.out
          rw [if_pos he] at hr
          have he' : (e != 0) = true := by simp [he]
          clear HR
          have HR := Lib.hid hr
          clear hr he
          go_wp2_with fail
          go_ret2
          refine ⟨?_, ?_, K.out⟩
          · rw [HR.out]; rfl
          · rw [HR.out]; exact S.out
  · have hr := HD.out
    rw [if_pos he0] at hr
    have he0' : (e0 != 0) = true := by simp [he0]
    have HR := Lib.hid hr
    clear hr he0 HD
    go_wp2_with fail
    go_ret2
    refine ⟨?_, ?_, Keeps.refl _ _⟩
    · rw [HR.out]; rfl
    · rw [HR.out]; exact H.out
end Go.Proofs.Shed
