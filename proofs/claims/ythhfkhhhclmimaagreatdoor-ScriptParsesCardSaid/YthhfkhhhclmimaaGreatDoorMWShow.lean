/- ScriptShows, walked. Condition: the library's variables hold what they hold at the start. -/
import Derived.Test.YthhfkhhhclmimaaGreatDoorMWPlay
import Derived.Test.YthhfkhhhclmimaaGreatDoorMSB
set_option linter.unusedVariables false
set_option linter.unusedSimpArgs false
set_option maxRecDepth 10000
set_option maxHeartbeats 4000000
namespace Go.Proofs.Shed
open Go Go.RowKit Go.Proofs.K
theorem wrap_I64 (n : Int) : I64 (wrap64 n) := by unfold I64 wrap64; omega
theorem shows_great (w : World) (code : Int) (a : Option Addr) (n c : Nat) (out : List UInt8) (hg : Glob w) (h : 100 < n ∨ 1000 < out.length) (hn : n ≤ 9223372036854775807) (ho : out.length ≤ 9223372036854775807) :
    Calls Tryz.prog 3 #[.int .i64 code, .slice a n c, .string ⟨out.toArray⟩] w fun e w' => e = .returned (.bool true) ∧ Keeps (fun _ => False) w w' := by
  have HL := Lib.hid (law_lives w hg)
  have HL2 := Lib.hid fun V (h : Glob V) => law_lives V h
  have HG := Lib.hid hg
  clear hg
  by_cases h1 : 100 < n
  · have d1 : decide ((100 : Int) < (n : Int)) = true := decide_eq_true (by omega)
    clear h h1
    go_enter Tryz.func3, Tryz.ntmps3
    go_wp2_with fail
    refine HL.out.mono ?_
    rintro e w1 ⟨rfl, k1⟩
    have K1 := Lib.hid k1
    clear k1
    go_wp2_with fail
    refine (HL2.out _ (HG.out.keeps0 K1.out)).mono ?_
    rintro e w2 ⟨rfl, k2⟩
    have K2 := Lib.hid (K1.out.trans k2)
    clear k2
    go_wp2_with fail
    go_ret
    exact ⟨rfl, K2.out⟩
  · have h2 : 1000 < out.length := by omega
    have d1 : decide ((100 : Int) < (n : Int)) = false := decide_eq_false (by omega)
    have d2 : decide ((1000 : Int) < (out.length : Int)) = true := decide_eq_true (by omega)
    clear h h1 h2
    go_enter Tryz.func3, Tryz.ntmps3
    go_wp2_with fail
    refine HL.out.mono ?_
    rintro e w1 ⟨rfl, k1⟩
    have K1 := Lib.hid k1
    clear k1
    go_wp2_with fail
    refine (HL2.out _ (HG.out.keeps0 K1.out)).mono ?_
    rintro e w2 ⟨rfl, k2⟩
    have K2 := Lib.hid (K1.out.trans k2)
    clear k2
    go_wp2_with fail
    go_ret
    exact ⟨rfl, K2.out⟩
theorem shows_small (w : World) (code : Int) (a : Option Addr) (c : Nat) (l : List Int) (out : List UInt8) (hg : Glob w) (ha : ArgI w a l) (hb : ∀ n ∈ l, I64 n) (hc : I64 code) (hl : l.length ≤ 100) (ho : out.length ≤ 1000) :
    Calls Tryz.prog 3 #[.int .i64 code, .slice a l.length c, .string ⟨out.toArray⟩] w fun e w' => e = .returned (.bool true) ∧ Keeps (fun _ => False) w w' := by
  have HL := Lib.hid (law_lives w hg)
  obtain ⟨lf, hlf⟩ : ∃ lf, lf = wrap64 ((out.length : Int) * code) := ⟨_, rfl⟩
  have hI : I64 lf := hlf ▸ wrap_I64 _
  have H1 := Lib.hid fun V (k : Keeps (fun _ => False) w V) => scr_show V code lf 8 out [120] a c l false (hg.keeps0 k) (ha.keeps k (fun _ _ => id)) (by omega) hb hc hI (by omega)
  have H2 := Lib.hid fun V (k : Keeps (fun _ => False) w V) => ref_show V code lf out a c l (ha.keeps k (fun _ _ => id)) (by omega) hb hc hI (by omega)
  generalize Scr.show_ code l lf out = S at H1 H2
  have d1 : decide ((100 : Int) < (l.length : Int)) = false := decide_eq_false (by omega)
  have d2 : decide ((1000 : Int) < (out.length : Int)) = false := decide_eq_false (by omega)
  have HLF := Lib.hid hlf.symm
  unfold resV at H1
  clear hg ha hb hI hlf
  go_enter Tryz.func3, Tryz.ntmps3
  go_wp2_with fail
  refine HL.out.mono ?_
  rintro e w1 ⟨rfl, k1⟩
  have K1 := Lib.hid k1
  clear k1
  go_wp2_with fail
  rw [HLF.out]
  refine (H1.out _ K1.out).mono ?_
  rintro e w2 ⟨rfl, k2⟩
  have K2 := Lib.hid (K1.out.trans k2)
  clear k2
  go_wp2_with fail
  refine (H2.out _ K2.out).mono ?_
  rintro e w3 ⟨rfl, k3⟩
  have K3 := Lib.hid (K2.out.trans k3)
  clear k3
  go_wp2_with fail
  go_ret
  exact ⟨rfl, K3.out⟩
theorem shows_walk (w : World) (code : Int) (a : Option Addr) (c : Nat) (l : List Int) (out : List UInt8) (hg : Glob w) (ha : ArgI w a l) (hb : ∀ n ∈ l, I64 n) (hc : I64 code) (hn : l.length ≤ 9223372036854775807) (ho : out.length ≤ 9223372036854775807) :
    Calls Tryz.prog 3 #[.int .i64 code, .slice a l.length c, .string ⟨out.toArray⟩] w fun e w' => e = .returned (.bool true) ∧ Keeps (fun _ => False) w w' := by
  by_cases h : 100 < l.length ∨ 1000 < out.length
  · exact shows_great w code a _ c out hg h hn ho
  · exact shows_small w code a c l out hg ha hb hc (by omega) (by omega)
end Go.Proofs.Shed
