/- Layer 22: numbers, Show. Conditions: the library's tables hold what they hold at the start; the texts are not too long. Layer 22: Show. Conditions: the library's tables hold what they hold at the start; the texts are not too long. Layer 22: the reference's Show. Conditions: the texts are not too long. -/
import Derived.Test.YthhfkhhhclmimaaGreatDoorMSA
import Derived.Test.YthhfkhhhclmimaaGreatDoorMWCC
import Derived.Test.YthhfkhhhclmimaaGreatDoorMOF
set_option linter.unusedVariables false
set_option linter.unusedSimpArgs false
set_option maxRecDepth 10000
set_option maxHeartbeats 4000000
namespace Go.Proofs.Shed
open Go Go.RowKit Go.Proofs.K
def I64 (n : Int) : Prop := -9223372036854775808 ≤ n ∧ n ≤ 9223372036854775807
theorem numbers_take {l : List Int} {i : Nat} (h : i < l.length) : Scr.numbers (l.take (i + 1)) = Scr.numbers (l.take i) ++ 32 :: Lib.itoa l[i] := by
  rw [show l.take (i + 1) = l.take i ++ [l[i]] from by simp, Scr.numbers_snoc]
theorem scr_numbers (w : World) (a : Option Addr) (c : Nat) (l : List Int) (hg : Glob w) (ha : ArgI w a l) (hl : l.length ≤ 200) (hb : ∀ n ∈ l, I64 n) :
    Calls Tryz.prog 68 #[.slice a l.length c] w fun e w' => e = .returned (.string ⟨(Scr.numbers l).toArray⟩) ∧ Keeps (fun _ => False) w w' := by
  have hB := Bld.made w
  have ka := Keeps.alloc (fun _ => False) w (.cells #[.pointer none, .slice none 0 0] 145)
  have HB0 := Lib.hid hB
  have HK0 := Lib.hid ka
  have HG := Lib.hid hg
  have HA := Lib.hid ha
  have HL := Lib.hid hb
  obtain ⟨b, hbw⟩ : ∃ b, b = w.heap.size := ⟨_, rfl⟩
  have HBW := Lib.hid hbw
  clear hg ha hb hB ka
  go_enter Tryz.func68, Tryz.ntmps68
  go_wp2_with fail
  have HB := HB0.out
  rw [← hbw] at HB ⊢
  replace HB := Lib.hid HB
  obtain ⟨V, hV⟩ : ∃ V, V = w.alloc (.cells #[.pointer none, .slice none 0 0] 145) := ⟨_, rfl⟩
  have HK := HK0.out
  have HB := HB.out
  rw [← hV] at HK HB ⊢
  replace HK := Lib.hid HK
  replace HB := Lib.hid HB
  clear hV hbw HB0 HK0
  go_wp2_with fail
  go_loopw [8] (fun iv wr => ∃ i : Nat, iv = .int .i64 i ∧ i ≤ l.length ∧ Bld b b (Scr.numbers (l.take i)) wr ∧ Keeps (fun _ => False) w wr) (fun iv _ => l.length - (intOf iv).toNat)
  case atStart => exact ⟨0, rfl, Nat.zero_le _, HB.out, HK.out⟩
  case round =>
    obtain ⟨i, rfl, hi, hb, hk⟩ := hrel
    have HB1 := Lib.hid hb
    have HK1 := Lib.hid hk
    clear hb hk
    by_cases hlt : i < l.length
    · obtain ⟨g, o, ea, hc⟩ := HA.out i hlt
      have hc1 := HK1.out.cell hc id
      have hin := HL.out l[i] (List.getElem_mem hlt)
      have HT := Lib.hid (numbers_take hlt)
      have HN := Lib.hid (Scr.numbers_len (l.take i) (fun n hn => HL.out n (List.mem_of_mem_take hn)))
      have HI := Lib.hid (Scr.itoa_len l[i] hin.1 hin.2)
      have HF := Lib.hid (str_format l[i] hin.1 hin.2 wr (HG.out.keeps0 HK1.out))
      subst ea
      generalize l[i] = n at hc1 HT HI HF
      clear hc
      go_wp2_with fail
      refine HF.out.mono ?_
      rintro e w2 ⟨rfl, k2⟩
      have HK2 := Lib.hid (HK1.out.trans k2)
      have ha := str_app [32] (Lib.itoa n)
      have hl1 : 1 + (Lib.itoa n).length ≤ 65536 := by have := HI.out; omega
      have hl2 : (Lib.itoa n).length + 1 ≤ 65536 := by have := HI.out; omega
      have HW := Lib.hid (bld_write b b _ ([32] ++ Lib.itoa n) w2 (Bld.keeps HB1.out k2) (by
        have h1 := HN.out
        have h2 := HI.out
        have h3 : (l.take i).length ≤ l.length := by simp; omega
        simp only [List.length_append, List.length_cons, List.length_nil]
        omega) (by have := HBW.out; have := HK2.out.size; omega))
      have HAP := Lib.hid (show Scr.numbers (l.take (i + 1)) = Scr.numbers (l.take i) ++ ([32] ++ Lib.itoa n) from HT.out)
      generalize Lib.itoa n = t at ha hl1 hl2 HW HAP ⊢
      clear k2 HF HI HT
      go_wp2_with fail
      refine HW.out.mono ?_
      rintro e w3 ⟨rfl, b3, k3⟩
      have HB3 := Lib.hid b3
      have HK3 := Lib.hid (keeps_of_below HK2.out (Nat.le_of_eq HBW.out.symm) k3)
      clear b3 k3 HW
      go_wp2_with fail
      go_roundw
      case rel => exact ⟨i + 1, by go_num, hlt, by rw [HAP.out]; exact HB3.out, HK3.out⟩
      case measure => simp [intOf]; omega
    · have he : i = l.length := by omega
      subst he
      have HS := Lib.hid (bld_string b b _ wr HB1.out (by have := HBW.out; have := HK1.out.size; omega))
      have ht : l.take l.length = l := List.take_length
      rw [ht] at HS
      clear ht
      go_wp2_with fail
      refine HS.out.mono ?_
      rintro e w2 ⟨rfl, k2⟩
      have HK2 := Lib.hid (keeps_of_below HK1.out (Nat.le_of_eq HBW.out.symm) k2)
      clear k2
      go_wp2_with fail
      go_ret
      exact ⟨rfl, HK2.out⟩
end Go.Proofs.Shed
set_option linter.unusedVariables false
set_option linter.unusedSimpArgs false
set_option maxRecDepth 10000
set_option maxHeartbeats 4000000
namespace Go.Proofs.Shed
open Go Go.RowKit Go.Proofs.K
theorem str_len (a b : List UInt8) (n : Nat) (h : a.length + b.length ≤ n) : (a ++ b).length ≤ n := by rw [List.length_append]; exact h
theorem scr_show (w : World) (code left here : Int) (out inp : List UInt8) (sa : Option Addr) (sc : Nat) (l : List Int) (over : Bool) (hg : Glob w) (ha : ArgI w sa l) (hl : l.length ≤ 200) (hb : ∀ n ∈ l, I64 n) (hc : I64 code) (hlf : I64 left) (ho : out.length ≤ 70000) :
    Calls Tryz.prog 11 #[resV code out sa l.length sc left inp here over] w fun e w' => e = .returned (.string ⟨(Scr.show_ code l left out).toArray⟩) ∧ Keeps (fun _ => False) w w' := by
  have lA := Scr.itoa_len code hc.1 hc.2
  have lL := Scr.itoa_len left hlf.1 hlf.2
  have lN := Scr.numbers_len l hb
  obtain ⟨W1, hW1⟩ : ∃ W1, W1 = w.alloc (.cells #[.int .i64 code, .string ⟨out.toArray⟩, .slice sa l.length sc, .int .i64 left, .string ⟨inp.toArray⟩, .int .i64 here, .bool over] 27) := ⟨_, rfl⟩
  have k1 : Keeps (fun _ => False) w W1 := by rw [hW1]; exact Keeps.alloc _ _ _
  have z1 : W1.heap[w.heap.size]? = some (.cells #[.int .i64 code, .string ⟨out.toArray⟩, .slice sa l.length sc, .int .i64 left, .string ⟨inp.toArray⟩, .int .i64 here, .bool over] 27 (0, 0)) := by rw [hW1]; exact halloc_at _ _
  obtain ⟨W2, hW2⟩ : ∃ W2, W2 = W1.alloc (.cells #[.pointer none, .slice none 0 0] 145) := ⟨_, rfl⟩
  have k2 : Keeps (fun _ => False) W1 W2 := by rw [hW2]; exact Keeps.alloc _ _ _
  have hB : Bld W1.heap.size W1.heap.size [] W2 := by rw [hW2]; exact Bld.made W1
  obtain ⟨g, hgw⟩ : ∃ g, g = w.heap.size := ⟨_, rfl⟩
  obtain ⟨b, hbw⟩ : ∃ b, b = W1.heap.size := ⟨_, rfl⟩
  rw [← hgw] at z1
  rw [← hbw] at hB
  have hz := k2.heap z1 id
  have c0 : W2.cell? ⟨g, 0, none⟩ = some (.int .i64 code) := cell_of hz rfl
  have c1 : W2.cell? ⟨g, 1, none⟩ = some (.string ⟨out.toArray⟩) := cell_of hz rfl
  have c2 : W2.cell? ⟨g, 2, none⟩ = some (.slice sa l.length sc) := cell_of hz rfl
  have c3 : W2.cell? ⟨g, 3, none⟩ = some (.int .i64 left) := cell_of hz rfl
  have HB := Lib.hid hB
  have K12 := Lib.hid (k1.trans k2)
  have HBW := Lib.hid (show b = W1.heap.size ∧ w.heap.size ≤ b ∧ b ≤ W2.heap.size from ⟨hbw, by rw [hbw]; exact k1.size, by rw [hbw]; exact k2.size⟩)
  have F1 := Lib.hid fun V (k : Keeps (fun _ => False) w V) => str_format code hc.1 hc.2 V (hg.keeps0 k)
  have F2 := Lib.hid fun V (k : Keeps (fun _ => False) w V) => scr_numbers V sa sc l (hg.keeps0 k) (ha.keeps k (fun _ _ => id)) hl hb
  have F3 := Lib.hid fun V (k : Keeps (fun _ => False) w V) => str_format left hlf.1 hlf.2 V (hg.keeps0 k)
  have HB1 := Lib.hid (show b = g + 1 by rw [hbw, hW1, World.size_alloc, hgw])
  have HW1 := Lib.hid hW1.symm
  have HW2 := Lib.hid hW2.symm
  have HG := Lib.hid hgw
  clear hg ha hb hB hW1 hW2 hbw k1 k2 z1 hz hc hlf
  have HSH := Lib.hid (show Scr.show_ code l left out = [99, 111, 100, 101, 32] ++ Lib.itoa code ++ [10, 115, 116, 97, 99, 107] ++ Scr.numbers l ++ [10, 108, 101, 102, 116, 32] ++ Lib.itoa left ++ [10, 111, 117, 116, 10] ++ out from rfl)
  generalize Scr.show_ code l left out = SH at HSH ⊢
  generalize Lib.itoa code = A at F1 HSH lA
  generalize Lib.itoa left = L at F3 HSH lL
  generalize Scr.numbers l = N at F2 HSH lN
  have lO := ho
  clear ho
  have l1 : 5 + A.length ≤ 1000000 := by omega
  have l0 : A.length + 5 ≤ 1000000 := by omega
  have l2 : 5 + A.length + 6 ≤ 1000000 := by omega
  have l3 : 5 + A.length + 6 + N.length ≤ 1000000 := by omega
  have l4 : 5 + A.length + 6 + N.length + 6 ≤ 1000000 := by omega
  have l5 : 5 + A.length + 6 + N.length + 6 + L.length ≤ 1000000 := by omega
  have l6 : 5 + A.length + 6 + N.length + 6 + L.length + 5 ≤ 1000000 := by omega
  have l7 : 5 + A.length + 6 + N.length + 6 + L.length + 5 + out.length ≤ 1000000 := by omega
  have n1 : ¬ 9223372036854775807 < 5 + A.length := by omega
  have n2 : ¬ 9223372036854775807 < 5 + A.length + 6 := by omega
  have n3 : ¬ 9223372036854775807 < 5 + A.length + 6 + N.length := by omega
  have n4 : ¬ 9223372036854775807 < 5 + A.length + 6 + N.length + 6 := by omega
  have n5 : ¬ 9223372036854775807 < 5 + A.length + 6 + N.length + 6 + L.length := by omega
  have n6 : ¬ 9223372036854775807 < 5 + A.length + 6 + N.length + 6 + L.length + 5 := by omega
  have n7 : ¬ 9223372036854775807 < 5 + A.length + 6 + N.length + 6 + L.length + 5 + out.length := by omega
  have HSL := Lib.hid (show SH.length ≤ 100000 from by rw [HSH.out]; simp only [List.length_append, List.length_cons, List.length_nil]; omega)
  have HWR := Lib.hid fun V (h : Bld b b [] V) (hb : b ≤ V.heap.size) (s : ByteArray) (hs : s = ⟨SH.toArray⟩) => (show Calls Tryz.prog 66 #[.pointer (some ⟨b, 0, none⟩), .string s] V _ from hs ▸ bld_write b b [] SH V h (by have := HSL.out; simp; omega) hb)
  have HST := Lib.hid fun V (h : Bld b b SH V) (hb : b ≤ V.heap.size) => bld_string b b SH V h hb
  clear lA lL lN lO hgw
  unfold resV
  go_enter Tryz.func11, Tryz.ntmps11
  go_upto_region 2 with fail
  rw [← HG.out, HW1.out, ← HB1.out, HW2.out]
  go_wp2_with fail
  go_region_held3 (fun w' => w'.cell? ⟨g, 0, none⟩ = some (.int .i64 code) ∧ w'.cell? ⟨g, 1, none⟩ = some (.string ⟨out.toArray⟩) ∧ w'.cell? ⟨g, 2, none⟩ = some (.slice sa l.length sc) ∧ w'.cell? ⟨g, 3, none⟩ = some (.int .i64 left))
    (first | go_keep)
    (first
      | (go_at_call 68; refine (F2.out _ (K12.out.trans p1)).mono ?_; rintro e w5 ⟨rfl, k5⟩; dsimp only
         have p2 := p1.trans k5
         have u0 := p2.cell c0 id
         have u1 := p2.cell c1 id
         have u2 := p2.cell c2 id
         have u3 := p2.cell c3 id)
      | (go_at_call 67; refine (F1.out W2.drew (K12.out.trans (Keeps.drew _ _))).mono ?_; rintro e w4 ⟨rfl, k4⟩; dsimp only
         have p1 := (Keeps.drew (fun _ => False) W2).trans k4
         have v0 := p1.cell c0 id
         have v1 := p1.cell c1 id
         have v2 := p1.cell c2 id
         have v3 := p1.cell c3 id)
      | (go_at_call 67; refine (F3.out _ (K12.out.trans p2)).mono ?_; rintro e w6 ⟨rfl, k6⟩; dsimp only
         have p3 := p2.trans k6
         have y0 := p3.cell c0 id
         have y1 := p3.cell c1 id
         have y2 := p3.cell c2 id
         have y3 := p3.cell c3 id)
      | (go_at_call 66; refine (HWR.out _ (HB.out.keeps p3) (Nat.le_trans HBW.out.2.2 p3.size) _ (by rw [HSH.out]; rfl)).mono ?_; rintro e w7 ⟨rfl, b7, k7⟩; dsimp only
         have hgb : g < b := by have := HB1.out; omega
         have t0 := (k7.cell (p := ⟨g, 0, none⟩) hgb).trans y0
         have t1 := (k7.cell (p := ⟨g, 1, none⟩) hgb).trans y1
         have t2 := (k7.cell (p := ⟨g, 2, none⟩) hgb).trans y2
         have t3 := (k7.cell (p := ⟨g, 3, none⟩) hgb).trans y3))
  all_goals
    have HB7 := Lib.hid b7
    have HK7 := Lib.hid (keeps_of_below (K12.out.trans p3) HBW.out.2.1 k7)
    have HZ7 := Lib.hid (Nat.le_trans (Nat.le_trans HBW.out.2.2 p3.size) k7.size)
    clear b7 k7 t0 t1 t2 t3 y0 y1 y2 y3 u0 u1 u2 u3 v0 v1 v2 v3 c0 c1 c2 c3 l1 l2 l3 l4 l5 l6 l7
    go_wp2_with fail
    refine (HST.out _ HB7.out HZ7.out).mono ?_
    rintro e w8 ⟨rfl, k8⟩
    have HK8 := Lib.hid (keeps_of_below HK7.out HBW.out.2.1 k8)
    clear k8
    go_wp2_with fail
    go_ret
    exact ⟨rfl, HK8.out⟩
end Go.Proofs.Shed
set_option linter.unusedVariables false
set_option linter.unusedSimpArgs false
set_option maxRecDepth 10000
set_option maxHeartbeats 4000000
namespace Go.Proofs.Shed
open Go Go.RowKit Go.Proofs.K
theorem ref_show (w : World) (code left : Int) (out : List UInt8) (sa : Option Addr) (sc : Nat) (l : List Int) (ha : ArgI w sa l) (hl : l.length ≤ 200) (hb : ∀ n ∈ l, I64 n) (hc : I64 code) (hlf : I64 left) (ho : out.length ≤ 70000) :
    Calls Tryz.prog 12 #[.int .i64 code, .slice sa l.length sc, .int .i64 left, .string ⟨out.toArray⟩] w fun e w' => e = .returned (.string ⟨(Scr.show_ code l left out).toArray⟩) ∧ Keeps (fun _ => False) w w' := by
  have lA := Scr.itoa_len code hc.1 hc.2
  have lL := Scr.itoa_len left hlf.1 hlf.2
  have lN := Scr.numbers_len l hb
  have F1 := Lib.hid fun V => ref_show10 code hc.1 hc.2 V
  have F3 := Lib.hid fun V => ref_show10 left hlf.1 hlf.2 V
  have HA := Lib.hid ha
  have HB := Lib.hid hb
  have HSH := Lib.hid (show Scr.show_ code l left out = [99, 111, 100, 101, 32] ++ Lib.itoa code ++ [10, 115, 116, 97, 99, 107] ++ Scr.numbers l ++ [10, 108, 101, 102, 116, 32] ++ Lib.itoa left ++ [10, 111, 117, 116, 10] ++ out from rfl)
  generalize Scr.show_ code l left out = SH at HSH ⊢
  generalize Lib.itoa code = A at F1 HSH lA
  generalize Lib.itoa left = L at F3 HSH lL
  have l1 : 5 + A.length ≤ 1000000 := by omega
  have l2 : 5 + A.length + 6 ≤ 1000000 := by omega
  have l0 : A.length + 5 ≤ 1000000 := by omega
  have l3 : A.length + 5 + 6 ≤ 1000000 := by omega
  clear ha hb hc hlf
  go_enter Tryz.func12, Tryz.ntmps12
  go_wp2_with fail
  refine (F1.out _).mono ?_
  rintro e w1 ⟨rfl, k1⟩
  have K1 := Lib.hid k1
  clear k1
  go_wp2_with fail
  go_loopw [9, 10] (fun sv iv wr => ∃ (i : Nat) (x : List UInt8), iv = .int .i64 i ∧ i ≤ l.length ∧ sv = .string ⟨x.toArray⟩ ∧ x = [99, 111, 100, 101, 32] ++ A ++ [10, 115, 116, 97, 99, 107] ++ Scr.numbers (l.take i) ∧ Keeps (fun _ => False) w wr) (fun _ iv _ => l.length - (intOf iv).toNat)
  case atStart => exact ⟨0, [99, 111, 100, 101, 32] ++ A ++ [10, 115, 116, 97, 99, 107], rfl, Nat.zero_le _, rfl, by simp [Scr.numbers], K1.out⟩
  case round =>
    obtain ⟨i, x, rfl, hi, rfl, hx, hk⟩ := hrel
    have HX := Lib.hid hx
    have HK := Lib.hid hk
    have HN := Lib.hid (Scr.numbers_len (l.take i) (fun n hn => HB.out n (List.mem_of_mem_take hn)))
    have hxl : x.length ≤ 100000 := by
      have h1 := HN.out
      have h3 : (l.take i).length ≤ l.length := by simp; omega
      rw [hx]
      simp only [List.length_append, List.length_cons, List.length_nil]
      omega
    clear hx hk
    by_cases hlt : i < l.length
    · obtain ⟨g, o, ea, hc⟩ := HA.out i hlt
      have hc1 := HK.out.cell hc id
      have hin := HB.out l[i] (List.getElem_mem hlt)
      have HT := Lib.hid (numbers_take hlt)
      have HI := Lib.hid (Scr.itoa_len l[i] hin.1 hin.2)
      have HF := Lib.hid fun V => ref_show10 l[i] hin.1 hin.2 V
      subst ea
      generalize l[i] = n at hc1 HT HI HF
      generalize Lib.itoa n = t at HT HI HF
      have ht := HI.out
      clear hc
      have l5 : x.length + 1 + t.length ≤ 1000000 := by omega
      have l6 : x.length + 1 ≤ 1000000 := by omega
      have hi0 : (0 : Int) ≤ (i : Int) := by omega
      go_wp2_with fail
      refine (HF.out _).mono ?_
      rintro e w2 ⟨rfl, k2⟩
      have K2 := Lib.hid (HK.out.trans k2)
      clear k2
      go_wp2_with fail
      go_roundw
      case rel =>
        refine ⟨i + 1, x ++ [32] ++ t, by go_num, hlt, rfl, ?_, K2.out⟩
        have h1 := HT.out
        rw [h1, HX.out]
        simp
      case measure => simp [intOf]; omega
    · have he : i = l.length := by omega
      subst he
      have HXF := Lib.hid (show SH = x ++ [10, 108, 101, 102, 116, 32] ++ L ++ [10, 111, 117, 116, 10] ++ out from by
        have h1 := HX.out
        rw [List.take_length] at h1
        rw [HSH.out, h1])
      have l5 : x.length + 6 ≤ 1000000 := by omega
      have l6 : x.length + 6 + L.length ≤ 1000000 := by omega
      have l7 : x.length + 6 + L.length + 5 ≤ 1000000 := by omega
      have l8 : x.length + 6 + L.length + 5 + out.length ≤ 1000000 := by omega
      have HLL := Lib.hid lL
      clear lL
      go_wp2_with fail
      refine (F3.out _).mono ?_
      rintro e w2 ⟨rfl, k2⟩
      have K2 := Lib.hid (HK.out.trans k2)
      clear k2
      go_wp2_with fail
      go_ret
      exact ⟨by rw [HXF.out]; rfl, K2.out⟩
end Go.Proofs.Shed
