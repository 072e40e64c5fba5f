/- The reference's numbers as texts, at base 10. Condition: the numbers are of their kinds. Layer 22: a result as a text. Conditions: the library's tables hold what they hold at the start; the texts are not too long. -/
import Derived.Test.YthhfkhhhclmimaaGreatDoorMWSrc
import Derived.Test.YthhfkhhhclmimaaGreatDoorMPA
import Derived.Test.YthhfkhhhclmimaaGreatDoorMMB
import Derived.Test.YthhfkhhhclmimaaGreatDoorMKA
import Derived.Test.YthhfkhhhclmimaaGreatDoorMLShelf
import Derived.Laws.IdiomStrings
set_option linter.unusedVariables false
set_option linter.unusedSimpArgs false
set_option maxRecDepth 10000
set_option maxHeartbeats 4000000
namespace Go.Proofs.Shed
open Go Go.RowKit Go.Proofs.K
def figs36 : List UInt8 := [48, 49, 50, 51, 52, 53, 54, 55, 56, 57, 65, 66, 67, 68, 69, 70, 71, 72, 73, 74, 75, 76, 77, 78, 79, 80, 81, 82, 83, 84, 85, 86, 87, 88, 89, 90]
theorem fig10 (n : Nat) : (figs36.drop (n % 10)).take (n % 10 + 1 - n % 10) = [UInt8.ofNat (48 + n % 10)] := by
  have h : ∀ i : Fin 10, (figs36.drop i.1).take (i.1 + 1 - i.1) = [UInt8.ofNat (48 + i.1)] := by decide +kernel
  exact h ⟨n % 10, Nat.mod_lt _ (by decide)⟩
theorem str_app2 (a b : List UInt8) : Value.string ((⟨a.toArray⟩ : ByteArray) ++ ⟨b.toArray⟩) = .string ⟨(a ++ b).toArray⟩ := by
  congr 1
theorem ref_uns10 (n : Nat) (hn : n < 18446744073709551616) (w : World) : Calls Tryz.prog 99 #[.int .u64 (n : Int), .int .i64 10] w fun e w' => e = .returned (.string ⟨(Lib.decDigits n).toArray⟩) ∧ Keeps (fun _ => False) w w' := by
  induction n using Nat.strongRecOn generalizing w with
  | ind n ih =>
    obtain ⟨m, hm⟩ : ∃ m, m = n % 10 := ⟨_, rfl⟩
    obtain ⟨q, hq⟩ : ∃ q, q = n / 10 := ⟨_, rfl⟩
    have hF := fig10 n
    rw [← hm] at hF
    have hx := str_extract figs36 m (m + 1) (by omega)
    rw [hF] at hx
    unfold figs36 at hx
    have h0 : (0 : Int) ≤ (n : Int) := by omega
    have e1 : (n : Int) % 10 = (m : Int) := by omega
    have hm9 : m ≤ 9 := by omega
    by_cases h : n < 10
    · have HD := Lib.hid (show Lib.decDigits n = [UInt8.ofNat (48 + m)] by rw [Lib.decDigits, dif_pos h, show m = n by omega])
      generalize UInt8.ofNat (48 + m) = c at HD hx
      have d1 : decide (10 ≤ n) = false := decide_eq_false (by omega)
      clear hF ih hm hq
      go_enter Tryz.func99, Tryz.ntmps99
      go_wp2_with fail
      go_quiet (fail)
      go_wp2_with fail
      go_ret
      exact ⟨by rw [HD.out]; rfl, Keeps.drewN _ _ _⟩
    · have HI := Lib.hid (ih q (by omega) (by omega))
      have HD := Lib.hid (show Lib.decDigits n = Lib.decDigits q ++ [UInt8.ofNat (48 + m)] by rw [Lib.decDigits, dif_neg h, ← hm, ← hq])
      have d1 : decide (10 ≤ n) = true := decide_eq_true (by omega)
      have e2 : (n : Int) / 10 = (q : Int) := by omega
      rw [HD.out]
      generalize UInt8.ofNat (48 + m) = c at HD hx ⊢
      have ha := str_app2 (Lib.decDigits q) [c]
      have hl := Scr.dec_len q 19 (by omega)
      have hl1 : (Lib.decDigits q).length + 1 ≤ 65536 := by omega
      clear hF ih hm hq HD hl
      generalize Lib.decDigits q = D at HI ha hl1 ⊢
      go_enter Tryz.func99, Tryz.ntmps99
      go_wp2_with fail
      go_quiet (fail)
      go_wp2_with fail
      refine (HI.out _).mono ?_
      rintro e w1 ⟨rfl, k1⟩
      go_wp2_with fail
      go_ret
      exact ⟨rfl, (Keeps.drewN _ _ _).trans k1⟩
theorem ref_show10 (n : Int) (h0 : -9223372036854775808 ≤ n) (h1 : n ≤ 9223372036854775807) (w : World) : Calls Tryz.prog 70 #[.int .i64 n, .int .i64 10] w fun e w' => e = .returned (.string ⟨(Lib.itoa n).toArray⟩) ∧ Keeps (fun _ => False) w w' := by
  by_cases h : n < 0
  · have HD := Lib.hid (show Lib.itoa n = 45 :: Lib.decDigits n.natAbs by unfold Lib.itoa; rw [if_pos h])
    obtain ⟨m, hm⟩ : ∃ m, m = n.natAbs := ⟨_, rfl⟩
    rw [HD.out, ← hm]
    have HU := Lib.hid (ref_uns10 m (by omega))
    have ha := str_app2 [45] (Lib.decDigits m)
    have hl := Scr.dec_len m 19 (by omega)
    have hl1 : 1 + (Lib.decDigits m).length ≤ 65536 := by omega
    have hl2 : (Lib.decDigits m).length + 1 ≤ 65536 := by omega
    have hw : IntKind.u64.wrap (-(IntKind.u64.wrap n)) = (m : Int) := by
      show (-(n % 18446744073709551616)) % 18446744073709551616 = _
      omega
    have d1 : decide (n < 0) = true := decide_eq_true h
    generalize Lib.decDigits m = D at HU ha hl1 hl2 ⊢
    clear HD hm hl
    go_enter Tryz.func70, Tryz.ntmps70
    go_wp2_with fail
    refine (HU.out _).mono ?_
    rintro e w1 ⟨rfl, k1⟩
    go_wp2_with fail
    go_ret
    exact ⟨rfl, k1⟩
  · have HD := Lib.hid (show Lib.itoa n = Lib.decDigits n.toNat by unfold Lib.itoa; rw [if_neg h])
    obtain ⟨m, hm⟩ : ∃ m : Nat, n = m := ⟨n.toNat, by omega⟩
    subst hm
    rw [HD.out]
    have HU := Lib.hid (ref_uns10 m (by omega))
    have e1 : ((m : Int)).toNat = m := by omega
    have d1 : decide ((m : Int) < 0) = false := decide_eq_false h
    rw [e1]
    generalize Lib.decDigits m = D at HU ⊢
    clear HD e1
    go_enter Tryz.func70, Tryz.ntmps70
    go_wp2_with fail
    refine (HU.out _).mono ?_
    rintro e w1 ⟨rfl, k1⟩
    go_wp2_with fail
    go_ret
    exact ⟨rfl, k1⟩
end Go.Proofs.Shed
set_option linter.unusedVariables false
set_option linter.unusedSimpArgs false
set_option maxRecDepth 10000
set_option maxHeartbeats 4000000
namespace Go.Proofs.Shed
open Go Go.RowKit Go.Proofs.K

/-- The library's variables, as its start lays them. -/
structure Glob (w : World) : Prop where
  tab : ∃ t f, w.heap[0]? = some (.cells (Lib.pow10Tab.map fun z => Value.int .u64 z).toArray t f)
  most : ∃ m t f, w.heap[1]? = some (.cells #[.int .i64 m] t f)
  syn : ∃ a b t f, w.heap[2]? = some (.cells #[.iface a b] t f)
  rng : ∃ a b t f, w.heap[3]? = some (.cells #[.iface a b] t f)
theorem Glob.keeps {S : Nat → Prop} {w w' : World} (h : Glob w) (k : Keeps S w w') (hS : ∀ g, g < 4 → ¬ S g) : Glob w' := by
  obtain ⟨⟨t, f, h0⟩, ⟨m, t1, f1, h1⟩, ⟨a2, b2, t2, f2, h2⟩, ⟨a3, b3, t3, f3, h3⟩⟩ := h
  exact ⟨⟨t, f, k.heap h0 (hS 0 (by decide))⟩, ⟨m, t1, f1, k.heap h1 (hS 1 (by decide))⟩, ⟨a2, b2, t2, f2, k.heap h2 (hS 2 (by decide))⟩, ⟨a3, b3, t3, f3, k.heap h3 (hS 3 (by decide))⟩⟩
theorem Glob.lt {w : World} (h : Glob w) : 4 ≤ w.heap.size := by
  obtain ⟨a, b, t, f, h3⟩ := h.rng
  exact lt_of_heap h3
theorem Glob.keeps0 {w w' : World} (h : Glob w) (k : Keeps (fun _ => False) w w') : Glob w' := h.keeps k (fun _ _ => id)
theorem glob_named0 : Tryz.prog.globalNamed "internal/strconv.uint64pow10" = some 0 := by kernel_rfl
theorem Glob.tabIs {w : World} (h : Glob w) : Lib.TabIs Tryz.prog w "internal/strconv.uint64pow10" .u64 Lib.pow10Tab := by
  obtain ⟨t, f, h0⟩ := h.tab
  unfold Lib.TabIs World.var?
  rw [glob_named0]
  simp only [Option.bind_some, h0]
theorem keeps_grow (w : World) (os : Array Obj) : Keeps (fun _ => False) w (Go.Sort.grow w os) :=
  ⟨rfl, rfl, rfl, by show w.heap.size ≤ (w.heap ++ os).size; simp, fun k hk _ => by show (w.heap ++ os)[k]? = _; rw [Array.getElem?_append_left hk]⟩
theorem keeps_below {w w' : World} (h : Below w.heap.size w w') : Keeps (fun _ => False) w w' := ⟨h.os, h.tape, h.output, h.size, fun k hk _ => h.block k hk⟩
theorem str_format (n : Int) (h0 : -9223372036854775808 ≤ n) (h1 : n ≤ 9223372036854775807) (w : World) (h : Glob w) : Calls Tryz.prog 67 #[.int .i64 n, .int .i64 10] w fun e w' => e = .returned (.string ⟨(Lib.itoa n).toArray⟩) ∧ Keeps (fun _ => False) w w' :=
  (Tryz.strconv_FormatInt_10 n h0 h1 w h.tabIs).mono fun e w' ⟨he, k, os, hw⟩ => ⟨he, hw ▸ (Keeps.drewN _ _ _).trans (keeps_grow _ _)⟩
/-- A builder in block b, of blocks from B on. -/
abbrev Bld (B b : Nat) (l : List UInt8) (w : World) : Prop := Lib.IsBuilderF 145 5 B b (Lib.byteCells l) w
theorem Bld.at_keeps {B b : Nat} {p : Value} {bs : List Value} {w w' : World} (h : Lib.BuilderAtF 145 5 B b p bs w) (k : Keeps (fun _ => False) w w') : Lib.BuilderAtF 145 5 B b p bs w' := by
  obtain ⟨h1, v, h2, h3, h4⟩ := h
  refine ⟨h1, v, k.heap h2 id, ?_, h4⟩
  refine ⟨h3.1, ?_⟩
  rcases h3.2 with h | ⟨g, cap, cur, fz, hv, hB, hg, r⟩
  · exact .inl h
  · exact .inr ⟨g, cap, cur, fz, hv, hB, k.heap hg id, r⟩
theorem Bld.keeps {B b : Nat} {l : List UInt8} {w w' : World} (h : Bld B b l w) (k : Keeps (fun _ => False) w w') : Bld B b l w' := by
  rcases h with h | h
  · exact .inl (Bld.at_keeps h k)
  · exact .inr (Bld.at_keeps h k)
theorem Bld.made (w : World) : Bld w.heap.size w.heap.size [] (w.alloc (.cells #[.pointer none, .slice none 0 0] 145)) :=
  .inl ⟨Nat.le_refl _, .slice none 0 0, halloc_at _ _, ⟨rfl, .inl ⟨rfl, rfl⟩⟩, by simp [Value.ownBlock]⟩
/-- Blocks below B are kept. -/
theorem keeps_of_below {B : Nat} {w0 w w' : World} (k : Keeps (fun _ => False) w0 w) (hB : w0.heap.size ≤ B) (h : Below B w w') : Keeps (fun _ => False) w0 w' :=
  ⟨h.os.trans k.os, h.tape.trans k.tape, h.output.trans k.output, Nat.le_trans k.size h.size, fun i hi hs => (h.block i (by omega)).trans (k.block i hi hs)⟩
theorem bld_size : (Tryz.prog.info? 145).map (·.size) = some 2 := by kernel_rfl
theorem bld_lies : liesAt Tryz.prog Tryz.prog.depth 145 (2 / Tryz.prog.cellsOf 145) 0 145 1 = true := by kernel_rfl
theorem byte_info : (Tryz.prog.info? 5).map (fun i => (i.zero, i.size, i.bytes)) = some (some (.int .u8 0), 1, 1) := by kernel_rfl
set_option maxRecDepth 100000 in
theorem bld_check_used (b : Nat) (w : World) (h0 : w.cell? ⟨b, 0, none⟩ = some (.pointer (some ⟨b, 0, none⟩))) :
    Calls Tryz.prog 116 #[.pointer (some ⟨b, 0, none⟩)] w fun e w' => e = .returned (.tuple #[]) ∧ w' = w := by
  obtain ⟨j, hj, _⟩ := Option.map_eq_some_iff.1 bld_size
  go_enter Tryz.func116, Tryz.ntmps116
  go_wp2
  rw [Lib.run_neq_ptr_same w _ Tryz.underlying142 hj]
  go_wp2
  go_end0
  exact ⟨rfl, rfl⟩
set_option maxRecDepth 100000 in
theorem bld_check_fresh (b : Nat) (w : World) (h0 : w.cell? ⟨b, 0, none⟩ = some (.pointer none)) (hsh : w.shape? b = some (145, 2)) (hfz : w.frozen? ⟨b, 0, none⟩ = false) :
    Calls Tryz.prog 116 #[.pointer (some ⟨b, 0, none⟩)] w fun e w' => e = .returned (.tuple #[]) ∧ w' = w.setCell ⟨b, 0, none⟩ (.pointer (some ⟨b, 0, none⟩)) := by
  obtain ⟨j, hj, hjs⟩ := Option.map_eq_some_iff.1 bld_size
  go_enter Tryz.func116, Tryz.ntmps116
  go_wp2
  rw [Lib.run_to_unsafe w ⟨b, 0, none⟩ Tryz.underlying142 Tryz.underlying284 hj (by rw [hjs]; decide) hsh (Nat.zero_lt_succ 1)]
  simp only [Result.andThen]
  rw [Oper.upon_value]
  go_wp2
  rw [run_callFunc_extern (Tryz.func194) (by kernel_rfl) (by kernel_rfl) (by kernel_rfl) (e := Extern.AbiNoEscape.same) (by kernel_rfl)]
  rw [Lib.run_noEscape]
  simp only [Result.andThen]
  rw [Oper.upon_value]
  go_wp2
  rw [Lib.run_from_unsafe w ⟨b, 0, none⟩ Tryz.underlying284 Tryz.underlying142 hj hsh bld_lies]
  simp only [Result.andThen]
  rw [Oper.upon_value]
  go_wp2
  go_end0
  exact ⟨rfl, rfl⟩
theorem bld_check (B b : Nat) (l : List UInt8) (w : World) (h : Bld B b l w) :
    Calls Tryz.prog 116 #[.pointer (some ⟨b, 0, none⟩)] w fun e w' => e = .returned (.tuple #[]) ∧ Lib.BuilderAtF 145 5 B b (.pointer (some ⟨b, 0, none⟩)) (Lib.byteCells l) w' ∧ Below B w w' := by
  rcases h with h | h
  · refine (bld_check_fresh b w h.cell0 h.shape h.frozen0).mono ?_
    rintro e w' ⟨rfl, rfl⟩
    exact ⟨rfl, h.used _, (Below.refl B w).setCell (p := ⟨b, 0, none⟩) h.1 _⟩
  · refine (bld_check_used b w h.cell0).mono ?_
    rintro e w' ⟨rfl, rfl⟩
    exact ⟨rfl, h, Below.refl B _⟩
set_option maxRecDepth 100000 in
theorem bld_write (B b : Nat) (l s : List UInt8) (w : World) (h : Bld B b l w) (hl : l.length + s.length ≤ 1000000000) (hB : B ≤ w.heap.size) :
    Calls Tryz.prog 66 #[.pointer (some ⟨b, 0, none⟩), .string ⟨s.toArray⟩] w fun e w' => e = .returned (.tuple #[.int .i64 s.length, .nilIface]) ∧ Bld B b (l ++ s) w' ∧ Below B w w' := by
  obtain ⟨i0, hi, hz0, hz1, hz2⟩ := info_parts byte_info
  have e2 : Lib.byteCells (l ++ s) = Lib.byteCells l ++ Lib.strCells ⟨s.toArray⟩ := by simp [Lib.byteCells, Lib.strCells]
  have hls : (Lib.byteCells l).length = l.length := Lib.byteCells_length l
  have hss : (⟨s.toArray⟩ : ByteArray).size = s.length := by show s.toArray.size = _; simp
  have HC := Lib.hid (bld_check B b l w h)
  clear h
  unfold Bld
  rw [e2]
  generalize Lib.byteCells l = bs at HC hls ⊢
  go_enter Tryz.func66, Tryz.ntmps66
  go_wp2_with fail
  refine HC.out.mono ?_
  rintro e w1 ⟨rfl, h1, hb1⟩
  obtain ⟨hB1, v, hbk, hown, hne⟩ := h1
  have c0 : w1.cell? ⟨b, 0, none⟩ = some (.pointer (some ⟨b, 0, none⟩)) := by rw [Lib.cell_of_heap hbk]; rfl
  have c1 : w1.cell? ⟨b, 1, none⟩ = some v := by rw [Lib.cell_of_heap hbk]; rfl
  go_wp2_with (at_builtin; refine Lib.wpList_append_own_stringF _ rfl _ _ 143 9 rfl B 5 i0 Tryz.underlying143 Tryz.underlying9 hi hz0 hz1 hz2 _ _ _ rfl hown ⟨s.toArray⟩ rfl ?c3 ?c4 ?c5 ?_)
  case c3 => rw [hss]; unfold maxLen; omega
  case c4 => rw [hss]; omega
  case c5 => have := hb1.size; omega
  intro v' w2 hown' hgrow _
  have hlt : b < w1.heap.size := lt_of_heap hbk
  have hb2 : w2.heap[b]? = some (.cells #[.pointer (some ⟨b, 0, none⟩), v] 145 (0, 0)) := by
    rw [hgrow.block b hlt (fun e => hne e.symm)]
    exact hbk
  have d0 : w2.cell? ⟨b, 0, none⟩ = some (.pointer (some ⟨b, 0, none⟩)) := by rw [Lib.cell_of_heap hb2]; rfl
  have d1 : w2.cell? ⟨b, 1, none⟩ = some v := by rw [Lib.cell_of_heap hb2]; rfl
  have f1 : w2.frozen? ⟨b, 1, none⟩ = false := Lib.frozen_of_heap hb2 1
  obtain ⟨ao, n', cap, rfl⟩ : ∃ ao n' cap, v' = .slice ao n' cap := by
    rcases hown'.2 with ⟨hv, _⟩ | ⟨g, cap, cur, fz, hv, _⟩
    · exact ⟨_, _, _, hv⟩
    · exact ⟨_, _, _, hv⟩
  have HS := Lib.hid hss
  have HL := Lib.hid hls
  clear hss hls
  go_wp2
  go_ret2
  refine ⟨by simp [HS.out], .inr ?_, ?_⟩
  · exact Lib.BuilderAtF.put (T := 145) (e := 5) hB1 hb2 (bs' := bs ++ Lib.strCells ⟨s.toArray⟩) (by rw [List.length_append, Lib.strCells_length, HL.out, HS.out]; exact hown') (by decide)
  · exact (hb1.grown hgrow (by have := hb1.size; omega) (fun k hk => (hown.lt k hk).1)).setCell (p := ⟨b, 1, none⟩) hB1 _
theorem bld_string (B b : Nat) (l : List UInt8) (w : World) (h : Bld B b l w) (hB : B ≤ w.heap.size) :
    Calls Tryz.prog 69 #[.pointer (some ⟨b, 0, none⟩)] w fun e w' => e = .returned (.string ⟨l.toArray⟩) ∧ Below B w w' :=
  (Tryz.Builder_String_any_k B b l w h hB).mono fun e w' ⟨he, _, hw, _⟩ => ⟨he, hw⟩
end Go.Proofs.Shed
