/- Layer 1: bytes and texts. -/
import Derived.Test.YthhfkhhhclmimaaWMemB
set_option linter.unusedVariables false
set_option linter.unusedSimpArgs false
set_option maxRecDepth 10000
namespace Go.Proofs.Shed
open Go Go.RowKit Go.Proofs.K

theorem u8_of (n : Int) : (((u64 n) % 256 : Nat) : Int) = n % 256 := by unfold u64; omega
theorem mem_setByte (w : World) (b bb : Nat) (m : Mem) (a n : Int) (h : RMem w b bb m) :
    Calls Try.prog 112 #[.pointer (some ⟨b, 0, none⟩), .int .i64 a, .int .i64 n] w (SetPost b bb (m.setByte a n) w) := by
  have H := Lib.hid h
  have hle := h.le
  have h0 := h.cell
  have hf := fun i => free_of (i := i) h.rest
  have hby := fun i hi => h.byte (i := i) hi
  clear h
  have HD : Hid (m.setByte a n = if m.has a 1 then (m.put a.toNat 1 (u64 n), 0) else (m, -9)) := rfl
  have hc := fun w H => mem_has w b bb m a 1 H
  have HI := Lib.hid (m.has_iff a 1)
  generalize m.has a 1 = q at hc HI HD
  have HC := Lib.hid hc
  clear hc
  generalize m.setByte a n = r at HD ⊢
  cases q with
  | false =>
    have hr : r = (m, -9) := HD.out
    subst hr
    clear HD hby hf
    go_enter Try.func112, Try.ntmps112
    go_wp2_with fail
    refine (HC.out _ H.out).mono ?_
    rintro e w1 ⟨rfl, rfl⟩
    go_wp2_with fail
    go_ret
    exact ⟨rfl, H.out, Keeps.refl _ _⟩
  | true =>
    have ha := HI.out.1 rfl
    obtain ⟨k, rfl⟩ : ∃ k : Nat, a = k := ⟨a.toNat, by omega⟩
    have hr : r = (m.put k 1 (u64 n), 0) := HD.out
    subst hr
    have c1 := hby k (by omega)
    have f1 := hf k
    have b1 : (k : Int) < m.size := by omega
    have b2 : (0 : Int) ≤ k := by omega
    clear HD hby hf ha
    go_enter Try.func112, Try.ntmps112
    go_wp2_with fail
    refine (HC.out _ H.out).mono ?_
    rintro e w1 ⟨rfl, rfl⟩
    go_wp2_with fail
    go_ret
    refine ⟨rfl, ?_, Keeps.setCell _ _ _ (fun _ => rfl)⟩
    have h1 := H.out.put1 k (u64 n % 256) (Nat.mod_lt _ (by decide))
    rw [u8_of, show u64 n % 256 = u64 n % 2 ^ (8 * 1) from rfl, Mem.put_mod] at h1
    exact h1

theorem leN_shift (l : List UInt8) (i : Nat) (h : i < l.length) : (leN l >>> (8 * i)) % 256 = l[i].toNat := by
  have := bytesN_get l.length (leN l) i (by rw [bytesN_len]; exact h)
  rw [← this]
  congr 1
  have e := bytesN_leN l
  exact (List.getElem_of_eq e _)

/-- The bytes behind a text that was put. -/
theorem Mem.vals_text (m : Mem) (k : Nat) (s : List UInt8) (h : k + s.length ≤ m.size) :
    (m.vals.toList.take k ++ (s.map fun b => Value.int .u8 b.toNat) ++ m.vals.toList.drop (k + s.length)).toArray = (m.put k s.length (leN s)).vals := by
  apply Array.ext'
  apply List.ext_getElem?
  intro i
  have hv : ∀ (m : Mem) i, i < m.size → m.vals.toList[i]? = some (.int .u8 (m.byte i)) := fun m i hi => by rw [Array.getElem?_toList]; exact m.vals_get i hi
  have hn : ∀ (m : Mem) i, m.size ≤ i → m.vals.toList[i]? = none := fun m i hi => by rw [Array.getElem?_toList]; exact Array.getElem?_eq_none (by rw [Mem.vals_size]; exact hi)
  have hlen : m.vals.toList.length = m.size := by rw [Array.length_toList, Mem.vals_size]
  rw [List.getElem?_append, List.getElem?_append]
  simp only [List.length_append, List.length_take, List.length_map, hlen, Nat.min_eq_left (show k ≤ m.size by omega)]
  by_cases h1 : i < k
  · rw [if_pos (by omega), if_pos h1, List.getElem?_take_of_lt h1, hv _ _ (by omega), hv _ _ (by rw [Mem.put_size]; omega)]
    rw [Mem.byte, Mem.byte, Mem.get_put_apart _ _ _ _ _ _ (by omega)]
  · by_cases h2 : i < k + s.length
    · rw [if_pos h2, if_neg h1, List.getElem?_map, List.getElem?_eq_getElem (by omega), hv _ _ (by rw [Mem.put_size]; omega)]
      rw [Mem.byte, Mem.get_put_in _ _ _ _ _ _ (by omega) (by omega)]
      have := leN_shift s (i - k) (by omega)
      rw [show (2 : Nat) ^ (8 * 1) = 256 from rfl, this]
      rfl
    · rw [if_neg h2, List.getElem?_drop, show k + s.length + (i - (k + s.length)) = i by omega]
      by_cases h3 : i < m.size
      · rw [hv _ _ h3, hv _ _ (by rw [Mem.put_size]; exact h3)]
        rw [Mem.byte, Mem.byte, Mem.get_put_apart _ _ _ _ _ _ (by omega)]
      · rw [hn _ _ (by omega), hn _ _ (by rw [Mem.put_size]; omega)]

theorem mem_setText (w : World) (b bb : Nat) (m : Mem) (a : Int) (s : List UInt8) (h : RMem w b bb m) (hs : s.length ≤ 9223372036854775807) :
    Calls Try.prog 42 #[.pointer (some ⟨b, 0, none⟩), .int .i64 a, .string ⟨s.toArray⟩] w (SetPost b bb (m.setText a s) w) := by
  have H := Lib.hid h
  have hle := h.le
  have h0 := h.cell
  have hrest := h.rest
  clear h
  have HD : Hid (m.setText a s = if m.has a s.length then (m.put a.toNat s.length (leN s), 0) else (m, -9)) := rfl
  have hc := fun w H => mem_has w b bb m a s.length H
  have HI := Lib.hid (m.has_iff a s.length)
  generalize m.has a s.length = q at hc HI HD
  have HC := Lib.hid hc
  clear hc
  generalize m.setText a s = r at HD ⊢
  cases q with
  | false =>
    have hr : r = (m, -9) := HD.out
    subst hr
    clear HD
    go_enter Try.func42, Try.ntmps42
    go_wp2_with fail
    refine (HC.out _ H.out).mono ?_
    rintro e w1 ⟨rfl, rfl⟩
    go_wp2_with fail
    go_ret
    exact ⟨rfl, H.out, Keeps.refl _ _⟩
  | true =>
    have ha := HI.out.1 rfl
    obtain ⟨k, rfl⟩ : ∃ k : Nat, a = k := ⟨a.toNat, by omega⟩
    have hr : r = (m.put k s.length (leN s), 0) := HD.out
    subst hr
    have b1 : (k : Int) + s.length ≤ m.size := by omega
    have b2 : (0 : Int) ≤ k := by omega
    have b3 : k + s.length ≤ m.size := by omega
    clear HD ha
    go_enter Try.func42, Try.ntmps42
    go_wp2_with fail
    refine (HC.out _ H.out).mono ?_
    rintro e w1 ⟨rfl, rfl⟩
    by_cases hne : s = []
    · subst hne
      go_wp2_with fail
      go_ret
      refine ⟨rfl, ?_, Keeps.refl _ _⟩
      simp only [List.length_nil, Mem.put_zero]
      exact H.out
    · have hne' : s.isEmpty = false := by simpa using hne
      have hrun := run_copy_str (P := Try.prog) w 92 9 3 5 bb k (m.size - k) (m.size - k) ⟨s.toArray⟩ m.vals 5 Try.underlying92 (by kernel_rfl) hrest (by show s.length ≤ _; omega) (by show k + s.length ≤ _; rw [Mem.vals_size]; omega)
      have hk : ¬ m.size = k := by have := List.length_pos_iff.2 hne; omega
      have HV : Hid ((m.vals.toList.take k ++ ((s.map fun b => Value.int .u8 b.toNat) ++ m.vals.toList.drop (k + s.length))).toArray = (m.put k s.length (leN s)).vals) := by
        rw [← List.append_assoc]
        exact Mem.vals_text m k s b3
      go_wp2_with fail
      go_ret
      refine ⟨rfl, ⟨?_, ?_, H.out.ne, H.out.le⟩, ⟨rfl, rfl, rfl, by simp, fun j _ hj => setRow_other w bb j _ hj⟩⟩
      · exact (setRow_other w bb b _ H.out.ne).trans H.out.head
      · rw [← HV.out]
        exact setRow_heap w bb m.vals _ _ _ H.out.rest

theorem Mem.byte_in (m : Mem) (k l i : Nat) (h : i < l) : (m.get k l >>> (8 * i)) % 256 = m.byte (k + i) := by
  apply Nat.eq_of_testBit_eq
  intro j
  rw [show (256 : Nat) = 2 ^ (8 * 1) from rfl, Nat.testBit_mod_two_pow, Nat.testBit_shiftRight, Mem.get_bit, Mem.get_bit]
  by_cases hj : j < 8 * 1
  · have e1 : 8 * i + j < 8 * l := by omega
    have e2 : 8 * k + (8 * i + j) = 8 * (k + i) + j := by omega
    simp [hj, e1, e2]
  · simp [hj]
theorem str_text (m : Mem) (k l : Nat) : strOfNums ((List.range l).map fun i => (m.byte (k + i) : Int)) = ⟨(bytesN l (m.get k l)).toArray⟩ := by
  apply ByteArray.ext
  apply Array.ext'
  rw [strOfNums_data]
  apply List.ext_getElem
  · simp [bytesN_len]
  · intro i h1 h2
    have hi : i < l := by simpa using h1
    apply UInt8.toNat_inj.1
    have e := bytesN_get l (m.get k l) i (by simpa using h2)
    rw [Mem.byte_in m k l i hi] at e
    simp only [List.getElem_map, List.getElem_range]
    have hb := m.byte_lt (k + i)
    rw [show ((bytesN l (m.get k l)).toArray.toList)[i] = (bytesN l (m.get k l))[i]'(by simpa using h2) from rfl, e]
    simp
    omega
/-- What comes of a text that is read. -/
def strV (l : List UInt8) : Value := .string ⟨l.toArray⟩
theorem mem_text (w : World) (b bb : Nat) (m : Mem) (a n : Int) (h : RMem w b bb m) :
    Calls Try.prog 84 #[.pointer (some ⟨b, 0, none⟩), .int .i64 a, .int .i64 n] w fun e w' => e = .returned (.tuple #[strV (m.text a n).1, .int .i64 (m.text a n).2]) ∧ w = w' := by
  have H := Lib.hid h
  have hle := h.le
  have h0 := h.cell
  have hby := fun i hi => h.byte (i := i) hi
  clear h
  have HD : Hid (m.text a n = if m.has a n then (bytesN n.toNat (m.get a.toNat n.toNat), 0) else ([], -9)) := rfl
  have hc := fun w H => mem_has w b bb m a n H
  have HI := Lib.hid (m.has_iff a n)
  generalize m.has a n = q at hc HI HD
  have HC := Lib.hid hc
  clear hc
  generalize m.text a n = r at HD ⊢
  cases q with
  | false =>
    have hr : r = ([], -9) := HD.out
    subst hr
    clear HD hby
    go_enter Try.func84, Try.ntmps84
    go_wp2_with fail
    refine (HC.out _ H.out).mono ?_
    rintro e w1 ⟨rfl, rfl⟩
    go_wp2_with fail
    go_ret2
    exact ⟨rfl, rfl⟩
  | true =>
    have ha := HI.out.1 rfl
    obtain ⟨k, rfl⟩ : ∃ k : Nat, a = k := ⟨a.toNat, by omega⟩
    obtain ⟨l, rfl⟩ : ∃ l : Nat, n = l := ⟨n.toNat, by omega⟩
    have hr : r = (bytesN l (m.get k l), 0) := HD.out
    subst hr
    have b1 : (k : Int) + l ≤ m.size := by omega
    have b2 : (0 : Int) ≤ k := by omega
    have b3 : (0 : Int) ≤ l := by omega
    have hconv := run_convert_bytes_arg (P := Try.prog) w 92 5 Try.underlying92 Try.underlying5 bb k l (m.size - k) ((List.range l).map fun i => (m.byte (k + i) : Int)) (by simp) (fun i hi => by
      rw [hby (k + i) (by omega)]
      simp [List.getD_eq_getElem?_getD, hi]) 9 Try.underlying9
    clear HD ha hby
    go_enter Try.func84, Try.ntmps84
    go_wp2_with fail
    refine (HC.out _ H.out).mono ?_
    rintro e w1 ⟨rfl, rfl⟩
    by_cases hl0 : l = 0
    · subst hl0
      go_wp2_with fail
      go_ret2
      exact ⟨rfl, rfl⟩
    · have hl1 : ((l : Int) == 0) = false := by simp; omega
      have hk : ¬ m.size = k := by omega
      go_wp2_with fail
      go_ret2
      refine ⟨?_, rfl⟩
      show Ending.returned (.tuple #[.string _, .int .i64 0]) = _
      rw [str_text]
      rfl

theorem vals_zero (n : Nat) : madeCells #[.int .u8 0] (n * 1) = (Mem.zero n).vals := by
  unfold Mem.vals madeCells Mem.zero
  apply Array.ext'
  simp [Mem.get]
  intro a _
  rw [Nat.mod_one]
  rfl

/-- New: a memory of bytes 0, in two new blocks. -/
def NewPost (size : Int) (w : World) (e : Ending) (w' : World) : Prop :=
  if Mem.newCode size = 0 then ∃ b bb, e = .returned (.tuple #[.pointer (some ⟨b, 0, none⟩), .int .i64 0]) ∧ RMem w' b bb (Mem.zero size.toNat) ∧ w.heap.size ≤ b ∧ w.heap.size ≤ bb ∧ Keeps (fun _ => False) w w'
  else e = .returned (.tuple #[.pointer none, .int .i64 (-256)]) ∧ w = w'

theorem infoU8 : (Try.prog.info? 5).map (fun i => (i.zero, i.size, i.bytes)) = some (some (.int .u8 0), 1, 1) := by kernel_rfl

theorem mem_new (w : World) (size : Int) : Calls Try.prog 30 #[.int .i64 size] w (NewPost size w) := by
  by_cases hc : 0 ≤ size ∧ size ≤ 1048576 ∧ size % 8 = 0
  · have hn : NewPost size w = fun e w' => ∃ b bb, e = .returned (.tuple #[.pointer (some ⟨b, 0, none⟩), .int .i64 0]) ∧ RMem w' b bb (Mem.zero size.toNat) ∧ w.heap.size ≤ b ∧ w.heap.size ≤ bb ∧ Keeps (fun _ => False) w w' := by
      funext e w'
      unfold NewPost Mem.newCode
      rw [if_pos (by rw [if_pos hc])]
    rw [hn]
    obtain ⟨h0, h1, h2⟩ := hc
    obtain ⟨k, rfl⟩ : ∃ k : Nat, size = k := ⟨size.toNat, by omega⟩
    obtain ⟨i0, hi, hz0, hz1, hz2⟩ := info_parts infoU8
    have h3 : ((k : Int) % 8 != 0) = false := by simp; omega
    have hm := fun w => run_make (P := Try.prog) w 92 5 i0 (.int .u8 0) Try.underlying92 hi hz0 .i64 .i64 k k (by omega) (by omega) (by rw [hz2]; omega) (by omega)
    rw [hz1] at hm
    simp only [Int.toNat_natCast, Value.cells, vals_zero] at hm
    clear hn
    generalize hv : (Mem.zero k).vals = V at hm
    have HV := Lib.hid hv
    clear hv
    go_enter Try.func30, Try.ntmps30
    go_wp2_with fail
    go_ret2
    refine ⟨w.heap.size + 1, w.heap.size, by simp, ⟨?_, ?_, by omega, by show k ≤ _; omega⟩, by omega, by omega, (Keeps.alloc _ _ _).trans (Keeps.alloc _ _ _)⟩
    · have := halloc_at (w.alloc (.cells V 5)) (.cells #[.slice (some ⟨w.heap.size, 0, none⟩) k k] 127)
      rw [World.size_alloc] at this
      exact this
    · rw [show (Mem.zero (k : Int).toNat).vals = V from HV.out]
      exact (halloc_old _ _ (by simp)).trans (halloc_at w _)
  · have hn : NewPost size w = fun e w' => e = .returned (.tuple #[.pointer none, .int .i64 (-256)]) ∧ w = w' := by
      funext e w'
      unfold NewPost Mem.newCode
      rw [if_neg (by rw [if_neg hc]; decide)]
    rw [hn]
    have hc' : size < 0 ∨ (0 ≤ size ∧ 1048576 < size) ∨ (0 ≤ size ∧ size ≤ 1048576 ∧ (size % 8 != 0) = true) := by
      by_cases h1 : 0 ≤ size
      · by_cases h2 : size ≤ 1048576
        · exact .inr (.inr ⟨h1, h2, by simp; omega⟩)
        · exact .inr (.inl ⟨h1, by omega⟩)
      · exact .inl (by omega)
    clear hc hn
    rcases hc' with h | ⟨h1, h2⟩ | ⟨h1, h2, h3⟩
    all_goals
      go_enter Try.func30, Try.ntmps30
      go_wp2_with fail
      go_ret2
      exact ⟨rfl, rfl⟩
end Go.Proofs.Shed
