/- Layer 12: Sels. Conditions: the memory lies in two blocks. -/
import Derived.Test.YthhfkhhhclmimaaWClassI
import Derived.Test.YthhfkhhhclmimaaPA
set_option linter.unusedVariables false
set_option linter.unusedSimpArgs false
set_option maxRecDepth 10000
set_option maxHeartbeats 2000000
namespace Go.Proofs.Shed
open Go Go.RowKit Go.Proofs.K

theorem infoInt : (Try.prog.info? 2).map (fun i => (i.zero, i.size, i.bytes)) = some (some (.int .i64 0), 1, 8) := by kernel_rfl
def intV (L : List Int) : List Value := L.map (.int .i64)
/-- A slice of numbers, of the call's own. -/
def OwnI (W w : World) (a : Option Addr) (c : Nat) (L : List Int) : Prop := Own w 2 1 a L.length c (intV L) ∧ ∀ g, blk a = some g → W.heap.size ≤ g
/-- A slice of numbers, as it came in. -/
def ArgI (w : World) (a : Option Addr) (L : List Int) : Prop := ∀ i (hi : i < L.length), ∃ g o, a = some ⟨g, o, none⟩ ∧ w.cell? ⟨g, o + i, none⟩ = some (.int .i64 L[i])
theorem OwnI.nil (W w : World) : OwnI W w none 0 [] := ⟨Own.nil _ _ _, by simp [blk]⟩
theorem OwnI.keeps {W w w' : World} {a : Option Addr} {c : Nat} {L : List Int} (h : OwnI W w a c L) {S : Nat → Prop} (k : Keeps S w w') (hs : ∀ g, blk a = some g → ¬ S g) : OwnI W w' a c L := ⟨h.1.keeps k hs, h.2⟩
theorem OwnI.more {W w w' : World} {a a' : Option Addr} {c c' : Nat} {L : List Int} (h : OwnI W w a c L) (x : Int) (o : Own w' 2 1 a' (L.length + 1) c' (intV L ++ [.int .i64 x])) (k : Nat) (l : blk a' = blk a ∨ blk a' = some k) (hk : W.heap.size ≤ k) : OwnI W w' a' c' (L ++ [x]) := by
  refine ⟨?_, ?_⟩
  · rw [List.length_append]
    have : intV (L ++ [x]) = intV L ++ [.int .i64 x] := by simp [intV]
    rw [this]
    exact o
  · intro g hg
    rcases l with e | e <;> rw [e] at hg
    · exact h.2 g hg
    · cases hg; exact hk
theorem OwnI.arg {W w : World} {a : Option Addr} {c : Nat} {L : List Int} (h : OwnI W w a c L) : ArgI w a L := by
  intro i hi
  rcases h.1.form with ⟨rfl, hn, rfl, hx⟩ | ⟨g, cur, rfl, hh, hnc, hcm, hcs, htk, hxl⟩
  · omega
  · refine ⟨g, 0, rfl, ?_⟩
    rw [Nat.zero_add]
    exact h.1.cell (by simp [intV, hi])
theorem ArgI.keeps {w w' : World} {a : Option Addr} {L : List Int} (h : ArgI w a L) {S : Nat → Prop} (k : Keeps S w w') (hs : ∀ g, blk a = some g → ¬ S g) : ArgI w' a L := by
  intro i hi
  obtain ⟨g, o, rfl, hc⟩ := h i hi
  exact ⟨g, o, rfl, k.cell hc (hs g rfl)⟩
theorem int_news (w : World) (x : Int) : ∀ j u, [Value.int .i64 x][j]? = some u → (w.alloc (.cells #[.int .i64 x] 2)).cell? ((⟨w.heap.size, 0, none⟩ : Addr).add j) = some u := by
  intro j u hu
  rw [Addr.add_lit, Nat.zero_add]
  refine cell_of (halloc_at _ _) ?_
  simpa using hu
theorem int_one (x : Int) : ∀ u ∈ [Value.int .i64 x], u.oneCell' = true := by
  intro u hu
  simp at hu
  subst hu
  rfl

def SelsPost (r : Option (List Int)) (w : World) (e : Ending) (w' : World) : Prop :=
  ∃ a n c ok, e = .returned (.tuple #[.slice a n c, .bool ok]) ∧ Keeps (fun _ => False) w w' ∧
    match r with
    | none => ok = false
    | some L => ok = true ∧ n = L.length ∧ OwnI w w' a c L

theorem iface_sels (w : World) (b bb : Nat) (m : Mem) (at_ : Int) (h : RMem w b bb m) :
    Calls Try.prog 33 #[.pointer (some ⟨b, 0, none⟩), .int .i64 at_] w (SelsPost (Iface.sels m at_) w) := by
  have H := Lib.hid h
  have HD : Hid (Iface.sels m at_ = if (m.cell at_).2 ≠ 0 ∨ (m.cell at_).1 < 0 ∨ 1024 < (m.cell at_).1 then none else Iface.selsN m at_ (m.cell at_).1.toNat 0) := rfl
  have hz : (m.cell at_).2 = 0 → 0 ≤ at_ ∧ at_ ≤ 4194304 := by
    have hle := h.le
    intro hz
    unfold Mem.cell at hz
    split at hz
    · rename_i h3
      rw [Mem.at_zero] at h3
      omega
    · rename_i h3; exact absurd hz h3
  clear h
  generalize Iface.sels m at_ = r at HD ⊢
  have hc := Lib.hid (mem_cell w b bb m at_ H.out)
  generalize m.cell at_ = q at HD hc hz
  obtain ⟨n, e⟩ := q
  simp only at HD hc hz
  have HZ := Lib.hid hz
  clear hz
  go_enter Try.func33, Try.ntmps33
  go_wp2_with fail
  refine hc.out.mono ?_
  rintro e1 w1 ⟨rfl, rfl⟩
  by_cases he : e = 0
  · have he' : (e != 0) = false := by simp [he]
    obtain ⟨z0, z1⟩ := HZ.out he
    by_cases h1 : n < 0
    · have hr := HD.out
      rw [if_pos (.inr (.inl h1))] at hr
      have HR := Lib.hid hr
      clear hr he
      go_wp2_with fail
      go_ret2
      exact ⟨_, _, _, _, rfl, Keeps.refl _ _, by rw [HR.out]⟩
    · by_cases h2 : 1024 < n
      · have hr := HD.out
        rw [if_pos (.inr (.inr h2))] at hr
        have HR := Lib.hid hr
        have h1' : 0 ≤ n := by omega
        clear hr he h1
        go_wp2_with fail
        go_ret2
        exact ⟨_, _, _, _, rfl, Keeps.refl _ _, by rw [HR.out]⟩
      · have hr := HD.out
        rw [if_neg (by rintro (h | h | h); exact h he; exact h1 h; exact h2 h)] at hr
        have HR := Lib.hid hr
        have h1' : 0 ≤ n := by omega
        have h2' : n ≤ 1024 := by omega
        clear hr he h1 h2 HD
        go_wp2_with fail
        go_loopw [8, 29] (fun ov iv wr => ∃ (L : List Int) (a : Option Addr) (c : Nat) (j : Nat), ov = .slice a L.length c ∧ iv = .int .i64 j ∧ L.length = j ∧ (j : Int) ≤ n ∧ OwnI w wr a c L ∧ Keeps (fun _ => False) w wr ∧
            (Iface.selsN m at_ (n.toNat - j) j).map (L ++ ·) = r)
          (fun _ iv _ => n.toNat - (intOf iv).toNat)
        case atStart => exact ⟨[], none, 0, 0, rfl, rfl, rfl, by omega, OwnI.nil _ _, Keeps.refl _ _, by rw [HR.out]; simp⟩
        case round =>
          obtain ⟨L, a, c, j, rfl, rfl, hLj, hj, ho, hk, hL⟩ := hrel
          have HO := Lib.hid ho
          have HK := Lib.hid hk
          have HL := Lib.hid hL
          have HLj := Lib.hid hLj
          clear ho hk hL
          by_cases hlt : (j : Int) < n
          · have hr := HL.out
            have e1 : n.toNat - j = (n.toNat - (j + 1)) + 1 := by omega
            rw [e1, Iface.selsN] at hr
            have hcc := Lib.hid (mem_cell wr b bb m (at_ + ((j : Int) + 1) * 8) (H.out.keeps HK.out id id))
            generalize m.cell (at_ + ((j : Int) + 1) * 8) = q at hcc hr
            obtain ⟨v, e2⟩ := q
            simp only at hcc hr
            clear e1
            by_cases he2 : e2 = 0
            · rw [if_neg (by simpa using he2)] at hr
              have he2' : (e2 != 0) = false := by simp [he2]
              have HR' := Lib.hid hr
              clear hr he2 hLj
              go_wp2_with fail
              refine hcc.out.mono ?_
              rintro e1 w1 ⟨rfl, rfl⟩
              have hLb : L.length ≤ 1024 := by rw [HLj.out]; omega
              go_wp2_with (first
                | (at_builtin; refine wpList_app rfl _ _ 46 rfl 2 _ 1 8 Try.underlying46 infoInt rfl (by decide) a L.length c (intV L) rfl (HO.out.1.keeps (Keeps.alloc (fun _ => False) _ _) (fun _ _ => id)) ⟨wr.heap.size, 0, none⟩ 1 1 [.int .i64 v] rfl rfl (int_news wr v) (int_one v) ?c3 ?c4 ?_))
              case c3 => unfold maxLen; omega
              case c4 => omega
              intro a' c' w3 o3 k3 l3
              have hwr : w.heap.size ≤ wr.heap.size := HK.out.size
              have ka := Keeps.alloc (fun _ => False) wr (.cells #[.int .i64 v] 2)
              have O3 := Lib.hid ((HO.out.keeps ka (fun _ _ => id)).more v o3 _ l3 (by omega))
              have K3 := Lib.hid ((HK.out.trans ka).trans' k3 (fun i hi e => absurd (HO.out.2 i e) (by omega)))
              clear ka o3 k3 l3
              go_wp2_with fail
              go_roundw
              case rel =>
                refine ⟨L ++ [v], a', c', j + 1, by rw [List.length_append]; rfl, by go_num, by rw [List.length_append, HLj.out]; rfl, by omega, O3.out, K3.out, ?_⟩
                rw [← HR'.out, Option.map_map]
                congr 1
                funext l
                simp
              case measure => simp [intOf]; omega
            · rw [if_pos he2] at hr
              have he2' : (e2 != 0) = true := by simp [he2]
              have HR' := Lib.hid hr
              clear hr he2 hLj
              go_wp2_with fail
              refine hcc.out.mono ?_
              rintro e1 w1 ⟨rfl, rfl⟩
              go_wp2_with fail
              go_ret2
              exact ⟨_, _, _, _, rfl, HK.out, by rw [← HR'.out]; rfl⟩
          · have hge : (j : Int) = n := by omega
            have hr := HL.out
            rw [show n.toNat - j = 0 by omega, Iface.selsN] at hr
            have HR' := Lib.hid hr
            clear hr hLj
            go_wp2_with fail
            go_ret2
            exact ⟨_, _, _, _, rfl, HK.out, by rw [← HR'.out, Option.map_some, List.append_nil]; exact ⟨rfl, rfl, HO.out⟩⟩
  · have hr := HD.out
    rw [if_pos (.inl he)] at hr
    have HR := Lib.hid hr
    have he' : (e != 0) = true := by simp [he]
    clear hr he
    go_wp2_with fail
    go_ret2
    exact ⟨_, _, _, _, rfl, Keeps.refl _ _, by rw [HR.out]⟩
end Go.Proofs.Shed
