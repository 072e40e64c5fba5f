/- Layer 11: slices.IndexFunc, ContainsFunc on classes; Is. Conditions: the slice owns its row; the closure's contract. -/
import Derived.Test.YthhfkhhhclmimaaWClassC
set_option linter.unusedVariables false
set_option linter.unusedSimpArgs false
set_option maxRecDepth 10000
set_option maxHeartbeats 1000000
namespace Go.Proofs.Shed
open Go Go.RowKit Go.Proofs.K

theorem OwnCls.get {W w : World} {a : Option Addr} {c : Nat} {L : List Cls} (h : OwnCls W w a c L) {k : Nat} (hk : k < L.length) :
    ∃ g, a = some ⟨g, 0, none⟩ ∧ L.length ≤ c ∧ ∀ f, f < 5 → w.cell? ⟨g, k * 5 + f, none⟩ = some (.int .i64 (L[k].fld f)) := by
  rcases h.1.form with ⟨rfl, hn, rfl, hx⟩ | ⟨g, cur, rfl, hh, hnc, hcm, hcs, htk, hxl⟩
  · omega
  · exact ⟨g, rfl, hnc, fun f hf => h.1.cell (clsV_get L k f hk hf)⟩

theorem idx_func (W w : World) (a : Option Addr) (c : Nat) (L : List Cls) (k : Nat) (cap : Array Value) (p : Cls → Bool) (h : OwnCls W w a c L) (hb : L.length ≤ 10000000)
    (hen : ∀ (args : Array Value) (w : World), (callFunc k args).run Try.prog w = .ok (.enter k args) w)
    (hf : ∀ w', Keeps (fun _ => False) w w' → ∀ x ∈ L, Calls Try.prog k (#[x.val] ++ cap) w' fun e w'' => e = .returned (.bool (p x)) ∧ Keeps (fun _ => False) w' w'') :
    Calls Try.prog 92 #[.slice a L.length c, .func (.func k) #[] cap] w fun e w' => (∃ i, e = .returned (.int .i64 i) ∧ decide (0 ≤ i) = L.any p) ∧ Keeps (fun _ => False) w w' := by
  have HO := Lib.hid h
  have HF := Lib.hid hf
  clear h hf
  go_enter Try.func92, Try.ntmps92
  go_wp2_with fail
  go_loopw [8] (fun iv wr => ∃ (j : Nat), iv = .int .i64 j ∧ j ≤ L.length ∧ (∀ (i : Nat) (hi : i < L.length), i < j → p L[i] = false) ∧ Keeps (fun _ => False) w wr)
      (fun iv _ => L.length - (intOf iv).toNat)
  case atStart => exact ⟨0, rfl, by omega, fun i hi h => by omega, Keeps.refl _ _⟩
  case round =>
    obtain ⟨j, rfl, hj, hp, hk⟩ := hrel
    have HP := Lib.hid hp
    have HK := Lib.hid hk
    clear hp hk
    by_cases hlt : j < L.length
    · have hO := HO.out.keeps HK.out (fun _ _ => id)
      obtain ⟨g, rfl, hnc, F⟩ := hO.get hlt
      have F0 := F 0 (by omega)
      have F1 := F 1 (by omega)
      have F2 := F 2 (by omega)
      have F3 := F 3 (by omega)
      have F4 := F 4 (by omega)
      have hcl := HF.out wr HK.out L[j] (List.getElem_mem hlt)
      obtain ⟨r, hr⟩ : ∃ r, p L[j] = r := ⟨_, rfl⟩
      rw [hr] at hcl
      have hpj' := Lib.hid hr
      clear hr
      generalize L[j] = x at F0 F1 F2 F3 F4 hcl
      unfold Cls.val at hcl
      simp only [Cls.fld, Nat.add_zero] at F0 F1 F2 F3 F4
      have HC := Lib.hid hcl
      clear hcl F hO
      go_wp2_with fail
      refine HC.out.mono ?_
      rintro e w2 ⟨rfl, k2⟩
      have K2 := Lib.hid (HK.out.trans k2)
      clear k2
      cases r with
      | true =>
        go_wp2_with fail
        go_ret
        refine ⟨⟨j, rfl, ?_⟩, K2.out⟩
        have : L.any p = true := List.any_eq_true.2 ⟨L[j], List.getElem_mem hlt, hpj'.out⟩
        rw [this]
        simp
      | false =>
        go_wp2_with fail
        go_roundw
        case rel =>
          refine ⟨j + 1, by go_num, by omega, fun i hi hij => ?_, K2.out⟩
          by_cases e : i = j
          · subst e; exact hpj'.out
          · exact HP.out i hi (by omega)
        case measure => simp [intOf]; omega
    · have hge : j = L.length := by omega
      subst hge
      have hall : L.any p = false := by
        rw [List.any_eq_false]
        intro x hx
        obtain ⟨i, hi, rfl⟩ := List.getElem_of_mem hx
        rw [HP.out i hi hi]
        simp
      have HA := Lib.hid hall
      clear hall
      go_wp2_with fail
      go_ret
      exact ⟨⟨-1, rfl, by rw [HA.out]; rfl⟩, HK.out⟩

theorem cont_func (W w : World) (a : Option Addr) (c : Nat) (L : List Cls) (k : Nat) (cap : Array Value) (p : Cls → Bool) (h : OwnCls W w a c L) (hb : L.length ≤ 10000000)
    (hen : ∀ (args : Array Value) (w : World), (callFunc k args).run Try.prog w = .ok (.enter k args) w)
    (hf : ∀ w', Keeps (fun _ => False) w w' → ∀ x ∈ L, Calls Try.prog k (#[x.val] ++ cap) w' fun e w'' => e = .returned (.bool (p x)) ∧ Keeps (fun _ => False) w' w'') :
    Calls Try.prog 56 #[.slice a L.length c, .func (.func k) #[] cap] w fun e w' => e = .returned (.bool (L.any p)) ∧ Keeps (fun _ => False) w w' := by
  have HI := Lib.hid (idx_func W w a c L k cap p h hb hen hf)
  clear h hen hf
  generalize L.any p = r at HI ⊢
  go_enter Try.func56, Try.ntmps56
  go_wp2_with fail
  refine HI.out.mono ?_
  rintro e w1 ⟨⟨i, rfl, hi⟩, k1⟩
  have K1 := Lib.hid k1
  have HD := Lib.hid hi
  clear k1 hi
  go_wp2_with fail
  go_ret
  exact ⟨by rw [← HD.out]; rfl, K1.out⟩

theorem app1 (x y : Value) : (#[x] ++ #[y] : Array Value) = #[x, y] := rfl
theorem app2 (x y z : Value) : (#[x] ++ #[y, z] : Array Value) = #[x, y, z] := rfl

theorem class_is1 (w : World) (x : Cls) (a : Int) (x0 : Nat) (c0 : w.cell? ⟨x0, 0, none⟩ = some (.int .i64 a)) :
    Calls Try.prog 89 #[x.val, .pointer (some ⟨x0, 0, none⟩)] w fun e w' => e = .returned (.bool (decide (x.at_ = a))) ∧ Keeps (fun _ => False) w w' := by
  unfold Cls.val
  have hb := World.block_lt_of_cell? _ _ c0
  go_enter Try.func89, Try.ntmps89
  go_wp2_with fail
  go_ret
  exact ⟨rfl, Keeps.alloc _ _ _⟩

theorem class_is (w : World) (b bb : Nat) (m : Mem) (root a : Int) (h : RMem w b bb m) :
    Calls Try.prog 52 #[.pointer (some ⟨b, 0, none⟩), .int .i64 root, .int .i64 a] w fun e w' => e = .returned (.bool (Class.is m root a)) ∧ Keeps (fun _ => False) w w' := by
  have hmf : ∀ (fn : Fn) (first cap : Array Value) (w : World), (Instr.makeFunc fn first cap).run Try.prog w = .ok (.func fn first cap) w := fun _ _ _ _ => rfl
  have hA := Lib.hid (class_all (w.alloc (.cells #[.int .i64 a] 2)) b bb m root (h.allocd _))
  have hlen := Class.all_len m root
  have hle := h.le
  have HD : Hid (Class.is m root a = (Class.all m root).any fun c => decide (c.at_ = a)) := rfl
  generalize Class.is m root a = r at HD ⊢
  generalize Class.all m root = L at hA HD hlen
  have c0 := World.cell?_alloc_new w #[.int .i64 a] 2 0
  have C0 := Lib.hid c0
  clear h c0
  go_enter Try.func52, Try.ntmps52
  go_wp2_with fail
  refine hA.out.mono ?_
  rintro e w1 ⟨s, c, rfl, ho, hk⟩
  have HC := Lib.hid (cont_func w w1 s c L 89 #[.pointer (some ⟨w.heap.size, 0, none⟩)] (fun c => decide (c.at_ = a)) ⟨ho.1, fun g hg => Nat.le_trans (by simp) (ho.2 g hg)⟩ (by omega) Try.call89 (fun w' k' x _ => by
    rw [app1]
    exact class_is1 w' x a w.heap.size ((hk.trans k').cell C0.out id)))
  have HK := Lib.hid ((Keeps.alloc (fun _ => False) w (.cells #[.int .i64 a] 2)).trans hk)
  clear ho hk
  go_wp2_with fail
  refine HC.out.mono ?_
  rintro e w2 ⟨rfl, k2⟩
  have K2 := Lib.hid (HK.out.trans k2)
  clear k2
  go_wp2_with fail
  go_ret
  exact ⟨by rw [HD.out]; rfl, K2.out⟩
end Go.Proofs.Shed
