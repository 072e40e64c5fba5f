/- Layer 11: All. Conditions: the memory lies in two blocks. -/
import Derived.Test.YthhfkhhhclmimaaWClassB
set_option linter.unusedVariables false
set_option linter.unusedSimpArgs false
set_option maxRecDepth 10000
set_option maxHeartbeats 1000000
namespace Go.Proofs.Shed
open Go Go.RowKit Go.Proofs.K

theorem infoCls : (Try.prog.info? 114).map (fun i => (i.zero, i.size, i.bytes)) = some (some (.agg #[.int .i64 0, .int .i64 0, .int .i64 0, .int .i64 0, .int .i64 0]), 5, 40) := by kernel_rfl

/-- A slice of classes, of the call's own. -/
def OwnCls (W w : World) (a : Option Addr) (c : Nat) (L : List Cls) : Prop := Own w 114 5 a L.length c (clsV L) ∧ ∀ g, blk a = some g → W.heap.size ≤ g
def ClsPost (L : List Cls) (w : World) (e : Ending) (w' : World) : Prop :=
  ∃ a c, e = .returned (.slice a L.length c) ∧ OwnCls w w' a c L ∧ Keeps (fun _ => False) w w'

theorem OwnCls.keeps {W w w' : World} {a : Option Addr} {c : Nat} {L : List Cls} (h : OwnCls W w a c L) {S : Nat → Prop} (k : Keeps S w w') (hs : ∀ g, blk a = some g → ¬ S g) : OwnCls W w' a c L := ⟨h.1.keeps k hs, h.2⟩
theorem OwnCls.alloc {W w : World} {a : Option Addr} {c : Nat} {L : List Cls} (h : OwnCls W w a c L) (o : Obj) : OwnCls W (w.alloc o) a c L := h.keeps (Keeps.alloc (fun _ => False) _ _) (fun _ _ => id)
/-- One more, appended. -/
theorem OwnCls.more {W w w' : World} {a a' : Option Addr} {c c' : Nat} {L : List Cls} (h : OwnCls W w a c L) (x : Cls) (o : Own w' 114 5 a' (L.length + 1) c' (clsV L ++ x.cells)) (k : Nat) (l : blk a' = blk a ∨ blk a' = some k) (hk : W.heap.size ≤ k) : OwnCls W w' a' c' (L ++ [x]) := by
  refine ⟨?_, ?_⟩
  · rw [clsV_app, List.length_append]
    have : clsV [x] = x.cells := by simp [clsV]
    rw [this]
    exact o
  · intro g hg
    rcases l with e | e <;> rw [e] at hg
    · exact h.2 g hg
    · cases hg; exact hk

theorem cls_news (w : World) (x : Cls) : ∀ j u, x.cells[j]? = some u → (w.alloc (.cells #[.int .i64 x.at_, .int .i64 x.parent, .int .i64 x.size, .int .i64 x.table, .int .i64 x.prev] 114)).cell? ((⟨w.heap.size, 0, none⟩ : Addr).add j) = some u := by
  intro j u hu
  rw [Addr.add_lit, Nat.zero_add]
  refine cell_of (halloc_at _ _) ?_
  simpa [Cls.cells] using hu
theorem cls_one (x : Cls) : ∀ u ∈ x.cells, u.oneCell' = true := by
  intro u hu
  simp [Cls.cells] at hu
  rcases hu with rfl | rfl | rfl | rfl | rfl <;> rfl

theorem mid_all (L : List Cls) (p : Nat) (hp : p < L.length) : mid L (L.length / 2) p = L.reverse[p]'(by simpa using hp) := by
  rw [List.getElem_reverse]
  unfold mid
  split
  · rw [List.getD_eq_getElem?_getD, List.getElem?_eq_getElem (by omega)]; rfl
  · have e : p = L.length - 1 - p := by omega
    rw [List.getD_eq_getElem?_getD, List.getElem?_eq_getElem hp, Option.getD_some]
    congr 1

theorem rev_cls (W w : World) (a : Option Addr) (c : Nat) (L : List Cls) (h : OwnCls W w a c L) (hne : L = [] → a = none) (hb : L.length ≤ 10000000) :
    Calls Try.prog 109 #[.slice a L.length c] w fun e w' => e = .returned (.tuple #[]) ∧ OwnCls W w' a c L.reverse ∧ Keeps (fun k => blk a = some k) w w' := by
  rcases h.1.form with ⟨rfl, hn, rfl, hx⟩ | ⟨g, cur, rfl, hh, hnc, hcm, hcs, htk, hxl⟩
  · obtain rfl : L = [] := List.eq_nil_of_length_eq_zero hn
    refine (rev_nil w).mono ?_
    rintro e w1 ⟨rfl, rfl⟩
    exact ⟨rfl, h, Keeps.refl _ _⟩
  · have h1 : 1 ≤ L.length := by
      cases L with
      | nil => cases hne rfl
      | cons _ _ => simp
    refine (rev_some w g L.length c cur L hh hcs hnc rfl hb h1 fun i hi f hf => ?_).mono ?_
    · rw [← Array.getElem?_toList]
      have := clsV_get L i f hi hf
      rw [← htk, List.getElem?_take_of_lt (by omega)] at this
      exact this
    · rintro e w1 ⟨rfl, ⟨cur', q1, q2, q3⟩, k⟩
      refine ⟨rfl, ⟨⟨by rw [clsV_len], .inr ⟨g, c, cur', by simp, by simp, q1, by simpa using hnc, hcm, q2, ?_⟩⟩, h.2⟩, k.mono fun k _ hk => by rw [hk]; rfl⟩
      have := clsV_of (L := L.reverse) (cur := cur'.toList) fun i hi f hf => ?_
      · exact this
      · rw [List.length_reverse] at hi
        rw [Array.getElem?_toList, q3 i hi f hf, mid_all L i hi]

theorem class_all (w : World) (b bb : Nat) (m : Mem) (root : Int) (h : RMem w b bb m) :
    Calls Try.prog 88 #[.pointer (some ⟨b, 0, none⟩), .int .i64 root] w (ClsPost (Class.all m root) w) := by
  have H := Lib.hid h
  have hle := h.le
  have hlen := Class.all_len m root
  clear h
  have HD : Hid (Class.all m root = if (m.cell root).2 = 0 then (Class.walk m (m.cell root).1 m.size).reverse else []) := rfl
  generalize Class.all m root = r at HD hlen ⊢
  have hc := Lib.hid fun w H => mem_cell w b bb m root H
  have hcb := m.cell_bd root
  generalize m.cell root = q at hc HD hcb
  obtain ⟨a0, e0⟩ := q
  simp only at HD hcb hc
  go_enter Try.func88, Try.ntmps88
  go_wp2_with fail
  refine (hc.out _ H.out).mono ?_
  rintro e w1 ⟨rfl, rfl⟩
  go_wp2_with fail
  refine (mem_size _ _ _ _ H.out).mono ?_
  rintro e w1 ⟨rfl, rfl⟩
  by_cases he : e0 = 0
  · have hr := HD.out
    rw [if_pos he] at hr
    have he' : (e0 == 0) = true := by simp [he]
    have HR := Lib.hid hr
    clear HD hr he
    go_wp2_with fail
    go_loopw [5, 6, 8] (fun ov av lv wr => ∃ (L : List Cls) (a : Option Addr) (c : Nat) (at_ last : Int), ov = .slice a L.length c ∧ av = .int .i64 at_ ∧ lv = .int .i64 last ∧ OwnCls w wr a c L ∧ RMem wr b bb m ∧ Keeps (fun _ => False) w wr ∧
        L ++ Class.walk m at_ last = Class.walk m a0 m.size ∧ (-9223372036854775808 ≤ at_ ∧ at_ ≤ 9223372036854775807) ∧ (L = [] → a = none))
      (fun _ _ lv _ => (intOf lv).toNat)
    case atStart => exact ⟨[], none, 0, a0, m.size, rfl, rfl, rfl, ⟨Own.nil _ _ _, by simp [blk]⟩, H.out, Keeps.refl _ _, rfl, hcb, fun _ => rfl⟩
    case round =>
      obtain ⟨L, a, c, at_, last, rfl, rfl, rfl, ho, hm, hk, hL, ⟨hb0, hb1⟩, hne⟩ := hrel
      have HO := Lib.hid ho
      have HM := Lib.hid hm
      have HK := Lib.hid hk
      have hLlen : L.length ≤ m.size := by
        have h1 := Class.walk_len m a0 m.size
        rw [← hL, List.length_append] at h1
        omega
      have HL := Lib.hid hL
      clear ho hm hk hL
      by_cases hlt : 0 < at_ ∧ at_ < last
      · obtain ⟨g1, g2⟩ := hlt
        have hrd := Lib.hid (class_read wr b bb m at_ HM.out hb0 hb1)
        have hst := Class.walk_step m at_ last ⟨g1, g2⟩
        have hbad := Class.walk_bad m at_ last
        have hpb : -9223372036854775808 ≤ (Class.read m at_).1.prev ∧ (Class.read m at_).1.prev ≤ 9223372036854775807 := by
          unfold Class.read
          split
          · simp
          · exact m.cell_bd _
        generalize Class.read m at_ = x at hrd hst hbad hpb
        obtain ⟨x, ok⟩ := x
        simp only at hst hbad hpb
        have HS := Lib.hid hst
        have HB := Lib.hid hbad
        clear hst hbad
        go_wp2_with fail
        refine hrd.out.mono ?_
        rintro e w2 ⟨rfl, k2⟩
        unfold readV Cls.val
        have O2 := Lib.hid ((HO.out.keeps k2 (fun _ _ => id)).alloc (.cells #[.int .i64 x.at_, .int .i64 x.parent, .int .i64 x.size, .int .i64 x.table, .int .i64 x.prev] 114))
        have M2 := Lib.hid ((HM.out.keeps k2 id id).allocd (.cells #[.int .i64 x.at_, .int .i64 x.parent, .int .i64 x.size, .int .i64 x.table, .int .i64 x.prev] 114))
        have K2 := Lib.hid ((HK.out.trans k2).trans (Keeps.alloc (fun _ => False) _ (.cells #[.int .i64 x.at_, .int .i64 x.parent, .int .i64 x.size, .int .i64 x.table, .int .i64 x.prev] 114)))
        have hlt : ∀ g, blk a = some g → g < w2.heap.size := fun g hg => (HO.out.keeps k2 (fun _ _ => id)).1.lt hg
        have hge : w.heap.size ≤ w2.heap.size := (HK.out.trans k2).size
        clear k2 HO HM HK
        cases ok with
        | false =>
          go_wp2_with fail
          refine (rev_cls _ _ a c L O2.out hne (by omega)).mono ?_
          rintro e w3 ⟨rfl, o3, k3⟩
          go_wp2_with fail
          go_ret
          have hw : L = Class.walk m a0 m.size := by
            have := HL.out
            rw [HB.out trivial, List.append_nil] at this
            exact this
          refine ⟨a, c, ?_, ?_, ?_⟩
          · rw [HR.out, ← hw, List.length_reverse]; rfl
          · rw [HR.out, ← hw]; exact o3
          · exact K2.out.trans' k3 (fun i hi e => absurd (o3.2 i e) (by omega))
        | true =>
          go_wp2_with (first
            | (at_builtin; refine wpList_app rfl _ _ 110 rfl 114 _ 5 40 Try.underlying110 infoCls rfl (by decide) a L.length c (clsV L) rfl (O2.out.alloc _).1 ⟨w2.heap.size + 1, 0, none⟩ 1 1 x.cells rfl rfl ?c1 (cls_one x) ?c3 ?c4 ?_))
          case c1 =>
            have := cls_news (w2.alloc (.cells #[.int .i64 x.at_, .int .i64 x.parent, .int .i64 x.size, .int .i64 x.table, .int .i64 x.prev] 114)) x
            rw [World.size_alloc] at this
            exact this
          case c3 => unfold maxLen; omega
          case c4 => omega
          intro a' c' w3 o3 k3 l3
          have A0 : ((w2.alloc (.cells #[.int .i64 x.at_, .int .i64 x.parent, .int .i64 x.size, .int .i64 x.table, .int .i64 x.prev] 114)).alloc (.cells #[.int .i64 x.at_, .int .i64 x.parent, .int .i64 x.size, .int .i64 x.table, .int .i64 x.prev] 114)).heap[w2.heap.size]? = some (.cells #[.int .i64 x.at_, .int .i64 x.parent, .int .i64 x.size, .int .i64 x.table, .int .i64 x.prev] 114 (0, 0)) := (halloc_old _ _ (by simp)).trans (halloc_at _ _)
          have c4 := k3.cell (cell_of (i := 4) A0 rfl) (fun e => absurd (hlt _ e) (Nat.lt_irrefl _))
          have KA := (K2.out.trans (Keeps.alloc (fun _ => False) _ (.cells #[.int .i64 x.at_, .int .i64 x.parent, .int .i64 x.size, .int .i64 x.table, .int .i64 x.prev] 114))).trans' k3 (fun i hi e => absurd (O2.out.2 i e) (by omega))
          have O3 := Lib.hid (O2.out.more x o3 _ l3 (by omega))
          have KK := Lib.hid KA
          have hL' : (L ++ [x]) ++ Class.walk m x.prev at_ = Class.walk m a0 m.size := by
            have := HL.out
            rw [HS.out trivial] at this
            simpa using this
          have HL' := Lib.hid hL'
          clear k3 o3 l3 KA hL' A0
          go_wp2_with fail
          go_quiet (fail)
          go_wp2_with fail
          go_roundw
          case rel =>
            refine ⟨L ++ [x], a', c', x.prev, at_, ?_, rfl, rfl, O3.out.keeps (Keeps.drewN (fun _ => False) _ _) (fun _ _ => id), (H.out.keeps KK.out id id).drewN _, KK.out.trans (Keeps.drewN _ _ _), HL'.out, hpb, by simp⟩
            rw [List.length_append]; rfl
          case measure => simp [intOf]; omega
      · have hw : L = Class.walk m a0 m.size := by
          have := HL.out
          rw [Class.walk_end m _ _ hlt, List.append_nil] at this
          exact this
        have HW := Lib.hid hw
        by_cases hp : 0 < at_
        · have hq : ¬ at_ < last := by omega
          clear hlt hw
          go_wp2_with fail
          refine (rev_cls _ _ a c L HO.out hne (by omega)).mono ?_
          rintro e w3 ⟨rfl, o3, k3⟩
          go_wp2_with fail
          go_ret
          refine ⟨a, c, ?_, ?_, ?_⟩
          · rw [HR.out, ← HW.out, List.length_reverse]; rfl
          · rw [HR.out, ← HW.out]; exact o3
          · exact HK.out.trans' k3 (fun i hi e => absurd (o3.2 i e) (by omega))
        · clear hlt hw
          go_wp2_with fail
          refine (rev_cls _ _ a c L HO.out hne (by omega)).mono ?_
          rintro e w3 ⟨rfl, o3, k3⟩
          go_wp2_with fail
          go_ret
          refine ⟨a, c, ?_, ?_, ?_⟩
          · rw [HR.out, ← HW.out, List.length_reverse]; rfl
          · rw [HR.out, ← HW.out]; exact o3
          · exact HK.out.trans' k3 (fun i hi e => absurd (o3.2 i e) (by omega))
  · have hr := HD.out
    rw [if_neg he] at hr
    have he' : (e0 == 0) = false := by simp [he]
    have HR := Lib.hid hr
    clear HD hr he
    go_wp2_with fail
    refine wp_loop_rounds 1 ?_
    rw [rounds_succ]
    go_wp2_with fail
    refine (rev_nil _).mono ?_
    rintro e w1 ⟨rfl, rfl⟩
    go_wp2_with fail
    go_ret
    exact ⟨none, 0, by rw [HR.out]; rfl, by rw [HR.out]; exact ⟨Own.nil _ _ _, by simp [blk]⟩, Keeps.refl _ _⟩
end Go.Proofs.Shed
