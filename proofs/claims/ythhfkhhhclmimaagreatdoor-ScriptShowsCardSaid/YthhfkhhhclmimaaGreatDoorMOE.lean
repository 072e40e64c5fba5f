/- Layer 17: Extend, New. Conditions: the machine lies in its blocks. Layer 17: New. Conditions: the machine lies in its blocks. -/
import Derived.Test.YthhfkhhhclmimaaGreatDoorMOA
import Derived.Test.YthhfkhhhclmimaaGreatDoorMWVmC
import Derived.Test.YthhfkhhhclmimaaGreatDoorMWSrc
set_option linter.unusedVariables false
set_option linter.unusedSimpArgs false
set_option maxRecDepth 10000
set_option maxHeartbeats 4000000
namespace Go.Proofs.Shed
open Go Go.RowKit Go.Proofs.K Go.Proofs.Cod

def resetV (fb : Nat) : Value := .func (.func 173) #[.pointer (some ⟨fb, 0, none⟩)] #[]
theorem outer_extend (w : World) (ob b2 fb n1 n2 : Nat) (o : Oc) (f1 f2 : List UInt8 → Option Value) (ho : ROc w ob o) (h1 : MapIs sk w o.more n1 f1) (h2 : MapIs sk w b2 n2 f2) (hne : o.more ≠ b2) (hn : n1 + n2 ≤ 1000) :
    Calls Tryz.prog 23 #[.pointer (some ⟨ob, 0, none⟩), .map (some b2), resetV fb] w fun e w' => e = .returned (.tuple #[]) ∧ ROc w' ob { o with reset := resetV fb } ∧ MapIs sk w' o.more (n1 + n2) (over f2 f1) ∧ Keeps (fun g => g = ob ∨ g = o.more) w w' := by
  have H1 := Lib.hid h1
  have H2 := Lib.hid h2
  have HO := Lib.hid ho
  have hb1 := h1.lt
  have hob := lt_of_heap ho
  have hom : ob ≠ o.more := fun e => MapIs.noRow h1 _ _ _ (e ▸ ho)
  have hob2 : ob ≠ b2 := fun e => MapIs.noRow h2 _ _ _ (e ▸ ho)
  have HN := Lib.hid (And.intro hom (And.intro hob2 hne))
  clear h1 h2 ho hom hob2 hne
  unfold resetV
  go_enter Tryz.func23, Tryz.ntmps23
  go_wp2_with (first
    | (at_range; refine wpList_range sk _ rfl _ 57 rfl _ Tryz.underlying57 b2 n2 f2 rfl H2.out ?_; intro w0 cnt0 hrg0 hk0)
    | go_in)
  go_frame
  have HR0 := Lib.hid hrg0
  have HK0 := Lib.hid hk0
  clear hrg0 hk0
  go_loopw [12] (fun _ wr => ∃ (left : List UInt8 → Bool) (cnt m : Nat), MapRun sk wr b2 w.heap.size n2 f2 left cnt ∧ m + cnt ≤ n1 + n2 ∧ MapIs sk wr o.more m (blend f2 f1 left) ∧ Keeps (fun g => g = o.more) w wr) (fun _ wr => wr.rangeLeft b2 w.heap.size)
  case atStart =>
    refine ⟨_, cnt0, n1, HR0.out, by have := HR0.out.cnt_le; omega, ?_, HK0.out.mono (fun _ _ e => e.elim)⟩
    rw [blend_start]
    exact H1.out.keeps HK0.out id
  case round =>
    obtain ⟨left, cnt, m, hrg, hm, hd, hk⟩ := hrel
    have HR := Lib.hid hrg
    have HD := Lib.hid hd
    have HK := Lib.hid hk
    clear hrg hd hk
    go_wp2_with (first
      | (at_next; refine wpList_mstep sk _ rfl _ rfl b2 w.heap.size n2 f2 left cnt rfl HR.out ?_ ?_)
      | go_in)
    · intro hl
      have HL := Lib.hid hl
      clear hl
      have RO := HO.out.keeps HK.out HN.out.1
      have q := ROc.free RO 19
      have ks : Keeps (fun k => k = ob) wr (wr.setCell ⟨ob, 19, none⟩ (resetV fb)) := Keeps.setCell _ _ _ (fun _ => rfl)
      have RS := Lib.hid (show ROc (wr.setCell ⟨ob, 19, none⟩ (resetV fb)) ob { o with reset := resetV fb } from hset_same RO _)
      have c19 : wr.cell? ⟨ob, 19, none⟩ = some o.reset := cell_of RO rfl
      have MF := Lib.hid ((HD.out.mono (show m ≤ n1 + n2 by omega)).congr (fun x hx => blend_end _ _ _ _ (HL.out x hx)))
      have MS := Lib.hid (MF.out.keeps ks (fun e => HN.out.1 (by have e : o.more = ob := e; exact e.symm)))
      have KF := Lib.hid ((HK.out.mono (T := fun g => g = ob ∨ g = o.more) (fun _ _ e => .inr e)).trans (ks.mono (fun _ _ e => .inl e)))
      have hst : (store ⟨ob, 19, none⟩ (resetV fb)).run Tryz.prog wr = .ok () (wr.setCell ⟨ob, 19, none⟩ (resetV fb)) := by
        have h := run_store Tryz.prog wr ⟨ob, 19, none⟩ (resetV fb) .plain rfl
        rw [c19] at h
        simpa [q] using h
      unfold resetV at RS MS KF hst
      clear RO ks
      go_wp2_with fail
      go_end0
      exact ⟨rfl, RS.out, MS.out, KF.out⟩
    · intro x v w1 cnt1 hok hlx hfx hrg1 hlt hg1 hen
      have hr := HR.out.lts
      have HR1 := Lib.hid hrg1
      have HD1 := Lib.hid (HD.out.keeps hg1 (fun e => by have e : o.more = w.heap.size := e; omega))
      have HK1 := Lib.hid (HK.out.trans' hg1 (fun i hi e => by have e : i = w.heap.size := e; omega))
      have HF := Lib.hid hfx
      have HO1 := Lib.hid hok
      have c18 : w1.cell? ⟨ob, 18, none⟩ = some (.map (some o.more)) := (HO.out.keeps HK1.out HN.out.1).c18
      change (Instr.entry (.pointer (some ⟨w.heap.size, 0, none⟩))).run Tryz.prog w1 = .ok (.tuple #[.string ⟨x.toArray⟩, v]) w1 at hen
      rw [show sk.val x = Value.string ⟨x.toArray⟩ from rfl]
      clear hrg1 hg1 hfx hok hlx
      go_wp2_with (first
        | (at_mapUpdate; refine wpList_put sk _ rfl _ _ _ 57 (.inl rfl) _ Tryz.underlying57 o.more m _ rfl HD1.out (by unfold maxLen; omega) x HO1.out v rfl rfl ?_; intro w2 hd2 hk2; go_frame)
        | go_in)
      have HR2 := Lib.hid (HR1.out.keeps hk2 (fun e => HN.out.2.2 (by have e : b2 = o.more := e; exact e.symm)) (fun e => by have e : w.heap.size = o.more := e; omega))
      have HK2 := Lib.hid (HK1.out.trans hk2)
      rw [blend_step _ _ _ _ _ HF.out] at hd2
      have HD2 := Lib.hid hd2
      clear hd2 hk2
      go_roundw
      case rel => exact ⟨_, cnt1, m + 1, HR2.out, by omega, HD2.out, HK2.out⟩
      case measure => rw [HR2.out.left_eq, HR.out.left_eq]; exact hlt
end Go.Proofs.Shed
set_option linter.unusedVariables false
set_option linter.unusedSimpArgs false
set_option maxRecDepth 10000
set_option maxHeartbeats 4000000
namespace Go.Proofs.Shed
open Go Go.RowKit Go.Proofs.K Go.Proofs.Cod

theorem Mem.text_len (m : Mem) (a n : Int) : (m.text a n).1.length ≤ n.toNat := by
  unfold Mem.text
  split
  · rw [bytesN_len]; exact Nat.le_refl _
  · exact Nat.zero_le _
theorem Mem.readWd_name {m : Mem} {a : Int} {d : Wd} {l : Int} (e : m.readWd a = some (d, l)) : d.name.length ≤ 31 := by
  unfold Mem.readWd at e
  simp only at e
  split at e
  · cases e
  · rename_i h1
    split at e
    · cases e
    · injection e with e
      injection e with e _
      have := Mem.text_len m (a + 16) ((m.cell (a + 8)).1 % 256)
      rw [← e]
      simp only
      omega
theorem Mem.wordsN_name (m : Mem) (k : Nat) : ∀ last a, ∀ d ∈ m.wordsN k last a, d.name.length ≤ 31 := by
  induction k with
  | zero => intro _ _ d h; cases h
  | succ k ih =>
    intro last a d h
    unfold Mem.wordsN at h
    split at h
    · split at h
      · rename_i w l e
        rcases List.mem_cons.1 h with rfl | h
        · exact Mem.readWd_name e
        · exact ih _ _ _ h
      · cases h
    · cases h
theorem Mem.words_name (m : Mem) (list : Int) : ∀ d ∈ m.words list, d.name.length ≤ 31 := by
  intro d h
  unfold Mem.words at h
  split at h
  · cases h
  · exact Mem.wordsN_name _ _ _ _ _ h
/-- The primitives' tokens, by their names. -/
def xtOf (f : List UInt8 → Option Value) (d : Wd) : List UInt8 → Option Value := upd f d.name (.int .i64 d.xt)
theorem last_alloc {w : World} {o : Obj} {n : Nat} (h : w.heap.size = n) : (w.alloc o).heap[n]? = some o := by rw [← h]; exact halloc_at w o
theorem older_alloc {w : World} {o x : Obj} {n : Nat} (h : w.heap[n]? = some x) : (w.alloc o).heap[n]? = some x := (halloc_old w o (lt_of_heap h)).trans h
theorem older_drew {w : World} {x : Obj} {n : Nat} (h : w.heap[n]? = some x) : w.drew.heap[n]? = some x := h
theorem drew_heap (w : World) : w.drew.heap = w.heap := rfl
def oc0 (mb q la m1 m2 : Nat) : Oc := ⟨mb, q, .slice (some ⟨la, 0, none⟩) 1 1, .slice none 0 0, false, false, Wd.none, Wd.none, 0, 0, false, m1, m2, .nilFunc⟩
/-- The reader's making. -/
def Made3 (w : World) (mb : Nat) (list : Int) (v : Value) (wx : World) : Prop :=
  ∃ g q la m1 m2 : Nat, v = .pointer (some ⟨g, 0, none⟩) ∧ ROc wx g (oc0 mb q la m1 m2) ∧ wx.heap[la]? = some (.cells #[.int .i64 list] 2 (0, 0)) ∧ wx.heap[m1]? = some (.map #[] 0) ∧ wx.heap[m2]? = some (.map #[] 0) ∧ m1 ≠ m2 ∧
    w.heap.size ≤ g ∧ w.heap.size ≤ la ∧ w.heap.size ≤ m1 ∧ w.heap.size ≤ m2 ∧ Keeps (fun _ => False) w wx

theorem own_row (w : World) (e : TypeId) (xs : List Value) (g n : Nat) (h : w.heap[g]? = some (.cells xs.toArray e (0, 0))) (hl : xs.length = n) (hn : n ≤ maxLen) : Own w e 1 (some ⟨g, 0, none⟩) n n xs := by
  refine ⟨by simpa using hl, .inr ⟨g, n, xs.toArray, rfl, Nat.zero_le _, h, Nat.le_refl _, hn, by simpa using hl, ?_⟩⟩
  simp [← hl]
/-- A reader of a machine: its cells, the lists, the primitives' tokens, no words of its own. -/
def OuterPost (w : World) (mb : Nat) (list : Int) (L : List Wd) (e : Ending) (w' : World) : Prop :=
  ∃ g q la m1 m2 : Nat, e = .returned (.pointer (some ⟨g, 0, none⟩)) ∧ ROc w' g (oc0 mb q la m1 m2) ∧ Own w' 2 1 (some ⟨la, 0, none⟩) 1 1 [.int .i64 list] ∧ MapIs sk w' m1 L.length (L.foldl xtOf (fun _ => none)) ∧ MapIs sk w' m2 0 (fun _ => none) ∧ m1 ≠ m2 ∧
    w.heap.size ≤ g ∧ w.heap.size ≤ la ∧ w.heap.size ≤ m1 ∧ w.heap.size ≤ m2 ∧ Keeps (fun _ => False) w w'
theorem outer_new (w : World) (mb s b bb : Nat) (c : Mc) (x : Sp) (hc : RMc w mb c) (hs : c.sp = some s) (hx : RSp w s b bb x) :
    Calls Tryz.prog 16 #[.pointer (some ⟨mb, 0, none⟩)] w (OuterPost w mb c.list (x.mem.words c.list)) := by
  have hmm := @run_makeMap Tryz.prog
  have HC := Lib.hid hc
  have HX := Lib.hid hx
  have m8 : w.cell? ⟨mb, 8, none⟩ = some (.int .i64 c.list) := hc.c8
  have HN := Lib.hid fun V => src_new V [] (by decide)
  clear hc hx
  go_enter Tryz.func16, Tryz.ntmps16
  go_wp2_with fail
  go_cut [3] (fun v3 wx => Made3 w mb c.list v3 wx)
  case first =>
    go_region_held3 (fun w' => w'.cell? ⟨mb, 8, none⟩ = some (.int .i64 c.list))
      (first | (repeat (first | exact p4 | exact m8 | refine (Keeps.alloc (fun _ => False) _ _).cell ?_ id | refine (Keeps.drew (fun _ => False) _).cell ?_ id)))
      (first
        | (go_at_call 74; refine (HN.out _).mono ?_; rintro e w4 ⟨rfl, _, k4⟩; dsimp only
           have ks : Keeps (fun _ => False) w w4 := by
             refine Keeps.trans ?_ k4
             repeat (first | exact Keeps.refl _ _ | refine Keeps.trans ?_ (Keeps.alloc _ _ _) | refine Keeps.trans ?_ (Keeps.drew _ _))
           have p4 : w4.cell? ⟨mb, 8, none⟩ = some (.int .i64 c.list) := ks.cell m8 id
           have s4 := k4.size))
    all_goals
      go_wp2_with fail
      go_meet
      have s0 := ks.size
      have e9 : w4.heap.toList.length = w4.heap.size := rfl
      have e8 : w.heap.toList.length = w.heap.size := rfl
      have s4 := k4.size
      simp only [drew_heap, World.size_alloc] at s4
      refine ⟨_, _, _, _, _, rfl, last_alloc ?_, ?_, ?_, ?_, ?_, ?_, ?_, ?_, ?_, ?_⟩
      · first | rfl | (simp only [World.size_alloc]; done)
      rotate_left 3
      · show ¬ (_ : Nat) = _
        omega
      · omega
      · omega
      · omega
      · omega
      · refine Keeps.trans ks ?_
        repeat (first | exact Keeps.refl _ _ | refine Keeps.trans ?_ (Keeps.alloc _ _ _))
      all_goals
        repeat (first | (refine last_alloc ?_; (first | rfl | (simp only [World.size_alloc]; done))) | refine older_alloc ?_ | refine k4.heap ?_ id | refine older_drew ?_)
  case rest =>
    obtain ⟨g, q, la, m1, m2, rfl, hro, hla, hm1, hm2, hne, l1, l2, l3, l4, kc⟩ := hcut
    have HRO := Lib.hid hro
    have HLA := Lib.hid hla
    have HM1 := Lib.hid hm1
    have HM2 := Lib.hid hm2
    have HL := Lib.hid (And.intro hne (And.intro (And.intro l1 l2) (And.intro l3 l4)))
    have KC := Lib.hid kc
    have RC := Lib.hid (HC.out.keeps kc id)
    have RX := Lib.hid (HX.out.keeps kc id id id)
    have n8 : wc.cell? ⟨mb, 8, none⟩ = some (.int .i64 c.list) := kc.cell m8 id
    have n0 : wc.cell? ⟨mb, 0, none⟩ = some (.pointer (some ⟨s, 0, none⟩)) := by rw [RC.out.c0, hs]; rfl
    have ns := RX.out.c0
    clear hro hla hm1 hm2 hne l1 l2 l3 l4 kc HN m8
    go_wp2_with fail
    obtain ⟨wa, hwa⟩ : ∃ wa, wa = wc := ⟨_, rfl⟩
    subst hwa
    have HWD := Lib.hid fun V (k : Keeps (fun _ => False) wa V) => head_words V b bb x.mem c.list (RX.out.mem.keeps k id id)
    have hwl := Mem.words_len x.mem c.list
    have HWN := Lib.hid (Mem.words_name x.mem c.list)
    have hms := RX.out.mem.le
    generalize hLe : x.mem.words c.list = L at HWD hwl HWN
    have HLE := Lib.hid hLe
    clear hLe
    go_cut [30, 31, 32] (fun v30 v31 v32 wx => ∃ a cc, v30 = .slice a L.length cc ∧ v31 = .int .i64 L.length ∧ v32 = .int .i64 0 ∧ OwnWds wa wx a cc L ∧ Keeps (fun _ => False) wa wx)
    case first =>
      go_region_held3 (fun w' => w'.cell? ⟨mb, 8, none⟩ = some (.int .i64 c.list) ∧ w'.cell? ⟨mb, 0, none⟩ = some (.pointer (some ⟨s, 0, none⟩)) ∧ w'.cell? ⟨s, 0, none⟩ = some (.pointer (some ⟨b, 0, none⟩)))
        (first | go_keep)
        (first
          | (go_at_call 75; refine (HWD.out wa.drew (Keeps.drew _ _)).mono ?_; rintro e w4 ⟨a4, c4, rfl, o4, k4⟩; dsimp only
             have ks := (Keeps.drew (fun _ => False) wa).trans k4
             have p8 := ks.cell n8 id
             have p0 := ks.cell n0 id
             have ps := ks.cell ns id))
      all_goals
        go_wp2_with fail
        go_meet
        exact ⟨a4, c4, rfl, rfl, rfl, o4, ks⟩
    case rest =>
      obtain ⟨a4, c4, rfl, rfl, rfl, o4, k4⟩ := hcut
      have O4 := Lib.hid o4
      have K4 := Lib.hid (KC.out.trans k4)
      have hm1l := lt_of_heap HM1.out
      have hgl := lt_of_heap HRO.out
      have hgm : g ≠ m1 := fun e => by have := HRO.out; unfold ROc at this; rw [e, HM1.out] at this; cases this
      have hlm : la ≠ m1 := fun e => by have := HLA.out; rw [e, HM1.out] at this; cases this
      have M1 := Lib.hid (MapIs.empty sk (k4.heap HM1.out id))
      have RO := Lib.hid (ROc.keeps HRO.out k4 id)
      have LA := Lib.hid (k4.heap HLA.out id)
      have M2 := Lib.hid (k4.heap HM2.out id)
      have H4 := Lib.hid (show wa.heap.size ≤ wc.heap.size from k4.size)
      clear o4 k4 HRO HLA HM1 HM2 RC RX n8 n0 ns HC HX HWD
      go_wp2_with fail
      go_loopw [32] (fun iv wr => ∃ i : Nat, iv = .int .i64 i ∧ i ≤ L.length ∧ MapIs sk wr m1 i ((L.take i).foldl xtOf (fun _ => none)) ∧ Keeps (fun k => k = m1) wc wr) (fun iv _ => L.length - (intOf iv).toNat)
      case atStart => exact ⟨0, rfl, Nat.zero_le _, M1.out, Keeps.refl _ _⟩
      case round =>
        obtain ⟨i, rfl, hi, hmap, hk⟩ := hrel
        have HMP := Lib.hid hmap
        have HK := Lib.hid hk
        clear hmap hk
        by_cases hlt : i < L.length
        · have hi0 : (0 : Int) ≤ (i : Int) := by omega
          obtain ⟨g4, rfl, hg4, y0, y1, y2, y3⟩ := (O4.out.keeps HK.out (fun gg hgg e => by have := O4.out.2 gg hgg; have e : gg = m1 := e; omega)).at hlt
          have HNM := Lib.hid (HWN.out _ (List.getElem_mem hlt))
          have HTK := Lib.hid (show L.take (i + 1) = L.take i ++ [L[i]] from by simp)
          generalize L[i] = d at y0 y1 y2 y3 HNM HTK
          obtain ⟨da, dx, df, dn⟩ := d
          simp only at y0 y1 y2 y3
          go_wp2_with fail
          have ka := Keeps.alloc (fun _ => False) wr (.cells #[.int .i64 da, .int .i64 dx, .int .i64 df, .string ⟨dn.toArray⟩] 53)
          have hz := halloc_at wr (.cells #[.int .i64 da, .int .i64 dx, .int .i64 df, .string ⟨dn.toArray⟩] 53)
          have hrs := HK.out.size
          have h4 := H4.out
          obtain ⟨gz, hgz⟩ : ∃ gz, gz = wr.heap.size := ⟨_, rfl⟩
          rw [← hgz] at hz ⊢
          have hz1 : ¬ gz = m1 := by omega
          generalize wr.alloc (.cells #[.int .i64 da, .int .i64 dx, .int .i64 df, .string ⟨dn.toArray⟩] 53) = V at ka hz ⊢
          have z1 : V.cell? ⟨gz, 1, none⟩ = some (.int .i64 dx) := cell_of hz rfl
          have z3 : V.cell? ⟨gz, 3, none⟩ = some (.string ⟨dn.toArray⟩) := cell_of hz rfl
          have KV := Lib.hid (HK.out.trans (ka.mono (fun _ _ e => e.elim)))
          have g17 : V.cell? ⟨g, 17, none⟩ = some (.map (some m1)) := (RO.out.keeps KV.out hgm).c17
          obtain ⟨w8, hrun, hp8, k8⟩ := map_run sk 56 _ Tryz.underlying56 ((HMP.out.keeps ka id).keeps (Keeps.drew (fun _ => False) V) id) (show i < maxLen by unfold maxLen; omega) dn (show dn.length ≤ maxLen from Nat.le_trans HNM.out (by unfold maxLen; omega)) (.int .i64 dx)
          have hrun : (Instr.mapUpdate 56 (.map (some m1)) (.string ⟨dn.toArray⟩) (.int .i64 dx)).run Tryz.prog V.drew = .ok () w8 := hrun
          have kd := (Keeps.drew (fun k => k = m1) V).trans k8
          have KF := Lib.hid (KV.out.trans kd)
          have HP8 := Lib.hid hp8
          have h17 : w8.cell? ⟨g, 17, none⟩ = some (.map (some m1)) := kd.cell g17 hgm
          have h1z : w8.cell? ⟨gz, 1, none⟩ = some (.int .i64 dx) := kd.cell z1 hz1
          have h3z : w8.cell? ⟨gz, 3, none⟩ = some (.string ⟨dn.toArray⟩) := kd.cell z3 hz1
          clear hz ka hgz hp8 k8 kd y0 y1 y2 y3
          go_region_held3 (fun w' => w'.cell? ⟨g, 17, none⟩ = some (.map (some m1)) ∧ w'.cell? ⟨gz, 1, none⟩ = some (.int .i64 dx) ∧ w'.cell? ⟨gz, 3, none⟩ = some (.string ⟨dn.toArray⟩))
            (first | exact ⟨h17, h1z, h3z⟩ | go_keep)
            (fail)
          go_wp2_with fail
          go_roundw
          case rel =>
            refine ⟨i + 1, rfl, hlt, ?_, KF.out⟩
            rw [HTK.out, List.foldl_append]
            exact HP8.out
          case measure => simp [intOf]; omega
        · have he : i = L.length := by omega
          subst he
          have HPF := HMP.out
          rw [List.take_length] at HPF
          have HPF := Lib.hid HPF
          have ROF := Lib.hid (RO.out.keeps HK.out hgm)
          have LAF := Lib.hid (HK.out.heap LA.out hlm)
          have M2F := Lib.hid (HK.out.heap M2.out (fun e => HL.out.1 (by have e : m2 = m1 := e; exact e.symm)))
          have KK := Lib.hid (K4.out.trans' HK.out (fun i hi e => by have := HL.out.2.2.1; have e : i = m1 := e; omega))
          go_wp2_with fail
          go_ret
          rw [HLE.out]
          exact ⟨g, q, la, m1, m2, rfl, ROF.out, own_row _ _ [_] _ _ LAF.out rfl (by decide), HPF.out, MapIs.empty sk M2F.out, HL.out.1, HL.out.2.1.1, HL.out.2.1.2, HL.out.2.2.1, HL.out.2.2.2, KK.out⟩
end Go.Proofs.Shed
