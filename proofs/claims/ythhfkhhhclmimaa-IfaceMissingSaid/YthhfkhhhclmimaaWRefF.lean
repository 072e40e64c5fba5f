/- The document's functions for layer 11: Set. Conditions: the list of classes lies in blocks of its own; each parent stands ahead. -/
import Derived.Test.YthhfkhhhclmimaaWRefG
import Derived.Test.YthhfkhhhclmimaaWA
set_option linter.unusedVariables false
set_option linter.unusedSimpArgs false
set_option maxRecDepth 10000
set_option maxHeartbeats 2000000
namespace Go.Proofs.Shed
open Go Go.RowKit Go.Proofs.K

def SetRefPost (N : Nat → Prop) (r : List RCls × Int) (w : World) (e : Ending) (w' : World) : Prop :=
  ∃ a c, e = .returned (.tuple #[.slice a r.1.length c, .int .i64 r.2]) ∧ RefL N w' a r.1.length c r.1 ∧ Keeps (fun _ => False) w w'

theorem past_new' {B : Nat} {a3 a4 : Option Addr} (s : Nat) (h3 : ∀ g, blk a3 = some g → B ≤ g) (hs : B ≤ s) (l : blk a4 = blk a3 ∨ blk a4 = some s) : ∀ g, blk a4 = some g → B ≤ g := by
  intro g hg
  rcases l with e | e
  · exact h3 g (e ▸ hg)
  · rw [e] at hg
    cases hg
    exact hs
def pairV (Q : List (Int × Int)) : List Value := Q.flatMap fun p => [.int .i64 p.1, .int .i64 p.2]
theorem pairV_len (Q : List (Int × Int)) : (pairV Q).length = Q.length * 2 := by
  induction Q with
  | nil => rfl
  | cons p Q ih => simp [pairV] at *; omega
theorem pairV_app (Q R : List (Int × Int)) : pairV (Q ++ R) = pairV Q ++ pairV R := by simp [pairV]
theorem pairV_get (Q : List (Int × Int)) (i : Nat) (h : i < Q.length) : (pairV Q)[i * 2]? = some (.int .i64 Q[i].1) ∧ (pairV Q)[i * 2 + 1]? = some (.int .i64 Q[i].2) := by
  induction Q generalizing i with
  | nil => simp at h
  | cons p Q ih =>
    have e : pairV (p :: Q) = [.int .i64 p.1, .int .i64 p.2] ++ pairV Q := rfl
    rw [e]
    cases i with
    | zero => exact ⟨rfl, rfl⟩
    | succ i =>
      have := ih i (by simpa using h)
      refine ⟨?_, ?_⟩
      · rw [List.getElem?_append_right (by simp; omega), show (i + 1) * 2 - [Value.int .i64 p.1, .int .i64 p.2].length = i * 2 by simp; omega]; exact this.1
      · rw [List.getElem?_append_right (by simp; omega), show (i + 1) * 2 + 1 - [Value.int .i64 p.1, .int .i64 p.2].length = i * 2 + 1 by simp; omega]; exact this.2
theorem infoOwn : (Try.prog.info? 109).map (fun i => (i.zero, i.size, i.bytes)) = some (some (.agg #[.int .i64 0, .int .i64 0]), 2, 16) := by kernel_rfl
/-- Own methods, in a slice of the call's own. -/
def OwnQ (B : Nat) (w : World) (a : Option Addr) (c : Nat) (Q : List (Int × Int)) : Prop := Own w 109 2 a Q.length c (pairV Q) ∧ ∀ g, blk a = some g → B ≤ g
theorem OwnQ.keeps {B : Nat} {w w' : World} {a : Option Addr} {c : Nat} {Q : List (Int × Int)} (h : OwnQ B w a c Q) {S : Nat → Prop} (k : Keeps S w w') (hs : ∀ g, blk a = some g → ¬ S g) : OwnQ B w' a c Q := ⟨h.1.keeps k hs, h.2⟩
theorem OwnQ.more {B : Nat} {w w' : World} {a a' : Option Addr} {c c' : Nat} {Q : List (Int × Int)} (h : OwnQ B w a c Q) (p : Int × Int) (o : Own w' 109 2 a' (Q.length + 1) c' (pairV Q ++ [.int .i64 p.1, .int .i64 p.2])) (k : Nat) (l : blk a' = blk a ∨ blk a' = some k) (hk : B ≤ k) : OwnQ B w' a' c' (Q ++ [p]) := by
  refine ⟨?_, past_new' _ h.2 hk l⟩
  rw [List.length_append, pairV_app]
  exact o
theorem OwnQ.at {N : Nat → Prop} {B : Nat} {w : World} {a : Option Addr} {c : Nat} {Q : List (Int × Int)} (h : OwnQ B w a c Q) (hN : ∀ g, B ≤ g → N g) : OwnAt N w a Q.length c Q := by
  rcases h.1.form with ⟨rfl, hn, rfl, hx⟩ | ⟨g, cur, rfl, hh, hnc, hcm, hcs, htk, hxl⟩
  · exact ⟨rfl, by omega, fun g hg => (by cases hg), fun i hi => absurd hi (by omega)⟩
  · refine ⟨rfl, hnc, fun g' hg => ⟨hN g' (h.2 g' hg), h.1.lt hg⟩, fun i hi => ⟨g, 0, rfl, ?_, ?_⟩⟩
    · rw [Nat.zero_add]; exact h.1.cell (pairV_get Q i hi).1
    · rw [Nat.zero_add]; exact h.1.cell (pairV_get Q i hi).2
theorem pair_news (w : World) (x y : Int) : ∀ j u, [Value.int .i64 x, .int .i64 y][j]? = some u → (w.alloc (.cells #[.int .i64 x, .int .i64 y] 109)).cell? ((⟨w.heap.size, 0, none⟩ : Addr).add j) = some u := by
  intro j u hu
  rw [Addr.add_lit, Nat.zero_add]
  refine cell_of (halloc_at _ _) ?_
  simpa using hu
theorem pair_one (x y : Int) : ∀ u ∈ [Value.int .i64 x, .int .i64 y], u.oneCell' = true := by
  intro u hu
  simp at hu
  rcases hu with rfl | rfl <;> rfl
theorem any_full (L : List RCls) (c : Nat) (sel : Int) (h : ∀ j, j < L.length → Ref.full L c sel j = false) : (List.range L.length).any (Ref.full L c sel) = false := by
  rw [List.any_eq_false]
  intro j hj
  rw [h j (by simpa using hj)]
  simp
theorem any_full' (L : List RCls) (c : Nat) (sel : Int) (j : Nat) (hj : j < L.length) (h : Ref.full L c sel j = true) : (List.range L.length).any (Ref.full L c sel) = true :=
  List.any_eq_true.2 ⟨j, by simpa using hj, h⟩

theorem ref_set (N : Nat → Prop) (w : World) (a : Option Addr) (n c : Nat) (L : List RCls) (k : Nat) (sel xt : Int) (h : RefL N w a n c L) (hok : Ref.Ok L) (hN : ∀ g, w.heap.size ≤ g → N g) (hk : k < L.length) (hl : L.length ≤ 1000000) (ho : ∀ x ∈ L, x.own.length ≤ 1000000) :
    Calls Try.prog 25 #[.slice a n c, .int .i64 k, .int .i64 sel, .int .i64 xt] w (SetRefPost N (Ref.set L k sel xt) w) := by
  have H := Lib.hid h
  have HOK := Lib.hid hok
  have HO := Lib.hid ho
  obtain rfl : n = L.length := h.1
  clear h hok ho
  have HD : Hid (Ref.set L k sel xt = if sel < 1 then (L, -256) else if (List.range L.length).any (Ref.full L k sel) then (L, -2051) else (Ref.put L k sel xt, 0)) := rfl
  generalize Ref.set L k sel xt = r at HD ⊢
  by_cases hs : sel < 1
  · have hr := HD.out
    rw [if_pos hs] at hr
    have HR := Lib.hid hr
    clear hr
    go_enter Try.func25, Try.ntmps25
    go_wp2_with fail
    go_ret2
    exact ⟨a, c, by rw [HR.out]; rfl, by rw [HR.out]; exact H.out, Keeps.refl _ _⟩
  · have hr := HD.out
    rw [if_neg hs] at hr
    have hs' : 1 ≤ sel := by omega
    have HR := Lib.hid hr
    clear hr hs HD
    go_enter Try.func25, Try.ntmps25
    go_wp2_with fail
    go_loopw [10] (fun iv wr => ∃ j : Nat, iv = .int .i64 j ∧ j ≤ L.length ∧ (∀ i, i < j → Ref.full L k sel i = false) ∧ Keeps (fun _ => False) w wr)
      (fun iv _ => L.length - (intOf iv).toNat)
    case atStart => exact ⟨0, rfl, by omega, fun i hi => absurd hi (Nat.not_lt_zero _), Keeps.refl _ _⟩
    case round =>
      obtain ⟨j, rfl, hj, hf, hkk⟩ := hrel
      have HF := Lib.hid hf
      have HK := Lib.hid hkk
      clear hf hkk
      by_cases hlt : j < L.length
      · have hfd : Ref.full L k sel j = (Ref.heir L j k sel && (Ref.walk L j sel).isNone && decide ((Ref.get L j).slots ≤ Ref.seen L j)) := rfl
        rw [Ref.get_at L j hlt] at hfd
        have hH := Lib.hid (ref_heir N wr a L.length c L j k sel (H.out.keeps HK.out (fun _ _ => id)) HOK.out (by omega) (by omega) hl HO.out)
        obtain ⟨g, oa, on, oc, rfl, hNg, hnc, c0', c1', c2', c3', hoa, _⟩ := (H.out.get hlt)
        have C2 := Lib.hid c2'
        generalize hsl : L[j].slots = slots at hfd C2
        generalize Ref.heir L j k sel = bh at hfd hH
        have HFD := Lib.hid hfd
        clear hfd hoa c0' c1' c2' c3' hsl hNg
        go_wp2_with fail
        refine hH.out.mono ?_
        rintro e w2 ⟨rfl, k2⟩
        have K2 := Lib.hid (HK.out.trans k2)
        clear k2
        have hW := Lib.hid (ref_walk N w2 (some ⟨g, 0, none⟩) L.length c L j sel (H.out.keeps K2.out (fun _ _ => id)) HOK.out (by omega) (by omega) hl HO.out)
        generalize Ref.walk L j sel = wk at HFD hW
        go_wp2_with fail
        refine hW.out.mono ?_
        rintro e w3 ⟨rfl, k3⟩
        have K3 := Lib.hid (K2.out.trans k3)
        have c2 := K3.out.cell C2.out id
        clear k3
        have hS := Lib.hid (fun (i : Stay w3) => ref_seen N i.1 (some ⟨g, 0, none⟩) L.length c L j (H.out.keeps (K3.out.trans i.2) (fun _ _ => id)) HOK.out (by omega) (by omega) hl HO.out)
        cases bh with
        | false =>
          have hfj : Ref.full L k sel j = false := by rw [HFD.out]; rfl
          have HFJ := Lib.hid hfj
          clear hfj
          cases wk with
          | none =>
            unfold walkV
            go_wp2_with fail
            go_quiet (fail)
            go_wp2_with fail
            go_roundw
            case rel =>
              exact ⟨j + 1, by go_num, by omega, fun i hi => (by
                by_cases e : i = j
                · rw [e]; exact HFJ.out
                · exact HF.out i (by omega)), K3.out.trans (Keeps.drewN _ _ _)⟩
            case measure => simp [intOf]; omega
          | some y =>
            unfold walkV
            go_wp2_with fail
            go_quiet (fail)
            go_wp2_with fail
            go_roundw
            case rel =>
              exact ⟨j + 1, by go_num, by omega, fun i hi => (by
                by_cases e : i = j
                · rw [e]; exact HFJ.out
                · exact HF.out i (by omega)), K3.out.trans (Keeps.drewN _ _ _)⟩
            case measure => simp [intOf]; omega
        | true =>
          cases wk with
          | some y =>
            have hfj : Ref.full L k sel j = false := by rw [HFD.out]; rfl
            have HFJ := Lib.hid hfj
            clear hfj
            unfold walkV
            go_wp2_with fail
            go_quiet (fail)
            go_wp2_with fail
            go_roundw
            case rel =>
              exact ⟨j + 1, by go_num, by omega, fun i hi => (by
                by_cases e : i = j
                · rw [e]; exact HFJ.out
                · exact HF.out i (by omega)), K3.out.trans (Keeps.drewN _ _ _)⟩
            case measure => simp [intOf]; omega
          | none =>
            have c2d := fun (i : Stay w3) => i.2.cell c2 id
            have hfd2 : Ref.full L k sel j = decide (slots ≤ (Ref.seenA L j []).length) := by rw [HFD.out]; rfl
            generalize (Ref.seenA L j []).length = sn at hfd2 hS
            unfold walkV
            by_cases hfu : slots ≤ (sn : Int)
            · rw [decide_eq_true hfu] at hfd2
              have HFU := Lib.hid (any_full' L k sel j hlt hfd2)
              clear hfd2
              go_wp2_with fail
              refine Go.Proofs.K.wp_region_calm ?calm1a ?calm1b ?_
              case calm1a => kernel_rfl
              case calm1b => kernel_rfl
              repeat ((with_reducible refine wpQuiet_step ?_); intro Kq hKq; go_simp; first | ((with_reducible refine hKq _ ?_); clear hKq Kq) | (refine hKq _ ?_; clear hKq Kq) | (apply Exists.intro; refine ⟨fun _ => ?_, hKq _ ?_⟩; (exact K.calm_of (hS.out _)); clear hKq Kq))
              with_reducible refine wpQuiet_nil ?_
              intro _ hw'
              obtain ⟨⟨wq, kq⟩, hw''⟩ := hw'
              subst hw''
              have K4 := Lib.hid (K3.out.trans kq)
              all_goals
                go_wp2_with fail
                go_ret2
                have hr := HR.out
                rw [if_pos HFU.out] at hr
                exact ⟨_, _, by rw [hr]; rfl, by rw [hr]; exact H.out.keeps K4.out (fun _ _ => id), K4.out⟩
            · rw [decide_eq_false hfu] at hfd2
              have HFJ := Lib.hid hfd2
              have hfu' : (sn : Int) < slots := by omega
              clear hfd2 hfu
              go_wp2_with fail
              refine Go.Proofs.K.wp_region_calm ?calm2a ?calm2b ?_
              case calm2a => kernel_rfl
              case calm2b => kernel_rfl
              repeat ((with_reducible refine wpQuiet_step ?_); intro Kq hKq; go_simp; first | ((with_reducible refine hKq _ ?_); clear hKq Kq) | (refine hKq _ ?_; clear hKq Kq) | (apply Exists.intro; refine ⟨fun _ => ?_, hKq _ ?_⟩; (exact K.calm_of (hS.out _)); clear hKq Kq))
              with_reducible refine wpQuiet_nil ?_
              intro _ hw'
              obtain ⟨⟨wq, kq⟩, hw''⟩ := hw'
              subst hw''
              have K4 := Lib.hid (K3.out.trans kq)
              all_goals
                go_wp2_with fail
                go_roundw
                case rel =>
                  exact ⟨j + 1, by go_num, by omega, fun i hi => (by
                    by_cases e : i = j
                    · rw [e]; exact HFJ.out
                    · exact HF.out i (by omega)), K4.out⟩
                case measure => simp [intOf]; omega
      · have hge : j = L.length := by omega
        subst hge
        have hany := any_full L k sel HF.out
        have hr := HR.out
        rw [if_neg (by rw [hany]; simp)] at hr
        have HR' := Lib.hid hr
        clear hr hany
        have hL2 := H.out.keeps HK.out (fun _ _ => id)
        obtain ⟨g, oa, on, oc, rfl, hNg, hnc, c0', c1', c2', c3', hoa, hgo⟩ := hL2.get hk
        obtain ⟨hn, V, hV⟩ := hL2
        have HV := Lib.hid hV
        have hcl : (V.flatMap RC.cells).length = L.length * 4 := by rw [rc_len, hV.len]
        have hcells := (hV.keeps (Keeps.alloc (fun _ => False) wr (.cells #[] 84)) (fun _ _ => id)).cells
        have hone := rc_ones V
        have C3 := Lib.hid c3'
        have HOA := Lib.hid hoa
        have ho1 : Own (wr.alloc (.cells #[] 84)) 84 4 (some ⟨wr.heap.size, 0, none⟩) 0 0 [] := World.ownsRow_made wr _ _ (Nat.zero_le _) (Nat.zero_le _) rfl
        clear hV hn c0' c1' c2' c3' hoa hNg
        go_wp2_with (first
          | (at_builtin; refine wpList_app rfl _ _ 47 rfl 84 _ 4 48 Try.underlying47 infoRC rfl (by decide) (some ⟨wr.heap.size, 0, none⟩) 0 0 [] rfl ho1 ⟨g, 0, none⟩ L.length c (V.flatMap RC.cells) rfl hcl hcells hone ?d3 ?d4 ?_))
        case d3 => unfold maxLen; omega
        case d4 => omega
        intro a3 c3 w3 o3 k3 l3
        have hw : w.heap.size ≤ wr.heap.size := HK.out.size
        have o3' : Own w3 84 4 a3 L.length c3 (V.flatMap RC.cells) := o3
        have kA := Keeps.alloc (fun _ => False) wr (.cells #[] 84)
        have k13 := kA.trans' k3 (fun i hi e => absurd (show wr.heap.size = i from Option.some.inj e) (by omega))
        have K3 := Lib.hid (HK.out.trans k13)
        have N3 : Hid (∀ g, blk a3 = some g → wr.heap.size ≤ g) := past_new' (a3 := some ⟨wr.heap.size, 0, none⟩) _ (fun g e => Nat.le_of_eq (Option.some.inj e)) (Nat.le_succ _) l3
        have O3 := Lib.hid o3'
        have hol := HO.out L[k] (List.getElem_mem hk)
        obtain rfl : on = L[k].own.length := HOA.out.1
        have hoc := HOA.out.2.1
        have C33 := Lib.hid (k13.cell C3.out id)
        have HOA3 := Lib.hid (HOA.out.keeps k13 (fun _ _ => id))
        have hget : Ref.get L k = L[k] := Ref.get_at L k hk
        have HPD : Hid (Ref.put L k sel xt = L.set k { Ref.get L k with own := (Ref.get L k).own.filter (fun p => p.1 ≠ sel) ++ [(sel, xt)] }) := rfl
        rw [hget] at HPD
        have HSZ := Lib.hid k13.size
        obtain ⟨wr_, hwr_⟩ : ∃ x, x = wr := ⟨_, rfl⟩
        have HK13 := Lib.hid k13
        rw [← hwr_] at N3 HV HSZ HK13 hw
        generalize hx : L[k] = x at HPD C33 HOA3 hol hoc
        have hx' := hx
        clear hx hget o3 o3' kA k13 k3 l3 hcells ho1
        go_wp2_with fail
        have hw3 : w.heap.size ≤ w3.heap.size := K3.out.size
        go_loopw [16, 17] (fun qv iv wr => ∃ (Q : List (Int × Int)) (qa : Option Addr) (qc : Nat) (i : Nat), qv = .slice qa Q.length qc ∧ iv = .int .i64 i ∧ i ≤ x.own.length ∧ Q.length ≤ i ∧ OwnQ w3.heap.size wr qa qc Q ∧ Keeps (fun _ => False) w3 wr ∧
            Q ++ (x.own.drop i).filter (fun p => p.1 ≠ sel) = x.own.filter (fun p => p.1 ≠ sel))
          (fun _ iv _ => x.own.length - (intOf iv).toNat)
        case atStart => exact ⟨[], none, 0, 0, rfl, rfl, by omega, by simp, ⟨Own.nil _ _ _, fun g hg => (by cases hg)⟩, Keeps.refl _ _, rfl⟩
        case round =>
          obtain ⟨Q, qa, qc, i, rfl, rfl, hi, hqi, hq, hkq, hf⟩ := hrel
          have HQ := Lib.hid hq
          have HKQ := Lib.hid hkq
          have cz3 := hkq.cell C33.out id
          clear hq hkq
          by_cases hlt : i < x.own.length
          · have hdrop : x.own.drop i = x.own[i] :: x.own.drop (i + 1) := List.drop_eq_getElem_cons hlt
            rw [hdrop] at hf
            obtain ⟨go_, oo, rfl, d0', d1'⟩ := HOA3.out.2.2.2 i hlt
            have d0 := HKQ.out.cell d0' id
            have d1 := HKQ.out.cell d1' id
            clear hdrop d0' d1'
            generalize x.own[i] = y at d0 d1 hf
            obtain ⟨y0, y1⟩ := y
            simp only at d0 d1 hf
            by_cases e : y0 = sel
            · have e' : (y0 != sel) = false := by simp [e]
              have hf' : Q ++ (x.own.drop (i + 1)).filter (fun p => p.1 ≠ sel) = x.own.filter (fun p => p.1 ≠ sel) := by
                rw [← hf, List.filter_cons_of_neg (by simp [e])]
              have HF' := Lib.hid hf'
              clear hf hf' e
              go_wp2_with fail
              go_roundw
              case rel => exact ⟨Q, qa, qc, i + 1, rfl, by go_num, by omega, by omega, HQ.out, HKQ.out, HF'.out⟩
              case measure => simp [intOf]; omega
            · have e' : (y0 != sel) = true := by simp [e]
              have hf' : (Q ++ [(y0, y1)]) ++ (x.own.drop (i + 1)).filter (fun p => p.1 ≠ sel) = x.own.filter (fun p => p.1 ≠ sel) := by
                rw [← hf, List.filter_cons_of_pos (by simp [e])]
                simp
              have HF' := Lib.hid hf'
              clear hf hf' e
              go_wp2_with (first
                | (at_builtin; refine wpList_app rfl _ _ 82 rfl 109 _ 2 16 Try.underlying82 infoOwn rfl (by decide) qa Q.length qc (pairV Q) rfl (HQ.out.keeps (Keeps.alloc (fun _ => False) _ _) (fun _ _ => id)).1 ⟨wr.heap.size, 0, none⟩ 1 1 [.int .i64 y0, .int .i64 y1] rfl rfl (pair_news wr y0 y1) (pair_one y0 y1) ?f3 ?f4 ?_))
              case f3 => unfold maxLen; omega
              case f4 => omega
              intro a' c' w4 o4 k4 l4
              have hwr : w3.heap.size ≤ wr.heap.size := HKQ.out.size
              have ka := Keeps.alloc (fun _ => False) wr (.cells #[.int .i64 y0, .int .i64 y1] 109)
              have Q4 := Lib.hid ((HQ.out.keeps ka (fun _ _ => id)).more (y0, y1) o4 _ l4 (by omega))
              have K4 := Lib.hid ((HKQ.out.trans ka).trans' k4 (fun i hi e => absurd (HQ.out.2 i e) (by omega)))
              clear ka o4 k4 l4
              go_wp2_with fail
              go_roundw
              case rel => exact ⟨Q ++ [(y0, y1)], a', c', i + 1, by rw [List.length_append]; rfl, by go_num, by omega, by rw [List.length_append]; simp; omega, Q4.out, K4.out, HF'.out⟩
              case measure => simp [intOf]; omega
          · have hge : i = x.own.length := by omega
            subst hge
            rw [List.drop_length, List.filter_nil, List.append_nil] at hf
            obtain rfl : Q = x.own.filter (fun p => p.1 ≠ sel) := hf
            have hf0 := Lib.hid (Eq.refl (x.own.filter (fun p => p.1 ≠ sel)))
            generalize x.own.filter (fun p => p.1 ≠ sel) = Q at HPD HQ hqi
            clear hf0
            obtain ⟨g3, cur, rfl, hcur, hlc, hcs⟩ : ∃ g3 cur, a3 = some ⟨g3, 0, none⟩ ∧ w3.heap[g3]? = some (.cells cur 84 (0, 0)) ∧ L.length ≤ c3 ∧ cur.size = c3 * 4 := by
              rcases O3.out.form with ⟨hx, h0, _⟩ | ⟨g', cur, hx, hh, hnc, hcm, hcs, htk, hxl⟩
              · omega
              · exact ⟨g', cur, hx, hh, hnc, hcs⟩
            have hg3 : g3 < w3.heap.size := lt_of_heap hcur
            have hg3r : wr_.heap.size ≤ g3 := N3.out g3 rfl
            have hkl : (k : Int) < L.length := by omega
            have hQl : Q.length ≤ 1000000 := by omega
            have hvk : k < V.length := by rw [HV.out.len]; exact hk
            clear hcur
            go_wp2_with (first
              | (at_builtin; refine wpList_app rfl _ _ 82 rfl 109 _ 2 16 Try.underlying82 infoOwn rfl (by decide) qa Q.length qc (pairV Q) rfl (HQ.out.keeps (Keeps.alloc (fun _ => False) _ _) (fun _ _ => id)).1 ⟨wr.heap.size, 0, none⟩ 1 1 [.int .i64 sel, .int .i64 xt] rfl rfl (pair_news wr sel xt) (pair_one sel xt) ?f3 ?f4 ?_))
            case f3 => unfold maxLen; omega
            case f4 => omega
            intro a5 c5 w5 o5 k5 l5
            have hwr : w3.heap.size ≤ wr.heap.size := HKQ.out.size
            have ka := Keeps.alloc (fun _ => False) wr (.cells #[.int .i64 sel, .int .i64 xt] 109)
            have q5 := (HQ.out.keeps ka (fun _ _ => id)).more (sel, xt) o5 _ l5 (by omega)
            have k35 := (HKQ.out.trans ka).trans' k5 (fun i hi e => absurd (HQ.out.2 i e) (by omega))
            have O5 := O3.out.keeps k35 (fun _ _ => id)
            have d3 := O5.cell (rc_get V k hvk).2.2.2
            have df : w5.frozen? ⟨g3, k * 4 + 3, none⟩ = false := by
              rcases O5.form with ⟨hx, _⟩ | ⟨g', cur, hx, hh, _⟩
              · cases hx
              · cases hx; exact free_of hh
            have hlast := HV.out.setOwn (HK13.out.trans k35) O5 (hN g3 (by omega)) hg3r hk (q5.at (fun g h => hN g (by omega))) (fun e => by have := q5.2 g3 e; omega)
            have K5 := Lib.hid (K3.out.trans k35)
            obtain ⟨hvk', hlast⟩ := hlast
            have HL := Lib.hid hlast
            have e1 : (Q ++ [(sel, xt)]).length = Q.length + 1 := by simp
            rw [e1] at HL
            rw [hx'] at HL
            have HPD' := HPD.out
            have K6 : Hid (Keeps (fun _ => False) w (w5.setCell ⟨g3, k * 4 + 3, none⟩ (.slice a5 (Q.length + 1) c5))) := K5.out.setNew _ _ (show w.heap.size ≤ g3 by omega)
            clear hlast o5 k5 l5 q5 k35 ka O5
            go_wp2_with fail
            go_ret2
            have hlen : (Ref.put L k sel xt).length = L.length := by rw [HPD']; simp
            refine ⟨some ⟨g3, 0, none⟩, c3, ?_, ?_, K6.out⟩
            · rw [HR'.out, hlen]; rfl
            · rw [HR'.out, hlen, HPD']
              exact ⟨by simp, _, HL.out⟩
end Go.Proofs.Shed
