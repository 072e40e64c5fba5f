/- The document's functions for layer 11: New. Conditions: the list of classes lies in blocks of its own; each parent stands ahead. -/
import Derived.Test.YthhfkhhhclmimaaWRefC
set_option linter.unusedVariables false
set_option linter.unusedSimpArgs false
set_option maxRecDepth 10000
set_option maxHeartbeats 2000000
namespace Go.Proofs.Shed
open Go Go.RowKit Go.Proofs.K

theorem infoRC : (Try.prog.info? 84).map (fun i => (i.zero, i.size, i.bytes)) = some (some (.agg #[.int .i64 0, .int .i64 0, .int .i64 0, .slice none 0 0]), 4, 48) := by kernel_rfl
theorem rc_news (w : World) (v : RC) : ∀ j u, v.cells[j]? = some u → (w.alloc (.cells #[.int .i64 v.parent, .int .i64 v.size, .int .i64 v.slots, .slice v.oa v.on v.oc] 84)).cell? ((⟨w.heap.size, 0, none⟩ : Addr).add j) = some u := by
  intro j u hu
  rw [Addr.add_lit, Nat.zero_add]
  refine cell_of (halloc_at _ _) ?_
  simpa [RC.cells] using hu
theorem rc_one (v : RC) : ∀ u ∈ v.cells, u.oneCell' = true := by
  intro u hu
  simp [RC.cells] at hu
  rcases hu with rfl | rfl | rfl | rfl <;> rfl
theorem rc_ones (V : List RC) : ∀ u ∈ V.flatMap RC.cells, u.oneCell' = true := by
  intro u hu
  obtain ⟨v, _, h⟩ := List.mem_flatMap.1 hu
  exact rc_one v u h
theorem RefV.cells {N : Nat → Prop} {w : World} {ad : Addr} {c : Nat} {V : List RC} {L : List RCls} (h : RefV N w (some ad) c V L) : ∀ j u, (V.flatMap RC.cells)[j]? = some u → w.cell? (ad.add j) = some u := by
  intro j u hu
  rcases h.own.form with ⟨hx, _⟩ | ⟨g, cur, hx, _⟩
  · cases hx
  · cases hx
    rw [Addr.add_lit, Nat.zero_add]
    exact h.own.cell hu

/-- What New leaves. -/
def RefPost (N : Nat → Prop) (L : List RCls) (w : World) (e : Ending) (w' : World) : Prop :=
  ∃ a c, e = .returned (.slice a L.length c) ∧ RefL N w' a L.length c L ∧ Keeps (fun _ => False) w w'

theorem RefV.snoc {N : Nat → Prop} {w w' : World} {a a' : Option Addr} {c c' : Nat} {V : List RC} {L : List RCls} (h : RefV N w a c V L) (k : Keeps (fun _ => False) w w') (x : RC) (y : RCls) (hxy : x.Is N w' y)
    (o : Own w' 84 4 a' (V.length + 1) c' (V.flatMap RC.cells ++ x.cells)) (hb : ∀ g, blk a' = some g → w.heap.size ≤ g) (hN : ∀ g, w.heap.size ≤ g → N g) (hx : x.oa = none) : RefV N w' a' c' (V ++ [x]) (L ++ [y]) := by
  refine ⟨?_, fun g hg => hN g (hb g hg), by simp [h.len], fun i h1 h2 => ?_, fun i h1 g hg hg' => ?_⟩
  · rw [List.length_append, List.flatMap_append]
    have e : [x].flatMap RC.cells = x.cells := by simp
    rw [e]
    exact o
  · by_cases hi : i < V.length
    · rw [List.getElem_append_left hi, List.getElem_append_left (by rw [← h.len]; exact hi)]
      obtain ⟨e1, e2, e3, e4⟩ := h.is i hi (by rw [← h.len]; exact hi)
      exact ⟨e1, e2, e3, e4.keeps k fun _ _ => id⟩
    · have hiv : i = V.length := by simp at h1; omega
      subst hiv
      rw [List.getElem_append_right (Nat.le_refl _), List.getElem_append_right (by rw [← h.len]; exact Nat.le_refl _)]
      simpa [h.len] using hxy
  · by_cases hi : i < V.length
    · rw [List.getElem_append_left hi] at hg
      have := ((h.is i hi (by rw [← h.len]; exact hi)).2.2.2.2.2.1 g hg).2
      have := hb g hg'
      omega
    · have hiv : i = V.length := by simp at h1; omega
      subst hiv
      rw [List.getElem_append_right (Nat.le_refl _)] at hg
      simp [hx] at hg
      cases hg

theorem rc_is_nil (N : Nat → Prop) (w : World) (k sz sl : Int) : RC.Is N w ⟨k, sz, sl, none, 0, 0⟩ ⟨k, sz, sl, []⟩ := ⟨rfl, rfl, rfl, rfl, Nat.le_refl _, fun g hg => (by cases hg), fun i hi => absurd hi (Nat.not_lt_zero _)⟩
theorem past_new {W : World} {a3 a4 : Option Addr} (s : Nat) (h3 : ∀ g, blk a3 = some g → W.heap.size ≤ g) (hs : W.heap.size ≤ s) (l : blk a4 = blk a3 ∨ blk a4 = some s) : ∀ g, blk a4 = some g → W.heap.size ≤ g := by
  intro g hg
  rcases l with e | e
  · exact h3 g (e ▸ hg)
  · rw [e] at hg
    cases hg
    exact hs

theorem ref_new_some (N : Nat → Prop) (w : World) (ad : Addr) (c : Nat) (V : List RC) (L : List RCls) (k sl : Int) (hV : RefV N w (some ad) c V L) (hN : ∀ g, w.heap.size ≤ g → N g) (hk0 : -1 ≤ k) (hk1 : k < L.length) (hl : L.length ≤ 1000000) :
    Calls Try.prog 51 #[.slice (some ad) V.length c, .int .i64 k, .int .i64 sl] w (RefPost N (Ref.new L k sl) w) := by
  have H := Lib.hid hV
  have hlen := hV.len
  by_cases hk : 0 ≤ k
  · obtain ⟨i, rfl⟩ : ∃ i : Nat, k = i := ⟨k.toNat, by omega⟩
    have hi : i < L.length := by omega
    obtain ⟨g, oa, on, oc, hg, hNg, hnc, c0, c1, c2, c3, hoa, _⟩ := RefL.get ⟨hlen, V, hV⟩ hi
    obtain rfl : ad = ⟨g, 0, none⟩ := Option.some.inj hg
    have hgw := World.block_lt_of_cell? _ _ c0
    have hr : Ref.new L i sl = L ++ [⟨i, L[i].size, L[i].slots, []⟩] := by
      unfold Ref.new
      rw [if_pos hk, Ref.get_at L i hi]
    rw [hr]
    generalize L[i].size = sz at c1 ⊢
    generalize L[i].slots = sl at c2 ⊢
    have hT0 := halloc_at w (.cells #[.int .i64 (i : Int), .int .i64 sz, .int .i64 sl, .slice none 0 0] 84)
    have KW := Keeps.alloc (fun _ => False) w (.cells #[.int .i64 (i : Int), .int .i64 sz, .int .i64 sl, .slice none 0 0] 84)
    have hV1 := hV.keeps KW (fun _ _ => id)
    have hib : (i : Int) < V.length := by omega
    have hl' : V.length ≤ 1000000 := by omega
    have HLEN := Lib.hid hlen
    have hvc : V.length ≤ c := by
      rcases hV.own.form with ⟨hx, _⟩ | ⟨g, cur, hx, hh, hnc, _⟩
      · cases hx
      · exact hnc
    clear hlen
    go_enter Try.func51, Try.ntmps51
    go_wp2_with fail
    generalize w.alloc (.cells #[.int .i64 (i : Int), .int .i64 sz, .int .i64 sl, .slice none 0 0] 84) = W1 at hT0 KW hV1 ⊢
    have hw : w.heap.size ≤ W1.heap.size := KW.size
    have htl : w.heap.size < W1.heap.size := lt_of_heap hT0
    have hTA : ((W1.alloc (.cells #[] 84)).drew).heap[w.heap.size]? = some (.cells #[.int .i64 (i : Int), .int .i64 sz, .int .i64 sl, .slice none 0 0] 84 (0, 0)) := (halloc_old W1 (.cells #[] 84) htl).trans hT0
    have tA0 := cell_of (i := 0) hTA rfl
    have tA1 := cell_of (i := 1) hTA rfl
    have tA2 := cell_of (i := 2) hTA rfl
    have tA3 := cell_of (i := 3) hTA rfl
    have hT1 : (W1.drew).heap[w.heap.size]? = some (.cells #[.int .i64 (i : Int), .int .i64 sz, .int .i64 sl, .slice none 0 0] 84 (0, 0)) := hT0
    have t0 := cell_of (i := 0) hT0 rfl
    have t1 := cell_of (i := 1) hT0 rfl
    have t2 := cell_of (i := 2) hT0 rfl
    have t3 := cell_of (i := 3) hT0 rfl
    have kA : Keeps (fun _ => False) W1 ((W1.alloc (.cells #[] 84)).drew) := (Keeps.alloc _ _ _).trans (Keeps.drew _ _)
    have kB : Keeps (fun _ => False) W1 (((W1.alloc (.cells #[] 84)).alloc (.cells #[.int .i64 (i : Int), .int .i64 sz, .int .i64 sl, .slice none 0 0] 84)).drew) := ((Keeps.alloc _ _ _).trans (Keeps.alloc _ _ _)).trans (Keeps.drew _ _)
    have kC : Keeps (fun _ => False) W1 (((W1.alloc (.cells #[.int .i64 (i : Int), .int .i64 sz, .int .i64 sl, .slice none 0 0] 84)).alloc (.cells #[] 84)).drew) := ((Keeps.alloc _ _ _).trans (Keeps.alloc _ _ _)).trans (Keeps.drew _ _)
    have ownA : Own ((W1.alloc (.cells #[] 84)).drew) 84 4 (some ⟨W1.heap.size, 0, none⟩) 0 0 [] := World.ownsRow_made W1 _ _ (Nat.zero_le _) (Nat.zero_le _) rfl
    have ownB : Own (((W1.alloc (.cells #[] 84)).alloc (.cells #[.int .i64 (i : Int), .int .i64 sz, .int .i64 sl, .slice none 0 0] 84)).drew) 84 4 (some ⟨W1.heap.size, 0, none⟩) 0 0 [] := ownA.keeps (Keeps.alloc (fun _ => False) _ _) (fun _ _ => id)
    have ownC : Own (((W1.alloc (.cells #[.int .i64 (i : Int), .int .i64 sz, .int .i64 sl, .slice none 0 0] 84)).alloc (.cells #[] 84)).drew) 84 4 (some ⟨W1.heap.size + 1, 0, none⟩) 0 0 [] := by
      have h1 : Own (((W1.alloc (.cells #[.int .i64 (i : Int), .int .i64 sz, .int .i64 sl, .slice none 0 0] 84)).alloc (.cells #[] 84)).drew) 84 4 (some ⟨(W1.alloc (.cells #[.int .i64 (i : Int), .int .i64 sz, .int .i64 sl, .slice none 0 0] 84)).heap.size, 0, none⟩) 0 0 [] := World.ownsRow_made (W1.alloc (.cells #[.int .i64 (i : Int), .int .i64 sz, .int .i64 sl, .slice none 0 0] 84)) _ _ (Nat.zero_le _) (Nat.zero_le _) rfl
      rw [World.size_alloc] at h1
      exact h1
    have newB : ∀ j u, (RC.cells ⟨(i : Int), sz, sl, none, 0, 0⟩)[j]? = some u → (((W1.alloc (.cells #[] 84)).alloc (.cells #[.int .i64 (i : Int), .int .i64 sz, .int .i64 sl, .slice none 0 0] 84)).drew).cell? ((⟨W1.heap.size + 1, 0, none⟩ : Addr).add j) = some u := by
      have h1 := rc_news (W1.alloc (.cells #[] 84)) ⟨(i : Int), sz, sl, none, 0, 0⟩
      rw [World.size_alloc] at h1
      exact h1
    have newC : ∀ j u, (RC.cells ⟨(i : Int), sz, sl, none, 0, 0⟩)[j]? = some u → (((W1.alloc (.cells #[.int .i64 (i : Int), .int .i64 sz, .int .i64 sl, .slice none 0 0] 84)).alloc (.cells #[] 84)).drew).cell? ((⟨W1.heap.size, 0, none⟩ : Addr).add j) = some u := fun j u hu =>
      (World.cell?_alloc_lt _ _ _ (by rw [Addr.add_lit]; simp)).trans (rc_news W1 ⟨(i : Int), sz, sl, none, 0, 0⟩ j u hu)
    have cellsA := (hV1.keeps kA (fun _ _ => id)).cells
    have cellsB := (hV1.keeps kB (fun _ _ => id)).cells
    have cellsC := (hV1.keeps kC (fun _ _ => id)).cells
    have hm1 : 0 + V.length ≤ maxLen := by unfold maxLen; omega
    have hm2 : (0 + V.length) * 48 ≤ 140737488355328 := by omega
    have hm5 : V.length + 1 ≤ maxLen := by unfold maxLen; omega
    have hm6 : (V.length + 1) * 48 ≤ 140737488355328 := by omega
    have ne0 : ¬ (blk (some (⟨W1.heap.size, 0, none⟩ : Addr)) = some w.heap.size) := fun e => absurd (show W1.heap.size = w.heap.size from Option.some.inj e) (by omega)
    have neB : ¬ (blk (some (⟨W1.heap.size, 0, none⟩ : Addr)) = some (W1.heap.size + 1)) := fun e => absurd (show W1.heap.size = W1.heap.size + 1 from Option.some.inj e) (by omega)
    have neC : ¬ (blk (some (⟨W1.heap.size + 1, 0, none⟩ : Addr)) = some W1.heap.size) := fun e => absurd (show W1.heap.size + 1 = W1.heap.size from Option.some.inj e) (by omega)
    have b0 : ∀ i, i < W1.heap.size → blk (some (⟨W1.heap.size, 0, none⟩ : Addr)) = some i → False := fun i hi e => absurd (show W1.heap.size = i from Option.some.inj e) (by omega)
    have b1 : ∀ i, i < W1.heap.size → blk (some (⟨W1.heap.size + 1, 0, none⟩ : Addr)) = some i → False := fun i hi e => absurd (show W1.heap.size + 1 = i from Option.some.inj e) (by omega)
    have g0 : ∀ g, blk (some (⟨W1.heap.size, 0, none⟩ : Addr)) = some g → W1.heap.size ≤ g := fun g e => Nat.le_of_eq (Option.some.inj e)
    have g1 : ∀ g, blk (some (⟨W1.heap.size + 1, 0, none⟩ : Addr)) = some g → W1.heap.size ≤ g := fun g e => by have e' : W1.heap.size + 1 = g := Option.some.inj e; omega
    have qA : ∀ w3, Keeps (fun k => blk (some (⟨W1.heap.size, 0, none⟩ : Addr)) = some k) ((W1.alloc (.cells #[] 84)).drew) w3 → w3.cell? ⟨w.heap.size, 0, none⟩ = some (.int .i64 (i : Int)) ∧ w3.cell? ⟨w.heap.size, 1, none⟩ = some (.int .i64 sz) ∧ w3.cell? ⟨w.heap.size, 2, none⟩ = some (.int .i64 sl) ∧ w3.cell? ⟨w.heap.size, 3, none⟩ = some (.slice none 0 0) :=
      fun w3 k3 => ⟨k3.cell tA0 ne0, k3.cell tA1 ne0, k3.cell tA2 ne0, k3.cell tA3 ne0⟩
    have qB : ∀ w3, Keeps (fun k => blk (some (⟨W1.heap.size, 0, none⟩ : Addr)) = some k) (((W1.alloc (.cells #[] 84)).alloc (.cells #[.int .i64 (i : Int), .int .i64 sz, .int .i64 sl, .slice none 0 0] 84)).drew) w3 → ∀ j u, (RC.cells ⟨(i : Int), sz, sl, none, 0, 0⟩)[j]? = some u → w3.cell? ((⟨W1.heap.size + 1, 0, none⟩ : Addr).add j) = some u := fun w3 k3 j u hu => k3.cell (newB j u hu) (by rw [Addr.add_lit]; exact neB)
    have qC : ∀ w3, Keeps (fun k => blk (some (⟨W1.heap.size + 1, 0, none⟩ : Addr)) = some k) (((W1.alloc (.cells #[.int .i64 (i : Int), .int .i64 sz, .int .i64 sl, .slice none 0 0] 84)).alloc (.cells #[] 84)).drew) w3 → ∀ j u, (RC.cells ⟨(i : Int), sz, sl, none, 0, 0⟩)[j]? = some u → w3.cell? ((⟨W1.heap.size, 0, none⟩ : Addr).add j) = some u := fun w3 k3 j u hu => k3.cell (newC j u hu) (by rw [Addr.add_lit]; exact neC)
    have sA := kA.size
    have sB := kB.size
    have sC := kC.size
    go_region_law (first
      | (refine step_app rfl (.tmp 25) (.tmp 26) 47 rfl 84 _ 4 48 Try.underlying47 infoRC rfl (by decide) _ 0 0 [] rfl ?_ ⟨g, 0, none⟩ V.length c (V.flatMap RC.cells) rfl (rc_len V) ?_ (rc_ones V) hm1 hm2 ?_
         (first | with_reducible exact ownA | with_reducible exact ownB | with_reducible exact ownC)
         (first | with_reducible exact cellsA | with_reducible exact cellsB | with_reducible exact cellsC)
         intro a3 c3 w3 o3 k3 l3
         have o3' : Own w3 84 4 a3 V.length c3 (V.flatMap RC.cells) := by rw [Nat.zero_add] at o3; exact o3
         have kw3 : Keeps (fun _ => False) W1 w3 := by first
           | with_reducible exact kA.trans' k3 b0
           | with_reducible exact kB.trans' k3 b0
           | with_reducible exact kC.trans' k3 b1
         have nw3 : ∀ g, blk a3 = some g → W1.heap.size ≤ g := by first
           | with_reducible exact past_new _ g0 sA l3
           | with_reducible exact past_new _ g0 sB l3
           | with_reducible exact past_new _ g1 sC l3
         first
           | (have qq : w3.cell? ⟨w.heap.size, 0, none⟩ = some (.int .i64 (i : Int)) ∧ w3.cell? ⟨w.heap.size, 1, none⟩ = some (.int .i64 sz) ∧ w3.cell? ⟨w.heap.size, 2, none⟩ = some (.int .i64 sl) ∧ w3.cell? ⟨w.heap.size, 3, none⟩ = some (.slice none 0 0) := by with_reducible exact qA w3 k3
              obtain ⟨q0, q1, q2, q3⟩ := qq)
           | (have nw : ∀ j u, (RC.cells ⟨(i : Int), sz, sl, none, 0, 0⟩)[j]? = some u → w3.cell? ((⟨W1.heap.size + 1, 0, none⟩ : Addr).add j) = some u := by with_reducible exact qB w3 k3)
           | (have nw : ∀ j u, (RC.cells ⟨(i : Int), sz, sl, none, 0, 0⟩)[j]? = some u → w3.cell? ((⟨W1.heap.size, 0, none⟩ : Addr).add j) = some u := by with_reducible exact qC w3 k3)
         clear o3 k3 l3)
      | (refine step_app rfl (.tmp 27) (.tmp 29) 47 rfl 84 _ 4 48 Try.underlying47 infoRC rfl (by decide) _ V.length c3 (V.flatMap RC.cells) rfl ?_ ⟨_, 0, none⟩ 1 1 (RC.cells ⟨(i : Int), sz, sl, none, 0, 0⟩) rfl rfl ?_ (rc_one _) hm5 hm6 ?_
         (first | with_reducible exact o3' | with_reducible exact o3'.keeps (Keeps.alloc (fun _ => False) _ _) (fun _ _ => id))
         (first | with_reducible exact nw | exact rc_news w3 ⟨(i : Int), sz, sl, none, 0, 0⟩)
         intro a4 c4 w4 o4 k4 l4
         have hw3 := kw3.size
         have bw3 : ∀ i, i < w.heap.size → blk a3 = some i → False := fun i hi e => absurd (nw3 i e) (by omega)
         have kw4 : Keeps (fun _ => False) w w4 := by first
           | with_reducible exact (KW.trans kw3).trans' k4 bw3
           | with_reducible exact ((KW.trans kw3).trans (Keeps.alloc _ _ _)).trans' k4 bw3
         have nw3' : ∀ g, blk a3 = some g → w.heap.size ≤ g := fun g hg => Nat.le_trans hw (nw3 g hg)
         have ks1 := (KW.trans kw3).size
         have ks2 := ((KW.trans kw3).trans (Keeps.alloc (fun _ => False) w3 (.cells #[.int .i64 (i : Int), .int .i64 sz, .int .i64 sl, .slice none 0 0] 84))).size
         have nb4 : ∀ g, blk a4 = some g → w.heap.size ≤ g := by first
           | with_reducible exact past_new _ nw3' ks1 l4
           | with_reducible exact past_new _ nw3' ks2 l4
         have HP := Lib.hid (H.out.snoc kw4 ⟨(i : Int), sz, sl, none, 0, 0⟩ ⟨(i : Int), sz, sl, []⟩ (rc_is_nil N w4 (i : Int) sz sl) o4 nb4 hN rfl)
         have HKP := Lib.hid kw4
         clear o4 k4 l4 kw4 nb4 o3'))
    all_goals
      go_wp2_with fail
      go_ret
      refine ⟨a4, c4, ?_, ⟨rfl, V ++ [⟨(i : Int), sz, sl, none, 0, 0⟩], HP.out⟩, HKP.out⟩
      rw [List.length_append, ← HLEN.out]; rfl
  · have hr : Ref.new L k sl = L ++ [⟨k, 8, sl, []⟩] := by
      unfold Ref.new
      rw [if_neg hk]
    rw [hr]
    have hk' : k < 0 := by omega
    obtain ⟨sz, hsz⟩ : ∃ sz : Int, sz = 8 := ⟨_, rfl⟩
    rw [← hsz]
    have hT0 := halloc_at w (.cells #[.int .i64 k, .int .i64 8, .int .i64 sl, .slice none 0 0] 84)
    have KW := Keeps.alloc (fun _ => False) w (.cells #[.int .i64 k, .int .i64 8, .int .i64 sl, .slice none 0 0] 84)
    have hV1 := hV.keeps KW (fun _ _ => id)
    rw [← hsz] at hT0 KW hV1
    have hl' : V.length ≤ 1000000 := by omega
    have HLEN := Lib.hid hlen
    have HSZ := Lib.hid hsz
    have hvc : V.length ≤ c := by
      rcases hV.own.form with ⟨hx, _⟩ | ⟨g, cur, hx, hh, hnc, _⟩
      · cases hx
      · exact hnc
    clear hlen hsz hk
    go_enter Try.func51, Try.ntmps51
    go_wp2_with fail
    rw [← HSZ.out]
    generalize w.alloc (.cells #[.int .i64 k, .int .i64 sz, .int .i64 sl, .slice none 0 0] 84) = W1 at hT0 KW hV1 ⊢
    have hw : w.heap.size ≤ W1.heap.size := KW.size
    have htl : w.heap.size < W1.heap.size := lt_of_heap hT0
    have hTA : ((W1.alloc (.cells #[] 84)).drew).heap[w.heap.size]? = some (.cells #[.int .i64 k, .int .i64 sz, .int .i64 sl, .slice none 0 0] 84 (0, 0)) := (halloc_old W1 (.cells #[] 84) htl).trans hT0
    have tA0 := cell_of (i := 0) hTA rfl
    have tA1 := cell_of (i := 1) hTA rfl
    have tA2 := cell_of (i := 2) hTA rfl
    have tA3 := cell_of (i := 3) hTA rfl
    have hT1 : (W1.drew).heap[w.heap.size]? = some (.cells #[.int .i64 k, .int .i64 sz, .int .i64 sl, .slice none 0 0] 84 (0, 0)) := hT0
    have t0 := cell_of (i := 0) hT0 rfl
    have t1 := cell_of (i := 1) hT0 rfl
    have t2 := cell_of (i := 2) hT0 rfl
    have t3 := cell_of (i := 3) hT0 rfl
    have kA : Keeps (fun _ => False) W1 ((W1.alloc (.cells #[] 84)).drew) := (Keeps.alloc _ _ _).trans (Keeps.drew _ _)
    have kB : Keeps (fun _ => False) W1 (((W1.alloc (.cells #[] 84)).alloc (.cells #[.int .i64 k, .int .i64 sz, .int .i64 sl, .slice none 0 0] 84)).drew) := ((Keeps.alloc _ _ _).trans (Keeps.alloc _ _ _)).trans (Keeps.drew _ _)
    have kC : Keeps (fun _ => False) W1 (((W1.alloc (.cells #[.int .i64 k, .int .i64 sz, .int .i64 sl, .slice none 0 0] 84)).alloc (.cells #[] 84)).drew) := ((Keeps.alloc _ _ _).trans (Keeps.alloc _ _ _)).trans (Keeps.drew _ _)
    have ownA : Own ((W1.alloc (.cells #[] 84)).drew) 84 4 (some ⟨W1.heap.size, 0, none⟩) 0 0 [] := World.ownsRow_made W1 _ _ (Nat.zero_le _) (Nat.zero_le _) rfl
    have ownB : Own (((W1.alloc (.cells #[] 84)).alloc (.cells #[.int .i64 k, .int .i64 sz, .int .i64 sl, .slice none 0 0] 84)).drew) 84 4 (some ⟨W1.heap.size, 0, none⟩) 0 0 [] := ownA.keeps (Keeps.alloc (fun _ => False) _ _) (fun _ _ => id)
    have ownC : Own (((W1.alloc (.cells #[.int .i64 k, .int .i64 sz, .int .i64 sl, .slice none 0 0] 84)).alloc (.cells #[] 84)).drew) 84 4 (some ⟨W1.heap.size + 1, 0, none⟩) 0 0 [] := by
      have h1 : Own (((W1.alloc (.cells #[.int .i64 k, .int .i64 sz, .int .i64 sl, .slice none 0 0] 84)).alloc (.cells #[] 84)).drew) 84 4 (some ⟨(W1.alloc (.cells #[.int .i64 k, .int .i64 sz, .int .i64 sl, .slice none 0 0] 84)).heap.size, 0, none⟩) 0 0 [] := World.ownsRow_made (W1.alloc (.cells #[.int .i64 k, .int .i64 sz, .int .i64 sl, .slice none 0 0] 84)) _ _ (Nat.zero_le _) (Nat.zero_le _) rfl
      rw [World.size_alloc] at h1
      exact h1
    have newB : ∀ j u, (RC.cells ⟨k, sz, sl, none, 0, 0⟩)[j]? = some u → (((W1.alloc (.cells #[] 84)).alloc (.cells #[.int .i64 k, .int .i64 sz, .int .i64 sl, .slice none 0 0] 84)).drew).cell? ((⟨W1.heap.size + 1, 0, none⟩ : Addr).add j) = some u := by
      have h1 := rc_news (W1.alloc (.cells #[] 84)) ⟨k, sz, sl, none, 0, 0⟩
      rw [World.size_alloc] at h1
      exact h1
    have newC : ∀ j u, (RC.cells ⟨k, sz, sl, none, 0, 0⟩)[j]? = some u → (((W1.alloc (.cells #[.int .i64 k, .int .i64 sz, .int .i64 sl, .slice none 0 0] 84)).alloc (.cells #[] 84)).drew).cell? ((⟨W1.heap.size, 0, none⟩ : Addr).add j) = some u := fun j u hu =>
      (World.cell?_alloc_lt _ _ _ (by rw [Addr.add_lit]; simp)).trans (rc_news W1 ⟨k, sz, sl, none, 0, 0⟩ j u hu)
    have cellsA := (hV1.keeps kA (fun _ _ => id)).cells
    have cellsB := (hV1.keeps kB (fun _ _ => id)).cells
    have cellsC := (hV1.keeps kC (fun _ _ => id)).cells
    have hm1 : 0 + V.length ≤ maxLen := by unfold maxLen; omega
    have hm2 : (0 + V.length) * 48 ≤ 140737488355328 := by omega
    have hm5 : V.length + 1 ≤ maxLen := by unfold maxLen; omega
    have hm6 : (V.length + 1) * 48 ≤ 140737488355328 := by omega
    have ne0 : ¬ (blk (some (⟨W1.heap.size, 0, none⟩ : Addr)) = some w.heap.size) := fun e => absurd (show W1.heap.size = w.heap.size from Option.some.inj e) (by omega)
    have neB : ¬ (blk (some (⟨W1.heap.size, 0, none⟩ : Addr)) = some (W1.heap.size + 1)) := fun e => absurd (show W1.heap.size = W1.heap.size + 1 from Option.some.inj e) (by omega)
    have neC : ¬ (blk (some (⟨W1.heap.size + 1, 0, none⟩ : Addr)) = some W1.heap.size) := fun e => absurd (show W1.heap.size + 1 = W1.heap.size from Option.some.inj e) (by omega)
    have b0 : ∀ i, i < W1.heap.size → blk (some (⟨W1.heap.size, 0, none⟩ : Addr)) = some i → False := fun i hi e => absurd (show W1.heap.size = i from Option.some.inj e) (by omega)
    have b1 : ∀ i, i < W1.heap.size → blk (some (⟨W1.heap.size + 1, 0, none⟩ : Addr)) = some i → False := fun i hi e => absurd (show W1.heap.size + 1 = i from Option.some.inj e) (by omega)
    have g0 : ∀ g, blk (some (⟨W1.heap.size, 0, none⟩ : Addr)) = some g → W1.heap.size ≤ g := fun g e => Nat.le_of_eq (Option.some.inj e)
    have g1 : ∀ g, blk (some (⟨W1.heap.size + 1, 0, none⟩ : Addr)) = some g → W1.heap.size ≤ g := fun g e => by have e' : W1.heap.size + 1 = g := Option.some.inj e; omega
    have qA : ∀ w3, Keeps (fun k => blk (some (⟨W1.heap.size, 0, none⟩ : Addr)) = some k) ((W1.alloc (.cells #[] 84)).drew) w3 → w3.cell? ⟨w.heap.size, 0, none⟩ = some (.int .i64 k) ∧ w3.cell? ⟨w.heap.size, 1, none⟩ = some (.int .i64 sz) ∧ w3.cell? ⟨w.heap.size, 2, none⟩ = some (.int .i64 sl) ∧ w3.cell? ⟨w.heap.size, 3, none⟩ = some (.slice none 0 0) :=
      fun w3 k3 => ⟨k3.cell tA0 ne0, k3.cell tA1 ne0, k3.cell tA2 ne0, k3.cell tA3 ne0⟩
    have qB : ∀ w3, Keeps (fun k => blk (some (⟨W1.heap.size, 0, none⟩ : Addr)) = some k) (((W1.alloc (.cells #[] 84)).alloc (.cells #[.int .i64 k, .int .i64 sz, .int .i64 sl, .slice none 0 0] 84)).drew) w3 → ∀ j u, (RC.cells ⟨k, sz, sl, none, 0, 0⟩)[j]? = some u → w3.cell? ((⟨W1.heap.size + 1, 0, none⟩ : Addr).add j) = some u := fun w3 k3 j u hu => k3.cell (newB j u hu) (by rw [Addr.add_lit]; exact neB)
    have qC : ∀ w3, Keeps (fun k => blk (some (⟨W1.heap.size + 1, 0, none⟩ : Addr)) = some k) (((W1.alloc (.cells #[.int .i64 k, .int .i64 sz, .int .i64 sl, .slice none 0 0] 84)).alloc (.cells #[] 84)).drew) w3 → ∀ j u, (RC.cells ⟨k, sz, sl, none, 0, 0⟩)[j]? = some u → w3.cell? ((⟨W1.heap.size, 0, none⟩ : Addr).add j) = some u := fun w3 k3 j u hu => k3.cell (newC j u hu) (by rw [Addr.add_lit]; exact neC)
    have sA := kA.size
    have sB := kB.size
    have sC := kC.size
    go_region_law (first
      | (refine step_app rfl (.tmp 25) (.tmp 26) 47 rfl 84 _ 4 48 Try.underlying47 infoRC rfl (by decide) _ 0 0 [] rfl ?_ ad V.length c (V.flatMap RC.cells) rfl (rc_len V) ?_ (rc_ones V) hm1 hm2 ?_
         (first | with_reducible exact ownA | with_reducible exact ownB | with_reducible exact ownC)
         (first | with_reducible exact cellsA | with_reducible exact cellsB | with_reducible exact cellsC)
         intro a3 c3 w3 o3 k3 l3
         have o3' : Own w3 84 4 a3 V.length c3 (V.flatMap RC.cells) := by rw [Nat.zero_add] at o3; exact o3
         have kw3 : Keeps (fun _ => False) W1 w3 := by first
           | with_reducible exact kA.trans' k3 b0
           | with_reducible exact kB.trans' k3 b0
           | with_reducible exact kC.trans' k3 b1
         have nw3 : ∀ g, blk a3 = some g → W1.heap.size ≤ g := by first
           | with_reducible exact past_new _ g0 sA l3
           | with_reducible exact past_new _ g0 sB l3
           | with_reducible exact past_new _ g1 sC l3
         first
           | (have qq : w3.cell? ⟨w.heap.size, 0, none⟩ = some (.int .i64 k) ∧ w3.cell? ⟨w.heap.size, 1, none⟩ = some (.int .i64 sz) ∧ w3.cell? ⟨w.heap.size, 2, none⟩ = some (.int .i64 sl) ∧ w3.cell? ⟨w.heap.size, 3, none⟩ = some (.slice none 0 0) := by with_reducible exact qA w3 k3
              obtain ⟨q0, q1, q2, q3⟩ := qq)
           | (have nw : ∀ j u, (RC.cells ⟨k, sz, sl, none, 0, 0⟩)[j]? = some u → w3.cell? ((⟨W1.heap.size + 1, 0, none⟩ : Addr).add j) = some u := by with_reducible exact qB w3 k3)
           | (have nw : ∀ j u, (RC.cells ⟨k, sz, sl, none, 0, 0⟩)[j]? = some u → w3.cell? ((⟨W1.heap.size, 0, none⟩ : Addr).add j) = some u := by with_reducible exact qC w3 k3)
         clear o3 k3 l3)
      | (refine step_app rfl (.tmp 27) (.tmp 29) 47 rfl 84 _ 4 48 Try.underlying47 infoRC rfl (by decide) _ V.length c3 (V.flatMap RC.cells) rfl ?_ ⟨_, 0, none⟩ 1 1 (RC.cells ⟨k, sz, sl, none, 0, 0⟩) rfl rfl ?_ (rc_one _) hm5 hm6 ?_
         (first | with_reducible exact o3' | with_reducible exact o3'.keeps (Keeps.alloc (fun _ => False) _ _) (fun _ _ => id))
         (first | with_reducible exact nw | exact rc_news w3 ⟨k, sz, sl, none, 0, 0⟩)
         intro a4 c4 w4 o4 k4 l4
         have hw3 := kw3.size
         have bw3 : ∀ i, i < w.heap.size → blk a3 = some i → False := fun i hi e => absurd (nw3 i e) (by omega)
         have kw4 : Keeps (fun _ => False) w w4 := by first
           | with_reducible exact (KW.trans kw3).trans' k4 bw3
           | with_reducible exact ((KW.trans kw3).trans (Keeps.alloc _ _ _)).trans' k4 bw3
         have nw3' : ∀ g, blk a3 = some g → w.heap.size ≤ g := fun g hg => Nat.le_trans hw (nw3 g hg)
         have ks1 := (KW.trans kw3).size
         have ks2 := ((KW.trans kw3).trans (Keeps.alloc (fun _ => False) w3 (.cells #[.int .i64 k, .int .i64 sz, .int .i64 sl, .slice none 0 0] 84))).size
         have nb4 : ∀ g, blk a4 = some g → w.heap.size ≤ g := by first
           | with_reducible exact past_new _ nw3' ks1 l4
           | with_reducible exact past_new _ nw3' ks2 l4
         have HP := Lib.hid (H.out.snoc kw4 ⟨k, sz, sl, none, 0, 0⟩ ⟨k, sz, sl, []⟩ (rc_is_nil N w4 k sz sl) o4 nb4 hN rfl)
         have HKP := Lib.hid kw4
         clear o4 k4 l4 kw4 nb4 o3'))
    all_goals
      go_wp2_with fail
      go_ret
      refine ⟨a4, c4, ?_, ⟨rfl, V ++ [⟨k, sz, sl, none, 0, 0⟩], HP.out⟩, HKP.out⟩
      rw [List.length_append, ← HLEN.out]; rfl
end Go.Proofs.Shed
