/- ObjectSends: the walk of its switch: an object that is freed. Conditions: the state is the loop's. -/
import Derived.Test.YthhfkhhhclmimaaSwE
import Derived.Deep.CutRange
import Derived.IntWalk
import Derived.StillTailTactics
set_option linter.unusedVariables false
set_option linter.unusedSimpArgs false
set_option maxRecDepth 1000000
set_option maxHeartbeats 8000000
namespace Go.Proofs.Shed
open Go Go.RowKit Go.Proofs.K

theorem own_empty (w : World) : Own (w.alloc (.cells #[] 90)).drew 90 3 (some ⟨w.heap.size, 0, none⟩) 0 0 [] :=
  ⟨rfl, .inr ⟨w.heap.size, 0, #[], rfl, Nat.zero_le _, halloc_at w (.cells #[] 90), Nat.le_refl _, Nat.zero_le _, rfl, rfl⟩⟩
theorem thing_split (O : List Thing) (q : Nat) : thingV O = thingV (O.take q) ++ thingV (O.drop q) := by rw [← thingV_app, List.take_append_drop]
theorem thing_take {w : World} {g c : Nat} {O : List Thing} (h : OwnT w (some ⟨g, 0, none⟩) c O) (q : Nat) : ∀ j u, (thingV (O.take q))[j]? = some u → w.cell? ((⟨g, 0, none⟩ : Addr).add j) = some u := by
  intro j u hu
  rw [Addr.add_lit, Nat.zero_add]
  refine Own.cell h ?_
  rw [thing_split O q, List.getElem?_append_left (List.getElem?_eq_some_iff.1 hu).1]
  exact hu
theorem thing_drop {w : World} {g c : Nat} {O : List Thing} (h : OwnT w (some ⟨g, 0, none⟩) c O) (q : Nat) (hq : q ≤ O.length) : ∀ j u, (thingV (O.drop q))[j]? = some u → w.cell? ((⟨g, q * 3, none⟩ : Addr).add j) = some u := by
  intro j u hu
  rw [Addr.add_lit]
  refine Own.cell h ?_
  have hl : (thingV (O.take q)).length = q * 3 := by rw [thingV_len, List.length_take]; omega
  rw [thing_split O q, List.getElem?_append_right (by omega), hl, show q * 3 + j - q * 3 = j by omega]
  exact hu
theorem thing_cells (O : List Thing) : ∀ u ∈ thingV O, u.oneCell' = true := by
  intro u hu
  unfold thingV at hu
  rw [List.mem_flatMap] at hu
  obtain ⟨o, _, ho⟩ := hu
  exact thing_one o u ho
theorem sw_free {Q0 : Exit → Go.Act → World → Prop} {W : World} {u0 u1 u2 u5 u8 u13 u14 u15 u16 u17 u18 u19 u20 u21 u22 u23 u24 u25 u26 u27 u28 u29 u30 u31 u32 u33 u34 u35 u36 u37 u38 u39 u40 u41 u42 u43 u44 u45 u46 u47 u48 u49 u50 u51 u52 u53 u54 u55 u56 u57 u58 u59 u60 u61 u62 u63 u64 u65 u66 u67 u68 u69 u70 u71 u72 u73 u74 u75 u76 u77 u78 u79 u80 u81 u82 u83 u84 u85 u86 u87 u88 u89 u90 u91 u92 u93 u94 u95 u96 u97 u98 u99 u100 u101 u102 u103 u104 u105 u106 u107 u108 u109 u110 u111 u112 u113 u114 u115 u116 u117 u118 u119 u120 u121 u122 u123 u124 u125 u126 u127 u128 u129 u130 u131 u132 u133 u134 u135 u136 u137 u138 u139 u140 u141 u142 u143 u144 u145 u146 u147 u148 u149 u150 u151 u152 u153 u154 u155 u156 u157 u158 u159 u160 u161 u162 u163 u164 u165 u166 u167 u168 u169 u170 u171 u172 u173 u174 u175 u176 u177 u178 u179 u180 u181 u182 u183 u184 u185 u186 u187 u188 u189 u190 u191 u192 u193 u194 u195 u196 u197 u198 u199 u200 u201 u202 u203 u204 u205 u206 u207 u208 u209 u210 u211 u212 u213 u214 u215 u216 u217 u218 u219 u220 u221 u222 u223 u224 u225 u226 u227 u228 u229 u230 u231 u232 u233 u234 u235 u236 u237 u238 u239 u240 u241 u242 u243 u244 u245 u246 u247 u248 u249 u250 u251 u252 u253 u254 u255 u256 u257 u258 u259 u260 u261 u262 u263 u264 u265 u266 u267 u268 u269 u270 u271 u272 u273 u274 u275 u276 u277 u278 u279 u280 u281 u282 u283 u284 u285 u286 u287 u288 u289 u290 u291 u292 u293 u294 u295 u296 u297 u298 u299 u300 u301 u302 u303 u304 u305 u306 u307 u308 u309 u310 u311 u312 u313 u314 u315 u316 u317 u318 u319 u320 u321 u322 u323 u324 u325 u326 u327 : Value} {B0 ab wb s b bb h mb i n : Nat} {x : Sp} {A T : List Int} {L : List RCls} {B : List Blk} {O : List Thing} {gA cA : Nat} {aL : Option Addr} {cL : Nat} {aT : Option Addr} {cT : Nat} {f : Int → Bool}
    {kind p cc sel xt k : Nat} {sl : Int} (q1 : kind < 256) (q5 : xt < 256) (hkl : k < A.length) (hi : i < 60) (hs0 : 1 ≤ sl) (hs1 : sl ≤ 8)
    (SA : Hid (Sends B0 W wb s b bb h mb i n x A T L B B O O (some ⟨gA, 0, none⟩) cA aL cL aT cT f)) (hn : n ≤ i) (hO : O.length ≤ i) (hga : W.cell? ⟨gA, k, none⟩ = some (.int .i64 (Class.nth A k)))
    (HC : Hid (W.heap[ab]? = some (.cells #[.int .u8 kind, .int .u8 p, .int .u8 cc, .int .u8 sel, .int .u8 xt] 81 (0, 0))))
    (hkind : (kind : Int) % 7 = 5 ∧ 0 < O.length) (hab : ¬ ab = bb ∧ ¬ ab = s ∧ ¬ ab = mb ∧ ¬ blk aT = some ab)
    (hQ : ∀ (v6 n13 n14 n15 n16 n17 n18 n19 n20 n86 n87 n88 n89 n90 n91 n92 n93 n94 n95 n96 n97 n98 n99 n100 n101 n102 n103 n104 n105 n106 n107 n108 n109 n110 n111 n112 n113 n114 n115 n116 n117 n118 n119 n120 n121 n122 n123 n124 n125 n126 n127 n128 n129 n130 n131 n132 n133 n134 n135 n136 n137 n138 n139 n140 n141 n142 n143 n144 n145 n146 n147 n148 n149 n150 n151 n152 n153 n154 n155 n156 n157 n158 n159 n160 n161 n162 n163 n164 n165 n166 n167 n168 n169 n170 n171 n172 n173 n174 n175 n176 n177 n178 n179 n180 n181 n182 n183 n184 n185 n186 n187 n188 n189 n190 n191 n192 n193 n194 n195 n196 n197 n198 n199 n200 n201 n202 n203 n204 n205 n206 n207 n208 n209 n210 n211 n212 n213 n214 n215 n216 n217 n218 n219 n220 n221 n222 n223 n224 n225 n226 n227 n228 n229 n230 n231 n232 n233 n234 n235 n236 n237 n238 n239 n240 n241 n242 n243 n244 n245 n246 n247 n248 n249 n250 n251 n252 n253 n254 n255 n256 n257 n258 n259 n260 n261 n262 n263 n264 n265 n266 n267 n268 n269 n270 n271 n272 n273 n274 n275 n276 n277 n278 n279 n280 n281 n282 n283 n284 n285 n286 n287 n288 n289 n290 n291 n292 n293 n294 n295 n296 n297 n298 n299 n300 n301 n302 n303 n304 n305 n306 n307 n308 n309 n310 n311 n312 n313 n314 : Value) (w' : World), SendsV B0 w' wb s b bb h mb (i + 1) v6 ∧ Keeps (fun g => B0 ≤ g) W w' → Q0 .normal ⟨#[u0, u1, u2, .pointer (some ⟨wb, 0, none⟩), .pointer (some ⟨h, 0, none⟩), u5, v6, .map (some mb), u8, .pointer (some ⟨ab, 0, none⟩), .int .i64 (k : Int), .int .i64 sl, .int .i64 (p : Int), n13, n14, n15, n16, n17, n18, n19, n20, u21, u22, u23, u24, u25, u26, u27, u28, u29, u30, u31, u32, u33, u34, u35, u36, u37, u38, u39, u40, u41, u42, u43, u44, u45, u46, u47, u48, u49, u50, u51, u52, u53, u54, u55, u56, u57, u58, u59, u60, u61, u62, u63, u64, u65, u66, u67, u68, u69, u70, u71, u72, u73, u74, u75, u76, u77, u78, u79, u80, u81, u82, u83, u84, u85, n86, n87, n88, n89, n90, n91, n92, n93, n94, n95, n96, n97, n98, n99, n100, n101, n102, n103, n104, n105, n106, n107, n108, n109, n110, n111, n112, n113, n114, n115, n116, n117, n118, n119, n120, n121, n122, n123, n124, n125, n126, n127, n128, n129, n130, n131, n132, n133, n134, n135, n136, n137, n138, n139, n140, n141, n142, n143, n144, n145, n146, n147, n148, n149, n150, n151, n152, n153, n154, n155, n156, n157, n158, n159, n160, n161, n162, n163, n164, n165, n166, n167, n168, n169, n170, n171, n172, n173, n174, n175, n176, n177, n178, n179, n180, n181, n182, n183, n184, n185, n186, n187, n188, n189, n190, n191, n192, n193, n194, n195, n196, n197, n198, n199, n200, n201, n202, n203, n204, n205, n206, n207, n208, n209, n210, n211, n212, n213, n214, n215, n216, n217, n218, n219, n220, n221, n222, n223, n224, n225, n226, n227, n228, n229, n230, n231, n232, n233, n234, n235, n236, n237, n238, n239, n240, n241, n242, n243, n244, n245, n246, n247, n248, n249, n250, n251, n252, n253, n254, n255, n256, n257, n258, n259, n260, n261, n262, n263, n264, n265, n266, n267, n268, n269, n270, n271, n272, n273, n274, n275, n276, n277, n278, n279, n280, n281, n282, n283, n284, n285, n286, n287, n288, n289, n290, n291, n292, n293, n294, n295, n296, n297, n298, n299, n300, n301, n302, n303, n304, n305, n306, n307, n308, n309, n310, n311, n312, n313, n314, u315, u316, u317, u318, u319, u320, u321, u322, u323, u324, u325, u326, u327], []⟩ w') :
    Code.wp Try.prog sw Q0 ⟨#[u0, u1, u2, .pointer (some ⟨wb, 0, none⟩), .pointer (some ⟨h, 0, none⟩), u5, .slice aT O.length cT, .map (some mb), u8, .pointer (some ⟨ab, 0, none⟩), .int .i64 (k : Int), .int .i64 sl, .int .i64 (p : Int), u13, u14, u15, u16, u17, u18, u19, u20, u21, u22, u23, u24, u25, u26, u27, u28, u29, u30, u31, u32, u33, u34, u35, u36, u37, u38, u39, u40, u41, u42, u43, u44, u45, u46, u47, u48, u49, u50, u51, u52, u53, u54, u55, u56, u57, u58, u59, u60, u61, u62, u63, u64, u65, u66, u67, u68, u69, u70, u71, u72, u73, u74, u75, u76, u77, u78, u79, u80, u81, u82, u83, u84, u85, u86, u87, u88, u89, u90, u91, u92, u93, u94, u95, u96, u97, u98, u99, u100, u101, u102, u103, u104, u105, u106, u107, u108, u109, u110, u111, u112, u113, u114, u115, u116, u117, u118, u119, u120, u121, u122, u123, u124, u125, u126, u127, u128, u129, u130, u131, u132, u133, u134, u135, u136, u137, u138, u139, u140, u141, u142, u143, u144, u145, u146, u147, u148, u149, u150, u151, u152, u153, u154, u155, u156, u157, u158, u159, u160, u161, u162, u163, u164, u165, u166, u167, u168, u169, u170, u171, u172, u173, u174, u175, u176, u177, u178, u179, u180, u181, u182, u183, u184, u185, u186, u187, u188, u189, u190, u191, u192, u193, u194, u195, u196, u197, u198, u199, u200, u201, u202, u203, u204, u205, u206, u207, u208, u209, u210, u211, u212, u213, u214, u215, u216, u217, u218, u219, u220, u221, u222, u223, u224, u225, u226, u227, u228, u229, u230, u231, u232, u233, u234, u235, u236, u237, u238, u239, u240, u241, u242, u243, u244, u245, u246, u247, u248, u249, u250, u251, u252, u253, u254, u255, u256, u257, u258, u259, u260, u261, u262, u263, u264, u265, u266, u267, u268, u269, u270, u271, u272, u273, u274, u275, u276, u277, u278, u279, u280, u281, u282, u283, u284, u285, u286, u287, u288, u289, u290, u291, u292, u293, u294, u295, u296, u297, u298, u299, u300, u301, u302, u303, u304, u305, u306, u307, u308, u309, u310, u311, u312, u313, u314, u315, u316, u317, u318, u319, u320, u321, u322, u323, u324, u325, u326, u327], []⟩ W := by
  have h1 : ((kind : Int) % 7 == 1) = false := by simp [hkind]
  have h6 : ((kind : Int) % 7 == 6) = false := by simp [hkind]
  have h4 : decide ((kind : Int) % 7 < 4) = false := by simp [hkind]
  have h44 : ((kind : Int) % 7 == 4) = false := by simp [hkind]
  have hO1 : (0 : Int) < (O.length : Int) := by omega
  have hO0 : decide (0 < (O.length : Int)) = true := decide_eq_true (by omega)
  have hOn : 0 < O.length := hkind.2
  have hOe : ¬ O = [] := fun e => by rw [e] at hOn; exact absurd hOn (by simp)
  have hOz : ((O.length : Int) == 0) = false := by rw [beq_eq_false_iff_ne]; omega
  clear hkind
  obtain ⟨j, hj⟩ : ∃ j : Nat, (p : Int) % (O.length : Int) = j := ⟨((p : Int) % (O.length : Int)).toNat, by have := Int.emod_nonneg (p : Int) (b := (O.length : Int)) (by omega); omega⟩
  have hjl : j < O.length := by have := Int.emod_lt_of_pos (p : Int) hO1; omega
  have hjL : (j : Int) < (O.length : Int) := by omega
  have hj0 : (0 : Int) ≤ (j : Int) := by omega
  have hjt : (p : Int).tmod (O.length : Int) = j := by rw [Int.tmod_eq_emod_of_nonneg (by omega)]; exact hj
  have D0 := cell_of (i := 0) HC.out rfl
  obtain ⟨gT, rfl, hcT, t0, t1, t2⟩ := SA.out.all.at hjl
  obtain ⟨ll1, ll2⟩ := SA.out.wd.obj O[j] (List.getElem_mem hjl)
  have hli := SA.out.wd.lies ll2
  unfold Obj.till at hli
  have hFR := fun V (H : RHp V h b bb x.mem 16384 32768) => heap_free V h b bb x.mem 16384 32768 O[j].at_ H
  unfold FreePost at hFR
  have hto := SA.out.told O[j].at_
  have hap := SA.out.wd.apart
  rcases SA.out.wd.free O[j].at_ with ⟨f1, f2⟩ | ⟨m2, B2, f1, f2, fu, f4, f5⟩
  · rw [f1] at hFR
    have hff : f O[j].at_ = false := by
      cases hq : f O[j].at_ with
      | false => rfl
      | true => exact absurd (hto.1 hq) f2
    clear hto f1 f2 ll1 ll2 hap
    generalize O[j] = y at t0 t1 t2 hli hFR hff
    obtain ⟨ya, yc, yt⟩ := y
    simp only at t0 t1 t2 hli hFR hff
    have hya : -9223372036854775808 ≤ ya ∧ ya ≤ 9223372036854775807 := by omega
    unfold strV at t2
    have HF := Lib.hid hFR
    have SW := Lib.hid fun V (k : Keeps (fun _ => False) W V) => SA.out.keeps k
    clear hFR
    conv => arg 2; whnf
    go_wp2_with fail
    have KA := Lib.hid (Keeps.alloc (fun _ => False) W (.cells #[.int .i64 ya, .int .i64 (yc : Int), .string ⟨yt.toArray⟩] 90))
    have A0 := cell_of (i := 0) (halloc_at W (.cells #[.int .i64 ya, .int .i64 (yc : Int), .string ⟨yt.toArray⟩] 90)) rfl
    have hsz : (W.alloc (.cells #[.int .i64 ya, .int .i64 (yc : Int), .string ⟨yt.toArray⟩] 90)).heap.size = W.heap.size + 1 := World.size_alloc _ _
    have NTb := Lib.hid (show ¬ W.heap.size = bb from by have := SA.out.rw_.sp.lts; omega)
    generalize W.alloc (.cells #[.int .i64 ya, .int .i64 (yc : Int), .string ⟨yt.toArray⟩] 90) = W1 at KA A0 hsz ⊢
    generalize W.heap.size = gh at A0 NTb hsz ⊢
    clear hsz t0 t1 t2
    have hl1 := (SW.out W1.drew (KA.out.trans (Keeps.drew _ _))).map.look ya hya.1 hya.2
    have HH := Lib.hid (HF.out W1.drew (SW.out W1.drew (KA.out.trans (Keeps.drew _ _))).hp)
    go_cut [291] from 282 to 291 (fun v wx => v = .bool false ∧ RHp wx h b bb x.mem 16384 32768 ∧ Keeps (fun g => g = bb) W1.drew wx)
    case first =>
      refine wp_region_noPanic ?_
      go_region_law (first
        | (go_simp
           go_at_call 39
           refine HH.out.mono ?_
           rintro e w4 ⟨rfl, m4, k4⟩
           have hl4 := ((SW.out W1.drew (KA.out.trans (Keeps.drew _ _))).mem m4.mem rfl k4 SA.out.wd).map.look ya hya.1 hya.2
           have z4 := k4.cell (show W1.drew.cell? ⟨gh, 0, none⟩ = _ from A0) NTb.out
           dsimp only))
      all_goals
        refine NoPanic.normal ?_
        go_wp2_with fail
        go_meet
        exact ⟨rfl, m4, k4⟩
    case rest =>
      obtain ⟨rfl, m4, k4⟩ := hcut
      have S4 := Lib.hid ((SW.out W1.drew (KA.out.trans (Keeps.drew _ _))).mem m4.mem rfl k4 SA.out.wd)
      have K4 := Lib.hid (((KA.out.trans (Keeps.drew _ _)).mono (fun _ _ e => e.elim)).trans (k4.mono fun g _ e => e ▸ SA.out.rw_.low.2.2.2.1) : Keeps (fun g => B0 ≤ g) W _)
      have hl4 := S4.out.map.look ya hya.1 hya.2
      have z4 := k4.cell (show W1.drew.cell? ⟨gh, 0, none⟩ = _ from A0) NTb.out
      clear m4 k4 hl1 A0
      go_wp2_with fail
      exact ⟨⟨n, x, A, T, L, B, O, _, cA, _, cL, _, cT, f, rfl, by omega, by omega, S4.out.more⟩, K4.out⟩
  · rw [f1] at hFR
    have hff : f O[j].at_ = true := hto.2 fu
    have hne : ∀ o ∈ O.take j ++ O.drop (j + 1), o.at_ ≠ O[j].at_ := by
      intro o ho e
      rw [List.pairwise_iff_getElem] at hap
      rcases List.mem_append.1 ho with ho | ho
      · obtain ⟨q, hq, rfl⟩ := List.getElem_of_mem ho
        rw [List.length_take] at hq
        rw [List.getElem_take] at e
        have := hap q j (by omega) hjl (by omega)
        unfold Obj.till at this
        omega
      · obtain ⟨q, hq, rfl⟩ := List.getElem_of_mem ho
        rw [List.length_drop] at hq
        rw [List.getElem_drop] at e
        have := hap j (j + 1 + q) hjl (by omega) (by omega)
        unfold Obj.till at this
        omega
    have hsub : (O.take j ++ O.drop (j + 1)).Sublist O := by
      conv => rhs; rw [← List.take_append_drop j O]
      exact List.Sublist.append (List.Sublist.refl _) (List.drop_sublist_drop_left O (by omega))
    have hwd2 := f5 (O.take j ++ O.drop (j + 1)) (fun o ho => ⟨hsub.subset ho, hne o ho⟩) (hap.sublist hsub)
    have hus : ∀ v, ((!decide (v = O[j].at_) && f v) = true) ↔ Obj.Used B2 v := fun v => by
      rw [f4 v, ← SA.out.told v]
      by_cases hv : v = O[j].at_ <;> simp [hv]
    have F2 := Lib.hid f2
    have WD2 := Lib.hid hwd2
    clear hto f1 f2 ll1 ll2 hap hne hsub f4 f5 fu hwd2
    generalize O[j] = y at t0 t1 t2 hli hFR hff hus
    obtain ⟨ya, yc, yt⟩ := y
    simp only at t0 t1 t2 hli hFR hff hus
    have HU := Lib.hid hus
    clear hus
    have hya : -9223372036854775808 ≤ ya ∧ ya ≤ 9223372036854775807 := by omega
    unfold strV at t2
    have HF := Lib.hid hFR
    have SW := Lib.hid fun V (k : Keeps (fun _ => False) W V) => SA.out.keeps k
    clear hFR
    conv => arg 2; whnf
    go_wp2_with fail
    have KA := Lib.hid (Keeps.alloc (fun _ => False) W (.cells #[.int .i64 ya, .int .i64 (yc : Int), .string ⟨yt.toArray⟩] 90))
    have A0 := cell_of (i := 0) (halloc_at W (.cells #[.int .i64 ya, .int .i64 (yc : Int), .string ⟨yt.toArray⟩] 90)) rfl
    have hsz : (W.alloc (.cells #[.int .i64 ya, .int .i64 (yc : Int), .string ⟨yt.toArray⟩] 90)).heap.size = W.heap.size + 1 := World.size_alloc _ _
    have NTb := Lib.hid (show ¬ W.heap.size = bb from by have := SA.out.rw_.sp.lts; omega)
    generalize W.alloc (.cells #[.int .i64 ya, .int .i64 (yc : Int), .string ⟨yt.toArray⟩] 90) = W1 at KA A0 hsz ⊢
    generalize W.heap.size = gh at A0 NTb hsz ⊢
    clear hsz t0 t1 t2
    have hl1 := (SW.out W1.drew (KA.out.trans (Keeps.drew _ _))).map.look ya hya.1 hya.2
    have HH := Lib.hid (HF.out W1.drew (SW.out W1.drew (KA.out.trans (Keeps.drew _ _))).hp)
    go_cut [291] from 282 to 291 (fun v wx => v = .bool false ∧ RHp wx h b bb m2 16384 32768 ∧ Keeps (fun g => g = bb) W1.drew wx)
    case first =>
      refine wp_region_noPanic ?_
      go_region_law (first
        | (go_simp
           go_at_call 39
           refine HH.out.mono ?_
           rintro e w4 ⟨rfl, m4, k4⟩
           have hl4 := ((SW.out W1.drew (KA.out.trans (Keeps.drew _ _))).mem m4.mem F2.out k4 WD2.out).map.look ya hya.1 hya.2
           have z4 := k4.cell (show W1.drew.cell? ⟨gh, 0, none⟩ = _ from A0) NTb.out
           dsimp only))
      all_goals
        refine NoPanic.normal ?_
        go_wp2_with fail
        go_meet
        exact ⟨rfl, m4, k4⟩
    case rest =>
      obtain ⟨rfl, m4, k4⟩ := hcut
      have S4 := Lib.hid ((SW.out W1.drew (KA.out.trans (Keeps.drew _ _))).mem m4.mem F2.out k4 WD2.out)
      have K4 := Lib.hid (((KA.out.trans (Keeps.drew _ _)).mono (fun _ _ e => e.elim)).trans (k4.mono fun g _ e => e ▸ SA.out.rw_.low.2.2.2.1) : Keeps (fun g => B0 ≤ g) W _)
      have hl4 := S4.out.map.look ya hya.1 hya.2
      have z4 := k4.cell (show W1.drew.cell? ⟨gh, 0, none⟩ = _ from A0) NTb.out
      obtain ⟨w5, hrun, F5, k5⟩ := S4.out.map.del ya hya.1 hya.2 0
      have S5 := Lib.hid (S4.out.flag F5 k5 HU.out)
      have K5 := Lib.hid (K4.out.trans (k5.mono fun g _ e => e ▸ SA.out.low.2.2.1))
      clear m4 k4 hl1 A0 F5 k5
      go_wp2_with fail
      have hjc : j ≤ cT := by omega
      have hjc2 : (j : Int) ≤ (cT : Int) := by omega
      have hj1 : (j : Int) + 1 ≤ (O.length : Int) := by omega
      have hj2 : j + 1 ≤ O.length := by omega
      have hwj : IntKind.i64.wrap ((j : Int) + 1) = (j : Int) + 1 := IntWalk.i64_in _ (by omega)
      have htn : ((j : Int) + 1).toNat = j + 1 := by omega
      have hj3 : (0 : Int) ≤ (j : Int) + 1 := by omega
      have hA1 : (thingV (O.take j)).length = j * 3 := by rw [thingV_len, List.length_take]; omega
      have hA2 : (thingV (O.drop (j + 1))).length = (O.length - (j + 1)) * 3 := by rw [thingV_len, List.length_drop]
      have HLN := Lib.hid (show (O.take j ++ O.drop (j + 1)).length = j + (O.length - (j + 1)) by rw [List.length_append, List.length_take, List.length_drop]; omega)
      have HT1 := Lib.hid (thing_take (S5.out.all.keeps ((Keeps.alloc (fun _ => False) w5 (.cells #[] 90)).trans (Keeps.drew _ _)) (fun _ _ => id)) j)
      have HT2 := Lib.hid fun V (kV : Keeps (fun _ => False) w5 V) => thing_drop (S5.out.all.keeps kV (fun _ _ => id)) (j + 1) hj2
      by_cases hcc : cT = j + 1
      · have hdn : O.drop (j + 1) = [] := List.drop_eq_nil_of_le (by omega)
        have HDN := Lib.hid hdn
        have HLJ := Lib.hid (show (O.take j ++ O.drop (j + 1)).length = j by rw [HLN.out]; omega)
        clear hdn
        have hjj : (j : Int) ≤ (j : Int) + 1 := by omega
        have hjk : j ≤ j + 1 := by omega
        subst hcc
        refine wp_region_noPanic ?_
        go_region_law (first
          | (refine step_app rfl _ _ 78 rfl 90 _ 3 32 Try.underlying78 infoThing rfl (by decide) (some ⟨w5.heap.size, 0, none⟩) 0 0 [] rfl (own_empty w5) ⟨gT, 0, none⟩ j _ (thingV (O.take j)) rfl hA1 HT1.out (thing_cells _) (by unfold maxLen; omega) (by omega) ?_
             intro a7 c7 w7 o7 k7 l7
             rw [Nat.zero_add, List.nil_append] at o7
             rw [Nat.zero_add]
             have k7' := ((Keeps.alloc (fun _ => False) w5 (.cells #[] 90)).trans (Keeps.drew _ _)).trans' k7 (fun q hq e => by have : w5.heap.size = q := Option.some.inj e; omega)
             have hd7 := HT2.out w7 k7'
             have kk7 := k7'.size)
          | (refine step_app rfl _ _ 78 rfl 90 _ 3 32 Try.underlying78 infoThing rfl (by decide) a7 j c7 (thingV (O.take j)) rfl o7 ⟨gT, 0, none⟩ 0 _ [] rfl rfl (fun q u hq => absurd hq (by simp)) (fun u hu => absurd hu (by simp)) (by unfold maxLen; omega) (by omega) ?_
             intro a8 c8 w8 o8 k8 l8
             rw [Nat.add_zero, List.append_nil] at o8
             rw [Nat.add_zero]))
        all_goals
          refine NoPanic.normal ?_
          have o9 : OwnT w8 a8 c8 (O.take j ++ O.drop (j + 1)) := by
            unfold OwnT
            rw [thingV_app, HLJ.out, HDN.out, show thingV [] = [] from rfl, List.append_nil]
            exact o8
          have hb8 : ∀ g, blk a8 = some g → w5.heap.size ≤ g := by
            intro g hg
            rcases l8 with l8 | l8
            · rw [l8] at hg
              rcases l7 with l7 | l7
              · rw [l7] at hg; cases hg; exact Nat.le_refl _
              · rw [l7] at hg; cases hg; rw [show (w5.alloc (Obj.cells #[] 90)).drew.heap.size = w5.heap.size + 1 from World.size_alloc _ _]; omega
            · rw [l8] at hg; cases hg; exact kk7
          have k9 := k7'.trans' k8 (fun q hq e => by
            rcases l7 with l7 | l7
            · rw [l7] at e; have : w5.heap.size = q := Option.some.inj e; omega
            · rw [l7, show (w5.alloc (Obj.cells #[] 90)).drew.heap.size = w5.heap.size + 1 from World.size_alloc _ _] at e; have : w5.heap.size + 1 = q := Option.some.inj e; omega)
          have S8 := Lib.hid (S5.out.slice (k9.mono fun _ _ e => e.elim) o9 (fun g hg => .inr (hb8 g hg)))
          have K8 := Lib.hid (K5.out.trans (k9.mono fun _ _ e => e.elim))
          clear o7 k7 l7 o8 k8 l8 o9 hb8 k9 k7' hd7 kk7 z4 hl4 hrun
          go_wp2_with fail
          exact ⟨⟨n, _, A, T, L, B2, _, _, cA, _, cL, a8, c8, _, by rw [HLJ.out], by omega, by rw [HLJ.out]; omega, S8.out.more⟩, K8.out⟩
      · skip
        refine wp_region_noPanic ?_
        go_region_law (first
          | (refine step_app rfl _ _ 78 rfl 90 _ 3 32 Try.underlying78 infoThing rfl (by decide) (some ⟨w5.heap.size, 0, none⟩) 0 0 [] rfl (own_empty w5) ⟨gT, 0, none⟩ j _ (thingV (O.take j)) rfl hA1 HT1.out (thing_cells _) (by unfold maxLen; omega) (by omega) ?_
             intro a7 c7 w7 o7 k7 l7
             rw [Nat.zero_add, List.nil_append] at o7
             rw [Nat.zero_add]
             have k7' := ((Keeps.alloc (fun _ => False) w5 (.cells #[] 90)).trans (Keeps.drew _ _)).trans' k7 (fun q hq e => by have : w5.heap.size = q := Option.some.inj e; omega)
             have hd7 := HT2.out w7 k7'
             have kk7 := k7'.size)
          | (refine step_app rfl _ _ 78 rfl 90 _ 3 32 Try.underlying78 infoThing rfl (by decide) a7 j c7 (thingV (O.take j)) rfl o7 ⟨gT, (j + 1) * 3, none⟩ (O.length - (j + 1)) _ (thingV (O.drop (j + 1))) rfl hA2 hd7 (thing_cells _) (by unfold maxLen; omega) (by omega) ?_
             intro a8 c8 w8 o8 k8 l8))
        all_goals
          refine NoPanic.normal ?_
          have o9 : OwnT w8 a8 c8 (O.take j ++ O.drop (j + 1)) := by
            unfold OwnT
            rw [thingV_app, HLN.out]
            exact o8
          have hb8 : ∀ g, blk a8 = some g → w5.heap.size ≤ g := by
            intro g hg
            rcases l8 with l8 | l8
            · rw [l8] at hg
              rcases l7 with l7 | l7
              · rw [l7] at hg; cases hg; exact Nat.le_refl _
              · rw [l7] at hg; cases hg; rw [show (w5.alloc (Obj.cells #[] 90)).drew.heap.size = w5.heap.size + 1 from World.size_alloc _ _]; omega
            · rw [l8] at hg; cases hg; exact kk7
          have k9 := k7'.trans' k8 (fun q hq e => by
            rcases l7 with l7 | l7
            · rw [l7] at e; have : w5.heap.size = q := Option.some.inj e; omega
            · rw [l7, show (w5.alloc (Obj.cells #[] 90)).drew.heap.size = w5.heap.size + 1 from World.size_alloc _ _] at e; have : w5.heap.size + 1 = q := Option.some.inj e; omega)
          have S8 := Lib.hid (S5.out.slice (k9.mono fun _ _ e => e.elim) o9 (fun g hg => .inr (hb8 g hg)))
          have K8 := Lib.hid (K5.out.trans (k9.mono fun _ _ e => e.elim))
          clear o7 k7 l7 o8 k8 l8 o9 hb8 k9 k7' hd7 kk7 z4 hl4 hrun
          go_wp2_with fail
          exact ⟨⟨n, _, A, T, L, B2, _, _, cA, _, cL, a8, c8, _, by rw [HLN.out], by omega, by rw [HLN.out]; omega, S8.out.more⟩, K8.out⟩
end Go.Proofs.Shed
