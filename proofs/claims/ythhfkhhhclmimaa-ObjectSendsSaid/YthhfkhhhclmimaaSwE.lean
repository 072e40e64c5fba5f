/- ObjectSends: the walk of its switch: an object that is filled; nothing to do. Conditions: the state is the loop's. -/
import Derived.Test.YthhfkhhhclmimaaSwC
import Derived.IntWalk
import Derived.StillTailTactics
set_option linter.unusedVariables false
set_option linter.unusedSimpArgs false
set_option maxRecDepth 1000000
set_option maxHeartbeats 8000000
namespace Go.Proofs.Shed
open Go Go.RowKit Go.Proofs.K

theorem thingV_set (O : List Thing) (j : Nat) (h : j < O.length) (t : List UInt8) : (thingV O).set (j * 3 + 2) (strV t) = thingV (O.set j { O[j] with text := t }) := by
  induction O generalizing j with
  | nil => simp at h
  | cons v V ih =>
    cases j with
    | zero => rfl
    | succ j =>
      have := ih j (by simpa using h)
      have e : thingV (v :: V) = [.int .i64 v.at_, .int .i64 (v.cls : Int), strV v.text] ++ thingV V := rfl
      rw [e, List.set_append_right _ _ (by simp; omega)]
      rw [show (j + 1) * 3 + 2 - [Value.int .i64 v.at_, .int .i64 (v.cls : Int), strV v.text].length = j * 3 + 2 by simp; omega, this]
      rfl
theorem OwnT.fill {w : World} {g c : Nat} {O : List Thing} (h : OwnT w (some ⟨g, 0, none⟩) c O) {j : Nat} (hj : j < O.length) (t : List UInt8) :
    OwnT (w.setCell ⟨g, j * 3 + 2, none⟩ (strV t)) (some ⟨g, 0, none⟩) c (O.set j { O[j] with text := t }) := by
  rcases Own.form h with ⟨hx, _⟩ | ⟨g', cur, hx, hh, hnc, hcm, hcs, htk, hxl⟩
  · cases hx
  · cases hx
    refine ⟨by rw [thingV_len], .inr ⟨g, c, cur.setIfInBounds (j * 3 + 2) (strV t), by rw [List.length_set], Nat.zero_le _, hset_same hh _, by rw [List.length_set]; exact hnc, hcm, by rw [Array.size_setIfInBounds]; exact hcs, ?_⟩⟩
    rw [List.length_set, ← thingV_set O j hj, ← htk, Array.toList_setIfInBounds, List.take_set]
theorem OwnT.loose {w : World} {g c : Nat} {O : List Thing} (h : OwnT w (some ⟨g, 0, none⟩) c O) (j : Nat) : w.frozen? ⟨g, j, none⟩ = false := by
  rcases Own.form h with ⟨hx, _⟩ | ⟨g', cur, hx, hh, _⟩
  · cases hx
  · cases hx; exact free_of hh
theorem OwnT.fill_at {w : World} {g c : Nat} {O : List Thing} (h : OwnT w (some ⟨g, 0, none⟩) c O) {j : Nat} (hj : j < O.length) (t : List UInt8) :
    (w.setCell ⟨g, j * 3 + 2, none⟩ (strV t)).cell? ⟨g, j * 3, none⟩ = some (.int .i64 O[j].at_) ∧ (w.setCell ⟨g, j * 3 + 2, none⟩ (strV t)).cell? ⟨g, j * 3 + 2, none⟩ = some (strV t) := by
  obtain ⟨g', hg, _, c0, _, c2⟩ := (h.fill hj t).at (i := j) (by rw [List.length_set]; exact hj)
  cases hg
  rw [List.getElem_set_self] at c0 c2
  exact ⟨c0, c2⟩
theorem sw_none {Q0 : Exit → Go.Act → World → Prop} {W : World} {u0 u1 u2 u5 u8 u13 u14 u15 u16 u17 u18 u19 u20 u21 u22 u23 u24 u25 u26 u27 u28 u29 u30 u31 u32 u33 u34 u35 u36 u37 u38 u39 u40 u41 u42 u43 u44 u45 u46 u47 u48 u49 u50 u51 u52 u53 u54 u55 u56 u57 u58 u59 u60 u61 u62 u63 u64 u65 u66 u67 u68 u69 u70 u71 u72 u73 u74 u75 u76 u77 u78 u79 u80 u81 u82 u83 u84 u85 u86 u87 u88 u89 u90 u91 u92 u93 u94 u95 u96 u97 u98 u99 u100 u101 u102 u103 u104 u105 u106 u107 u108 u109 u110 u111 u112 u113 u114 u115 u116 u117 u118 u119 u120 u121 u122 u123 u124 u125 u126 u127 u128 u129 u130 u131 u132 u133 u134 u135 u136 u137 u138 u139 u140 u141 u142 u143 u144 u145 u146 u147 u148 u149 u150 u151 u152 u153 u154 u155 u156 u157 u158 u159 u160 u161 u162 u163 u164 u165 u166 u167 u168 u169 u170 u171 u172 u173 u174 u175 u176 u177 u178 u179 u180 u181 u182 u183 u184 u185 u186 u187 u188 u189 u190 u191 u192 u193 u194 u195 u196 u197 u198 u199 u200 u201 u202 u203 u204 u205 u206 u207 u208 u209 u210 u211 u212 u213 u214 u215 u216 u217 u218 u219 u220 u221 u222 u223 u224 u225 u226 u227 u228 u229 u230 u231 u232 u233 u234 u235 u236 u237 u238 u239 u240 u241 u242 u243 u244 u245 u246 u247 u248 u249 u250 u251 u252 u253 u254 u255 u256 u257 u258 u259 u260 u261 u262 u263 u264 u265 u266 u267 u268 u269 u270 u271 u272 u273 u274 u275 u276 u277 u278 u279 u280 u281 u282 u283 u284 u285 u286 u287 u288 u289 u290 u291 u292 u293 u294 u295 u296 u297 u298 u299 u300 u301 u302 u303 u304 u305 u306 u307 u308 u309 u310 u311 u312 u313 u314 u315 u316 u317 u318 u319 u320 u321 u322 u323 u324 u325 u326 u327 : Value} {B0 ab wb s b bb h mb i n : Nat} {x : Sp} {A T : List Int} {L : List RCls} {B : List Blk} {O : List Thing} {gA cA : Nat} {aL : Option Addr} {cL : Nat} {aT : Option Addr} {cT : Nat} {f : Int → Bool}
    {kind p cc sel xt k : Nat} {sl : Int} (q1 : kind < 256) (q5 : xt < 256) (hkl : k < A.length) (hi : i < 60) (hs0 : 1 ≤ sl) (hs1 : sl ≤ 8)
    (SA : Hid (Sends B0 W wb s b bb h mb i n x A T L B B O O (some ⟨gA, 0, none⟩) cA aL cL aT cT f)) (hn : n ≤ i) (hO : O.length ≤ i) (hga : W.cell? ⟨gA, k, none⟩ = some (.int .i64 (Class.nth A k)))
    (HC : Hid (W.heap[ab]? = some (.cells #[.int .u8 kind, .int .u8 p, .int .u8 cc, .int .u8 sel, .int .u8 xt] 81 (0, 0))))
    (hkind : 4 ≤ (kind : Int) % 7 ∧ (kind : Int) % 7 < 6 ∧ O.length = 0) (hab : ¬ ab = bb ∧ ¬ ab = s ∧ ¬ ab = mb ∧ ¬ blk aT = some ab)
    (hQ : ∀ (v6 n13 n14 n15 n16 n17 n18 n19 n20 n86 n87 n88 n89 n90 n91 n92 n93 n94 n95 n96 n97 n98 n99 n100 n101 n102 n103 n104 n105 n106 n107 n108 n109 n110 n111 n112 n113 n114 n115 n116 n117 n118 n119 n120 n121 n122 n123 n124 n125 n126 n127 n128 n129 n130 n131 n132 n133 n134 n135 n136 n137 n138 n139 n140 n141 n142 n143 n144 n145 n146 n147 n148 n149 n150 n151 n152 n153 n154 n155 n156 n157 n158 n159 n160 n161 n162 n163 n164 n165 n166 n167 n168 n169 n170 n171 n172 n173 n174 n175 n176 n177 n178 n179 n180 n181 n182 n183 n184 n185 n186 n187 n188 n189 n190 n191 n192 n193 n194 n195 n196 n197 n198 n199 n200 n201 n202 n203 n204 n205 n206 n207 n208 n209 n210 n211 n212 n213 n214 n215 n216 n217 n218 n219 n220 n221 n222 n223 n224 n225 n226 n227 n228 n229 n230 n231 n232 n233 n234 n235 n236 n237 n238 n239 n240 n241 n242 n243 n244 n245 n246 n247 n248 n249 n250 n251 n252 n253 n254 n255 n256 n257 n258 n259 n260 n261 n262 n263 n264 n265 n266 n267 n268 n269 n270 n271 n272 n273 n274 n275 n276 n277 n278 n279 n280 n281 n282 n283 n284 n285 n286 n287 n288 n289 n290 n291 n292 n293 n294 n295 n296 n297 n298 n299 n300 n301 n302 n303 n304 n305 n306 n307 n308 n309 n310 n311 n312 n313 n314 : Value) (w' : World), SendsV B0 w' wb s b bb h mb (i + 1) v6 ∧ Keeps (fun g => B0 ≤ g) W w' → Q0 .normal ⟨#[u0, u1, u2, .pointer (some ⟨wb, 0, none⟩), .pointer (some ⟨h, 0, none⟩), u5, v6, .map (some mb), u8, .pointer (some ⟨ab, 0, none⟩), .int .i64 (k : Int), .int .i64 sl, .int .i64 (p : Int), n13, n14, n15, n16, n17, n18, n19, n20, u21, u22, u23, u24, u25, u26, u27, u28, u29, u30, u31, u32, u33, u34, u35, u36, u37, u38, u39, u40, u41, u42, u43, u44, u45, u46, u47, u48, u49, u50, u51, u52, u53, u54, u55, u56, u57, u58, u59, u60, u61, u62, u63, u64, u65, u66, u67, u68, u69, u70, u71, u72, u73, u74, u75, u76, u77, u78, u79, u80, u81, u82, u83, u84, u85, n86, n87, n88, n89, n90, n91, n92, n93, n94, n95, n96, n97, n98, n99, n100, n101, n102, n103, n104, n105, n106, n107, n108, n109, n110, n111, n112, n113, n114, n115, n116, n117, n118, n119, n120, n121, n122, n123, n124, n125, n126, n127, n128, n129, n130, n131, n132, n133, n134, n135, n136, n137, n138, n139, n140, n141, n142, n143, n144, n145, n146, n147, n148, n149, n150, n151, n152, n153, n154, n155, n156, n157, n158, n159, n160, n161, n162, n163, n164, n165, n166, n167, n168, n169, n170, n171, n172, n173, n174, n175, n176, n177, n178, n179, n180, n181, n182, n183, n184, n185, n186, n187, n188, n189, n190, n191, n192, n193, n194, n195, n196, n197, n198, n199, n200, n201, n202, n203, n204, n205, n206, n207, n208, n209, n210, n211, n212, n213, n214, n215, n216, n217, n218, n219, n220, n221, n222, n223, n224, n225, n226, n227, n228, n229, n230, n231, n232, n233, n234, n235, n236, n237, n238, n239, n240, n241, n242, n243, n244, n245, n246, n247, n248, n249, n250, n251, n252, n253, n254, n255, n256, n257, n258, n259, n260, n261, n262, n263, n264, n265, n266, n267, n268, n269, n270, n271, n272, n273, n274, n275, n276, n277, n278, n279, n280, n281, n282, n283, n284, n285, n286, n287, n288, n289, n290, n291, n292, n293, n294, n295, n296, n297, n298, n299, n300, n301, n302, n303, n304, n305, n306, n307, n308, n309, n310, n311, n312, n313, n314, u315, u316, u317, u318, u319, u320, u321, u322, u323, u324, u325, u326, u327], []⟩ w') :
    Code.wp Try.prog sw Q0 ⟨#[u0, u1, u2, .pointer (some ⟨wb, 0, none⟩), .pointer (some ⟨h, 0, none⟩), u5, .slice aT O.length cT, .map (some mb), u8, .pointer (some ⟨ab, 0, none⟩), .int .i64 (k : Int), .int .i64 sl, .int .i64 (p : Int), u13, u14, u15, u16, u17, u18, u19, u20, u21, u22, u23, u24, u25, u26, u27, u28, u29, u30, u31, u32, u33, u34, u35, u36, u37, u38, u39, u40, u41, u42, u43, u44, u45, u46, u47, u48, u49, u50, u51, u52, u53, u54, u55, u56, u57, u58, u59, u60, u61, u62, u63, u64, u65, u66, u67, u68, u69, u70, u71, u72, u73, u74, u75, u76, u77, u78, u79, u80, u81, u82, u83, u84, u85, u86, u87, u88, u89, u90, u91, u92, u93, u94, u95, u96, u97, u98, u99, u100, u101, u102, u103, u104, u105, u106, u107, u108, u109, u110, u111, u112, u113, u114, u115, u116, u117, u118, u119, u120, u121, u122, u123, u124, u125, u126, u127, u128, u129, u130, u131, u132, u133, u134, u135, u136, u137, u138, u139, u140, u141, u142, u143, u144, u145, u146, u147, u148, u149, u150, u151, u152, u153, u154, u155, u156, u157, u158, u159, u160, u161, u162, u163, u164, u165, u166, u167, u168, u169, u170, u171, u172, u173, u174, u175, u176, u177, u178, u179, u180, u181, u182, u183, u184, u185, u186, u187, u188, u189, u190, u191, u192, u193, u194, u195, u196, u197, u198, u199, u200, u201, u202, u203, u204, u205, u206, u207, u208, u209, u210, u211, u212, u213, u214, u215, u216, u217, u218, u219, u220, u221, u222, u223, u224, u225, u226, u227, u228, u229, u230, u231, u232, u233, u234, u235, u236, u237, u238, u239, u240, u241, u242, u243, u244, u245, u246, u247, u248, u249, u250, u251, u252, u253, u254, u255, u256, u257, u258, u259, u260, u261, u262, u263, u264, u265, u266, u267, u268, u269, u270, u271, u272, u273, u274, u275, u276, u277, u278, u279, u280, u281, u282, u283, u284, u285, u286, u287, u288, u289, u290, u291, u292, u293, u294, u295, u296, u297, u298, u299, u300, u301, u302, u303, u304, u305, u306, u307, u308, u309, u310, u311, u312, u313, u314, u315, u316, u317, u318, u319, u320, u321, u322, u323, u324, u325, u326, u327], []⟩ W := by
  have h1 : ((kind : Int) % 7 == 1) = false := by simp; omega
  have h6 : ((kind : Int) % 7 == 6) = false := by simp; omega
  have h4 : decide ((kind : Int) % 7 < 4) = false := by simp; omega
  have hO0 : decide (0 < (O.length : Int)) = false := decide_eq_false (by omega)
  have hOn : ¬ 0 < O.length := by omega
  clear hkind
  have D0 := cell_of (i := 0) HC.out rfl
  conv => arg 2; whnf
  go_wp2_with fail
  exact ⟨⟨n, x, A, T, L, B, O, _, cA, _, cL, aT, cT, f, rfl, by omega, by omega, SA.out.more⟩, Keeps.refl _ _⟩
theorem sw_fill {Q0 : Exit → Go.Act → World → Prop} {W : World} {u0 u1 u2 u5 u8 u13 u14 u15 u16 u17 u18 u19 u20 u21 u22 u23 u24 u25 u26 u27 u28 u29 u30 u31 u32 u33 u34 u35 u36 u37 u38 u39 u40 u41 u42 u43 u44 u45 u46 u47 u48 u49 u50 u51 u52 u53 u54 u55 u56 u57 u58 u59 u60 u61 u62 u63 u64 u65 u66 u67 u68 u69 u70 u71 u72 u73 u74 u75 u76 u77 u78 u79 u80 u81 u82 u83 u84 u85 u86 u87 u88 u89 u90 u91 u92 u93 u94 u95 u96 u97 u98 u99 u100 u101 u102 u103 u104 u105 u106 u107 u108 u109 u110 u111 u112 u113 u114 u115 u116 u117 u118 u119 u120 u121 u122 u123 u124 u125 u126 u127 u128 u129 u130 u131 u132 u133 u134 u135 u136 u137 u138 u139 u140 u141 u142 u143 u144 u145 u146 u147 u148 u149 u150 u151 u152 u153 u154 u155 u156 u157 u158 u159 u160 u161 u162 u163 u164 u165 u166 u167 u168 u169 u170 u171 u172 u173 u174 u175 u176 u177 u178 u179 u180 u181 u182 u183 u184 u185 u186 u187 u188 u189 u190 u191 u192 u193 u194 u195 u196 u197 u198 u199 u200 u201 u202 u203 u204 u205 u206 u207 u208 u209 u210 u211 u212 u213 u214 u215 u216 u217 u218 u219 u220 u221 u222 u223 u224 u225 u226 u227 u228 u229 u230 u231 u232 u233 u234 u235 u236 u237 u238 u239 u240 u241 u242 u243 u244 u245 u246 u247 u248 u249 u250 u251 u252 u253 u254 u255 u256 u257 u258 u259 u260 u261 u262 u263 u264 u265 u266 u267 u268 u269 u270 u271 u272 u273 u274 u275 u276 u277 u278 u279 u280 u281 u282 u283 u284 u285 u286 u287 u288 u289 u290 u291 u292 u293 u294 u295 u296 u297 u298 u299 u300 u301 u302 u303 u304 u305 u306 u307 u308 u309 u310 u311 u312 u313 u314 u315 u316 u317 u318 u319 u320 u321 u322 u323 u324 u325 u326 u327 : Value} {B0 ab wb s b bb h mb i n : Nat} {x : Sp} {A T : List Int} {L : List RCls} {B : List Blk} {O : List Thing} {gA cA : Nat} {aL : Option Addr} {cL : Nat} {aT : Option Addr} {cT : Nat} {f : Int → Bool}
    {kind p cc sel xt k : Nat} {sl : Int} (q1 : kind < 256) (q5 : xt < 256) (hkl : k < A.length) (hi : i < 60) (hs0 : 1 ≤ sl) (hs1 : sl ≤ 8)
    (SA : Hid (Sends B0 W wb s b bb h mb i n x A T L B B O O (some ⟨gA, 0, none⟩) cA aL cL aT cT f)) (hn : n ≤ i) (hO : O.length ≤ i) (hga : W.cell? ⟨gA, k, none⟩ = some (.int .i64 (Class.nth A k)))
    (HC : Hid (W.heap[ab]? = some (.cells #[.int .u8 kind, .int .u8 p, .int .u8 cc, .int .u8 sel, .int .u8 xt] 81 (0, 0))))
    (hkind : (kind : Int) % 7 = 4 ∧ 0 < O.length) (hab : ¬ ab = bb ∧ ¬ ab = s ∧ ¬ ab = mb ∧ ¬ blk aT = some ab)
    (hQ : ∀ (v6 n13 n14 n15 n16 n17 n18 n19 n20 n86 n87 n88 n89 n90 n91 n92 n93 n94 n95 n96 n97 n98 n99 n100 n101 n102 n103 n104 n105 n106 n107 n108 n109 n110 n111 n112 n113 n114 n115 n116 n117 n118 n119 n120 n121 n122 n123 n124 n125 n126 n127 n128 n129 n130 n131 n132 n133 n134 n135 n136 n137 n138 n139 n140 n141 n142 n143 n144 n145 n146 n147 n148 n149 n150 n151 n152 n153 n154 n155 n156 n157 n158 n159 n160 n161 n162 n163 n164 n165 n166 n167 n168 n169 n170 n171 n172 n173 n174 n175 n176 n177 n178 n179 n180 n181 n182 n183 n184 n185 n186 n187 n188 n189 n190 n191 n192 n193 n194 n195 n196 n197 n198 n199 n200 n201 n202 n203 n204 n205 n206 n207 n208 n209 n210 n211 n212 n213 n214 n215 n216 n217 n218 n219 n220 n221 n222 n223 n224 n225 n226 n227 n228 n229 n230 n231 n232 n233 n234 n235 n236 n237 n238 n239 n240 n241 n242 n243 n244 n245 n246 n247 n248 n249 n250 n251 n252 n253 n254 n255 n256 n257 n258 n259 n260 n261 n262 n263 n264 n265 n266 n267 n268 n269 n270 n271 n272 n273 n274 n275 n276 n277 n278 n279 n280 n281 n282 n283 n284 n285 n286 n287 n288 n289 n290 n291 n292 n293 n294 n295 n296 n297 n298 n299 n300 n301 n302 n303 n304 n305 n306 n307 n308 n309 n310 n311 n312 n313 n314 : Value) (w' : World), SendsV B0 w' wb s b bb h mb (i + 1) v6 ∧ Keeps (fun g => B0 ≤ g) W w' → Q0 .normal ⟨#[u0, u1, u2, .pointer (some ⟨wb, 0, none⟩), .pointer (some ⟨h, 0, none⟩), u5, v6, .map (some mb), u8, .pointer (some ⟨ab, 0, none⟩), .int .i64 (k : Int), .int .i64 sl, .int .i64 (p : Int), n13, n14, n15, n16, n17, n18, n19, n20, u21, u22, u23, u24, u25, u26, u27, u28, u29, u30, u31, u32, u33, u34, u35, u36, u37, u38, u39, u40, u41, u42, u43, u44, u45, u46, u47, u48, u49, u50, u51, u52, u53, u54, u55, u56, u57, u58, u59, u60, u61, u62, u63, u64, u65, u66, u67, u68, u69, u70, u71, u72, u73, u74, u75, u76, u77, u78, u79, u80, u81, u82, u83, u84, u85, n86, n87, n88, n89, n90, n91, n92, n93, n94, n95, n96, n97, n98, n99, n100, n101, n102, n103, n104, n105, n106, n107, n108, n109, n110, n111, n112, n113, n114, n115, n116, n117, n118, n119, n120, n121, n122, n123, n124, n125, n126, n127, n128, n129, n130, n131, n132, n133, n134, n135, n136, n137, n138, n139, n140, n141, n142, n143, n144, n145, n146, n147, n148, n149, n150, n151, n152, n153, n154, n155, n156, n157, n158, n159, n160, n161, n162, n163, n164, n165, n166, n167, n168, n169, n170, n171, n172, n173, n174, n175, n176, n177, n178, n179, n180, n181, n182, n183, n184, n185, n186, n187, n188, n189, n190, n191, n192, n193, n194, n195, n196, n197, n198, n199, n200, n201, n202, n203, n204, n205, n206, n207, n208, n209, n210, n211, n212, n213, n214, n215, n216, n217, n218, n219, n220, n221, n222, n223, n224, n225, n226, n227, n228, n229, n230, n231, n232, n233, n234, n235, n236, n237, n238, n239, n240, n241, n242, n243, n244, n245, n246, n247, n248, n249, n250, n251, n252, n253, n254, n255, n256, n257, n258, n259, n260, n261, n262, n263, n264, n265, n266, n267, n268, n269, n270, n271, n272, n273, n274, n275, n276, n277, n278, n279, n280, n281, n282, n283, n284, n285, n286, n287, n288, n289, n290, n291, n292, n293, n294, n295, n296, n297, n298, n299, n300, n301, n302, n303, n304, n305, n306, n307, n308, n309, n310, n311, n312, n313, n314, u315, u316, u317, u318, u319, u320, u321, u322, u323, u324, u325, u326, u327], []⟩ w') :
    Code.wp Try.prog sw Q0 ⟨#[u0, u1, u2, .pointer (some ⟨wb, 0, none⟩), .pointer (some ⟨h, 0, none⟩), u5, .slice aT O.length cT, .map (some mb), u8, .pointer (some ⟨ab, 0, none⟩), .int .i64 (k : Int), .int .i64 sl, .int .i64 (p : Int), u13, u14, u15, u16, u17, u18, u19, u20, u21, u22, u23, u24, u25, u26, u27, u28, u29, u30, u31, u32, u33, u34, u35, u36, u37, u38, u39, u40, u41, u42, u43, u44, u45, u46, u47, u48, u49, u50, u51, u52, u53, u54, u55, u56, u57, u58, u59, u60, u61, u62, u63, u64, u65, u66, u67, u68, u69, u70, u71, u72, u73, u74, u75, u76, u77, u78, u79, u80, u81, u82, u83, u84, u85, u86, u87, u88, u89, u90, u91, u92, u93, u94, u95, u96, u97, u98, u99, u100, u101, u102, u103, u104, u105, u106, u107, u108, u109, u110, u111, u112, u113, u114, u115, u116, u117, u118, u119, u120, u121, u122, u123, u124, u125, u126, u127, u128, u129, u130, u131, u132, u133, u134, u135, u136, u137, u138, u139, u140, u141, u142, u143, u144, u145, u146, u147, u148, u149, u150, u151, u152, u153, u154, u155, u156, u157, u158, u159, u160, u161, u162, u163, u164, u165, u166, u167, u168, u169, u170, u171, u172, u173, u174, u175, u176, u177, u178, u179, u180, u181, u182, u183, u184, u185, u186, u187, u188, u189, u190, u191, u192, u193, u194, u195, u196, u197, u198, u199, u200, u201, u202, u203, u204, u205, u206, u207, u208, u209, u210, u211, u212, u213, u214, u215, u216, u217, u218, u219, u220, u221, u222, u223, u224, u225, u226, u227, u228, u229, u230, u231, u232, u233, u234, u235, u236, u237, u238, u239, u240, u241, u242, u243, u244, u245, u246, u247, u248, u249, u250, u251, u252, u253, u254, u255, u256, u257, u258, u259, u260, u261, u262, u263, u264, u265, u266, u267, u268, u269, u270, u271, u272, u273, u274, u275, u276, u277, u278, u279, u280, u281, u282, u283, u284, u285, u286, u287, u288, u289, u290, u291, u292, u293, u294, u295, u296, u297, u298, u299, u300, u301, u302, u303, u304, u305, u306, u307, u308, u309, u310, u311, u312, u313, u314, u315, u316, u317, u318, u319, u320, u321, u322, u323, u324, u325, u326, u327], []⟩ W := by
  have h1 : ((kind : Int) % 7 == 1) = false := by simp [hkind]
  have h6 : ((kind : Int) % 7 == 6) = false := by simp [hkind]
  have h4 : decide ((kind : Int) % 7 < 4) = false := by simp [hkind]
  have h44 : ((kind : Int) % 7 == 4) = true := by simp [hkind]
  have hO1 : (0 : Int) < (O.length : Int) := by omega
  have hO0 : decide (0 < (O.length : Int)) = true := decide_eq_true (by omega)
  have hOn : 0 < O.length := hkind.2
  have hOz : ((O.length : Int) == 0) = false := by rw [beq_eq_false_iff_ne]; omega
  clear hkind
  obtain ⟨j, hj⟩ : ∃ j : Nat, (p : Int) % (O.length : Int) = j := ⟨((p : Int) % (O.length : Int)).toNat, by have := Int.emod_nonneg (p : Int) (b := (O.length : Int)) (by omega); omega⟩
  have hjl : j < O.length := by have := Int.emod_lt_of_pos (p : Int) hO1; omega
  have hjL : (j : Int) < (O.length : Int) := by omega
  have hj0 : (0 : Int) ≤ (j : Int) := by omega
  have hjt : (p : Int).tmod (O.length : Int) = j := by rw [Int.tmod_eq_emod_of_nonneg (by omega)]; exact hj
  have hR := SA.out.rw_
  have E0 := cell_of (i := 0) hR.head rfl
  have D0 := cell_of (i := 0) HC.out rfl
  have D4 := cell_of (i := 4) HC.out rfl
  obtain ⟨gT, rfl, hcT, t0, t1, t2⟩ := SA.out.all.at hjl
  have tf := SA.out.all.loose (j * 3 + 2)
  have tlt := World.block_lt_of_cell? _ _ t2
  obtain ⟨ll1, ll2⟩ := SA.out.wd.obj O[j] (List.getElem_mem hjl)
  have hli := SA.out.wd.lies ll2
  unfold Obj.till at hli
  have hsplit : O = O.take j ++ O[j] :: O.drop (j + 1) := by rw [List.getElem_cons_drop, List.take_append_drop]
  obtain ⟨m2, f1, f2, f3⟩ := SA.out.wd.fill hsplit (UInt8.ofNat xt)
  have hset : O.take j ++ { O[j] with text := List.replicate O[j].text.length (UInt8.ofNat xt) } :: O.drop (j + 1) = O.set j { O[j] with text := List.replicate O[j].text.length (UInt8.ofNat xt) } := by
    rw [List.set_eq_take_append_cons_drop, if_pos hjl]
  rw [hset] at f3
  have hST := fun V (H : RMem V b bb x.mem) => mem_setText V b bb x.mem (O[j].at_ + 8) (List.replicate O[j].text.length (UInt8.ofNat xt)) H (by rw [List.length_replicate]; omega)
  unfold SetPost at hST
  rw [f1] at hST
  have hfill := fun V (H : OwnT V (some ⟨gT, 0, none⟩) cT O) => (⟨H.fill hjl (List.replicate O[j].text.length (UInt8.ofNat xt)), H.fill_at hjl (List.replicate O[j].text.length (UInt8.ofNat xt))⟩ : _ ∧ _)
  have HF := Lib.hid hfill
  have HST := Lib.hid hST
  have F2 := Lib.hid f2
  have F3 := Lib.hid f3
  clear hsplit hset f1 f2 f3 hST hfill ll1 ll2
  generalize hO' : O.set j { O[j] with text := List.replicate O[j].text.length (UInt8.ofNat xt) } = O' at HF F3
  have HL := Lib.hid (show O'.length = O.length by rw [← hO', List.length_set])
  clear hO'
  generalize O[j] = y at t0 t1 t2 hli HST HF
  obtain ⟨ya, yc, yt⟩ := y
  simp only at t0 t1 t2 hli HST HF
  unfold strV at t2
  have NT := Lib.hid (SA.out.low.2.2.2.2 gT rfl)
  have NTw := Lib.hid (show ¬ wb = gT from fun e => hR.low.1.2.2.2 (e ▸ rfl))
  have NTa := Lib.hid (show ¬ ab = gT from fun e => hab.2.2.2 (e ▸ rfl))
  have hrep := fun V => str_repeat V (UInt8.ofNat xt) yt.length (by omega)
  have hso : Value.string (strOfNums [(xt : Int)]) = .string ⟨#[UInt8.ofNat xt]⟩ := by
    congr 1
  have hcv := run_convert_bytes_arg (P := Try.prog) (W.alloc (.cells #[.int .u8 (xt : Int)] 5)).drew 92 5 Try.underlying92 Try.underlying5 W.heap.size 0 1 1 [(xt : Int)] rfl (fun i hi => by
    obtain rfl : i = 0 := by omega
    exact cell_of (halloc_at W (.cells #[.int .u8 (xt : Int)] 5)) rfl) 9 Try.underlying9
  rw [hso] at hcv
  clear hR hso
  conv => arg 2; whnf
  go_wp2_with fail
  refine wp_region_noPanic ?_
  go_region_law (first
    | (go_simp
       go_at_call 41
       refine (hrep _).mono ?_
       rintro e w4 ⟨rfl, k4⟩
       have k5 := ((Keeps.alloc (fun _ => False) W (.cells #[.int .u8 (xt : Int)] 5)).trans (Keeps.drew _ _)).trans k4
       have z2 := k5.cell t2 id
       have zf := k5.frozen tf tlt id
       dsimp only))
  all_goals
    refine NoPanic.normal ?_
    have S4 := SA.out.keeps k5
    have k6 := Keeps.setCell (S := fun g => g = gT) w4 ⟨gT, j * 3 + 2, none⟩ (Value.string { data := Array.replicate yt.length (UInt8.ofNat xt) }) (fun _ => rfl)
    have o6 : OwnT (w4.setCell ⟨gT, j * 3 + 2, none⟩ (Value.string { data := Array.replicate yt.length (UInt8.ofNat xt) })) (some ⟨gT, 0, none⟩) cT O' := (HF.out w4 S4.all).1
    have S6 := Lib.hid (S4.slice (k6.mono fun g _ e => by rw [e]; rfl) o6 (fun g hg => .inl hg))
    have K6 := Lib.hid ((k5.mono fun _ _ e => e.elim).trans (k6.mono fun g _ e => e ▸ NT.out.1) : Keeps (fun g => B0 ≤ g) W _)
    have E6 := k6.cell (k5.cell E0 id) NTw.out
    have T6 : (w4.setCell ⟨gT, j * 3 + 2, none⟩ (Value.string { data := Array.replicate yt.length (UInt8.ofNat xt) })).cell? ⟨gT, j * 3, none⟩ = some (.int .i64 ya) := (HF.out w4 S4.all).2.1
    have T7 : (w4.setCell ⟨gT, j * 3 + 2, none⟩ (Value.string { data := Array.replicate yt.length (UInt8.ofNat xt) })).cell? ⟨gT, j * 3 + 2, none⟩ = some (.string { data := Array.replicate yt.length (UInt8.ofNat xt) }) := (HF.out w4 S4.all).2.2
    generalize w4.setCell ⟨gT, j * 3 + 2, none⟩ (Value.string { data := Array.replicate yt.length (UInt8.ofNat xt) }) = V6 at S6 K6 E6 T6 T7 o6 k6 ⊢
    clear o6 k6 S4 z2 zf k5 k4 hcv t0 t1 t2 tf D0 D4 E0 hrep
    go_wp2_with fail
    go_still_tail 11, (by kernel_rfl)
    change wpList _ _ _ _ _ (World.drew _)
    have hc6 := HST.out V6.drew (S6.out.rw_.sp.keeps (Keeps.drew (fun _ => False) V6) id id id).mem
    have HC6 := Lib.hid hc6
    clear hc6
    go_wp2_with fail
    refine HC6.out.mono ?_
    rintro e w7 ⟨rfl, m7, k7⟩
    dsimp only
    have S7 := Lib.hid ((S6.out.keeps (Keeps.drew _ V6)).mem m7 F2.out k7 F3.out)
    have K7 := Lib.hid ((K6.out.trans (Keeps.drew _ V6)).trans (k7.mono fun g _ e => e ▸ S6.out.rw_.low.2.2.2.1))
    clear m7 k7 E6 T6 T7
    go_wp2_with fail
    exact ⟨⟨n, _, A, T, L, B, O', _, cA, _, cL, _, cT, f, by rw [HL.out], by omega, by rw [HL.out]; omega, S7.out.more⟩, K7.out⟩
end Go.Proofs.Shed
