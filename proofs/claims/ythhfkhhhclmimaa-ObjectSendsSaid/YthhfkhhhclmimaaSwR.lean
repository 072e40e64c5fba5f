/- ObjectSends: a round of its loop. Conditions: the state is the loop's. -/
import Derived.Test.YthhfkhhhclmimaaSwG
import Derived.IntWalk
set_option linter.unusedVariables false
set_option linter.unusedSimpArgs false
set_option maxRecDepth 1000000
set_option maxHeartbeats 8000000
namespace Go.Proofs.Shed
open Go Go.RowKit Go.Proofs.K

/-- What comes in: all numbers are bytes. -/
structure Deed13 where
  kind : Nat
  p : Nat
  c : Nat
  sel : Nat
  xt : Nat
def Deed13.Ok (d : Deed13) : Prop := d.kind < 256 ∧ d.p < 256 ∧ d.c < 256 ∧ d.sel < 256 ∧ d.xt < 256
def Arg13 (w : World) (a : Option Addr) (D : List Deed13) : Prop :=
  ∀ i (h : i < D.length), ∃ g o, a = some ⟨g, o, none⟩ ∧ w.cell? ⟨g, o + i * 5, none⟩ = some (.int .u8 D[i].kind) ∧ w.cell? ⟨g, o + i * 5 + 1, none⟩ = some (.int .u8 D[i].p) ∧ w.cell? ⟨g, o + i * 5 + 2, none⟩ = some (.int .u8 D[i].c) ∧
    w.cell? ⟨g, o + i * 5 + 3, none⟩ = some (.int .u8 D[i].sel) ∧ w.cell? ⟨g, o + i * 5 + 4, none⟩ = some (.int .u8 D[i].xt) ∧ D[i].Ok
theorem sends_round {Q0 : Exit → Go.Act → World → Prop} {w wr : World} {v0 : Value} {u0 u1 u2 u5 u8 u9 u10 u11 u12 u13 u14 u15 u16 u17 u18 u19 u20 u21 u22 u23 u24 u25 u26 u27 u28 u29 u30 u31 u32 u33 u34 u35 u36 u37 u38 u39 u40 u41 u42 u43 u44 u45 u46 u47 u48 u52 u53 u54 u55 u56 u57 u58 u59 u60 u61 u62 u63 u64 u65 u66 u67 u68 u69 u70 u71 u72 u73 u74 u75 u76 u77 u78 u79 u80 u81 u82 u83 u84 u85 u86 u87 u88 u89 u90 u91 u92 u93 u94 u95 u96 u97 u98 u99 u100 u101 u102 u103 u104 u105 u106 u107 u108 u109 u110 u111 u112 u113 u114 u115 u116 u117 u118 u119 u120 u121 u122 u123 u124 u125 u126 u127 u128 u129 u130 u131 u132 u133 u134 u135 u136 u137 u138 u139 u140 u141 u142 u143 u144 u145 u146 u147 u148 u149 u150 u151 u152 u153 u154 u155 u156 u157 u158 u159 u160 u161 u162 u163 u164 u165 u166 u167 u168 u169 u170 u171 u172 u173 u174 u175 u176 u177 u178 u179 u180 u181 u182 u183 u184 u185 u186 u187 u188 u189 u190 u191 u192 u193 u194 u195 u196 u197 u198 u199 u200 u201 u202 u203 u204 u205 u206 u207 u208 u209 u210 u211 u212 u213 u214 u215 u216 u217 u218 u219 u220 u221 u222 u223 u224 u225 u226 u227 u228 u229 u230 u231 u232 u233 u234 u235 u236 u237 u238 u239 u240 u241 u242 u243 u244 u245 u246 u247 u248 u249 u250 u251 u252 u253 u254 u255 u256 u257 u258 u259 u260 u261 u262 u263 u264 u265 u266 u267 u268 u269 u270 u271 u272 u273 u274 u275 u276 u277 u278 u279 u280 u281 u282 u283 u284 u285 u286 u287 u288 u289 u290 u291 u292 u293 u294 u295 u296 u297 u298 u299 u300 u301 u302 u303 u304 u305 u306 u307 u308 u309 u310 u311 u312 u313 u314 u315 u316 u317 u318 u319 u320 u321 u322 u323 u324 u325 u326 u327 : Value} {B0 wb s b bb h mb i c : Nat} {a : Option Addr} {D : List Deed13}
    (HA : Hid (Arg13 w a D)) (hD : D.length ≤ 60) (hB : w.heap.size ≤ B0) (hi : i ≤ D.length) (hm : SendsV B0 wr wb s b bb h mb i v0) (HK : Hid (Keeps (fun _ => False) w wr))
    (hQ : ∀ (v6 n2 n8 n9 n10 n11 n12 n13 n14 n15 n16 n17 n18 n19 n20 n52 n53 n54 n55 n56 n57 n58 n59 n60 n61 n62 n63 n64 n65 n66 n67 n68 n69 n70 n71 n72 n73 n74 n75 n76 n77 n78 n79 n80 n81 n82 n83 n84 n85 n86 n87 n88 n89 n90 n91 n92 n93 n94 n95 n96 n97 n98 n99 n100 n101 n102 n103 n104 n105 n106 n107 n108 n109 n110 n111 n112 n113 n114 n115 n116 n117 n118 n119 n120 n121 n122 n123 n124 n125 n126 n127 n128 n129 n130 n131 n132 n133 n134 n135 n136 n137 n138 n139 n140 n141 n142 n143 n144 n145 n146 n147 n148 n149 n150 n151 n152 n153 n154 n155 n156 n157 n158 n159 n160 n161 n162 n163 n164 n165 n166 n167 n168 n169 n170 n171 n172 n173 n174 n175 n176 n177 n178 n179 n180 n181 n182 n183 n184 n185 n186 n187 n188 n189 n190 n191 n192 n193 n194 n195 n196 n197 n198 n199 n200 n201 n202 n203 n204 n205 n206 n207 n208 n209 n210 n211 n212 n213 n214 n215 n216 n217 n218 n219 n220 n221 n222 n223 n224 n225 n226 n227 n228 n229 n230 n231 n232 n233 n234 n235 n236 n237 n238 n239 n240 n241 n242 n243 n244 n245 n246 n247 n248 n249 n250 n251 n252 n253 n254 n255 n256 n257 n258 n259 n260 n261 n262 n263 n264 n265 n266 n267 n268 n269 n270 n271 n272 n273 n274 n275 n276 n277 n278 n279 n280 n281 n282 n283 n284 n285 n286 n287 n288 n289 n290 n291 n292 n293 n294 n295 n296 n297 n298 n299 n300 n301 n302 n303 n304 n305 n306 n307 n308 n309 n310 n311 n312 n313 n314 n315 n316 n317 n318 n319 n320 n321 n322 n323 n324 n325 n326 n327 : Value) (w' : World), i < D.length ∧ SendsV B0 w' wb s b bb h mb (i + 1) v6 ∧ Keeps (fun _ => False) w w' → Q0 .normal ⟨#[u0, u1, n2, .pointer (some ⟨wb, 0, none⟩), .pointer (some ⟨h, 0, none⟩), u5, v6, .map (some mb), n8, n9, n10, n11, n12, n13, n14, n15, n16, n17, n18, n19, n20, u21, u22, u23, u24, u25, u26, u27, u28, u29, u30, u31, u32, u33, u34, u35, u36, u37, u38, u39, u40, u41, u42, u43, u44, u45, u46, u47, u48, .slice a D.length c, .int .i64 (D.length : Int), .int .i64 ((i : Int) + 1), n52, n53, n54, n55, n56, n57, n58, n59, n60, n61, n62, n63, n64, n65, n66, n67, n68, n69, n70, n71, n72, n73, n74, n75, n76, n77, n78, n79, n80, n81, n82, n83, n84, n85, n86, n87, n88, n89, n90, n91, n92, n93, n94, n95, n96, n97, n98, n99, n100, n101, n102, n103, n104, n105, n106, n107, n108, n109, n110, n111, n112, n113, n114, n115, n116, n117, n118, n119, n120, n121, n122, n123, n124, n125, n126, n127, n128, n129, n130, n131, n132, n133, n134, n135, n136, n137, n138, n139, n140, n141, n142, n143, n144, n145, n146, n147, n148, n149, n150, n151, n152, n153, n154, n155, n156, n157, n158, n159, n160, n161, n162, n163, n164, n165, n166, n167, n168, n169, n170, n171, n172, n173, n174, n175, n176, n177, n178, n179, n180, n181, n182, n183, n184, n185, n186, n187, n188, n189, n190, n191, n192, n193, n194, n195, n196, n197, n198, n199, n200, n201, n202, n203, n204, n205, n206, n207, n208, n209, n210, n211, n212, n213, n214, n215, n216, n217, n218, n219, n220, n221, n222, n223, n224, n225, n226, n227, n228, n229, n230, n231, n232, n233, n234, n235, n236, n237, n238, n239, n240, n241, n242, n243, n244, n245, n246, n247, n248, n249, n250, n251, n252, n253, n254, n255, n256, n257, n258, n259, n260, n261, n262, n263, n264, n265, n266, n267, n268, n269, n270, n271, n272, n273, n274, n275, n276, n277, n278, n279, n280, n281, n282, n283, n284, n285, n286, n287, n288, n289, n290, n291, n292, n293, n294, n295, n296, n297, n298, n299, n300, n301, n302, n303, n304, n305, n306, n307, n308, n309, n310, n311, n312, n313, n314, n315, n316, n317, n318, n319, n320, n321, n322, n323, n324, n325, n326, n327], []⟩ w')
    (hE : i = D.length → ∀ n52 : Value, Q0 (.exit 0) ⟨#[u0, u1, u2, .pointer (some ⟨wb, 0, none⟩), .pointer (some ⟨h, 0, none⟩), u5, v0, .map (some mb), u8, u9, u10, u11, u12, u13, u14, u15, u16, u17, u18, u19, u20, u21, u22, u23, u24, u25, u26, u27, u28, u29, u30, u31, u32, u33, u34, u35, u36, u37, u38, u39, u40, u41, u42, u43, u44, u45, u46, u47, u48, .slice a D.length c, .int .i64 (D.length : Int), .int .i64 (i : Int), n52, u53, u54, u55, u56, u57, u58, u59, u60, u61, u62, u63, u64, u65, u66, u67, u68, u69, u70, u71, u72, u73, u74, u75, u76, u77, u78, u79, u80, u81, u82, u83, u84, u85, u86, u87, u88, u89, u90, u91, u92, u93, u94, u95, u96, u97, u98, u99, u100, u101, u102, u103, u104, u105, u106, u107, u108, u109, u110, u111, u112, u113, u114, u115, u116, u117, u118, u119, u120, u121, u122, u123, u124, u125, u126, u127, u128, u129, u130, u131, u132, u133, u134, u135, u136, u137, u138, u139, u140, u141, u142, u143, u144, u145, u146, u147, u148, u149, u150, u151, u152, u153, u154, u155, u156, u157, u158, u159, u160, u161, u162, u163, u164, u165, u166, u167, u168, u169, u170, u171, u172, u173, u174, u175, u176, u177, u178, u179, u180, u181, u182, u183, u184, u185, u186, u187, u188, u189, u190, u191, u192, u193, u194, u195, u196, u197, u198, u199, u200, u201, u202, u203, u204, u205, u206, u207, u208, u209, u210, u211, u212, u213, u214, u215, u216, u217, u218, u219, u220, u221, u222, u223, u224, u225, u226, u227, u228, u229, u230, u231, u232, u233, u234, u235, u236, u237, u238, u239, u240, u241, u242, u243, u244, u245, u246, u247, u248, u249, u250, u251, u252, u253, u254, u255, u256, u257, u258, u259, u260, u261, u262, u263, u264, u265, u266, u267, u268, u269, u270, u271, u272, u273, u274, u275, u276, u277, u278, u279, u280, u281, u282, u283, u284, u285, u286, u287, u288, u289, u290, u291, u292, u293, u294, u295, u296, u297, u298, u299, u300, u301, u302, u303, u304, u305, u306, u307, u308, u309, u310, u311, u312, u313, u314, u315, u316, u317, u318, u319, u320, u321, u322, u323, u324, u325, u326, u327], []⟩ wr) :
    Code.wp Try.prog lb Q0 ⟨#[u0, u1, u2, .pointer (some ⟨wb, 0, none⟩), .pointer (some ⟨h, 0, none⟩), u5, v0, .map (some mb), u8, u9, u10, u11, u12, u13, u14, u15, u16, u17, u18, u19, u20, u21, u22, u23, u24, u25, u26, u27, u28, u29, u30, u31, u32, u33, u34, u35, u36, u37, u38, u39, u40, u41, u42, u43, u44, u45, u46, u47, u48, .slice a D.length c, .int .i64 (D.length : Int), .int .i64 (i : Int), u52, u53, u54, u55, u56, u57, u58, u59, u60, u61, u62, u63, u64, u65, u66, u67, u68, u69, u70, u71, u72, u73, u74, u75, u76, u77, u78, u79, u80, u81, u82, u83, u84, u85, u86, u87, u88, u89, u90, u91, u92, u93, u94, u95, u96, u97, u98, u99, u100, u101, u102, u103, u104, u105, u106, u107, u108, u109, u110, u111, u112, u113, u114, u115, u116, u117, u118, u119, u120, u121, u122, u123, u124, u125, u126, u127, u128, u129, u130, u131, u132, u133, u134, u135, u136, u137, u138, u139, u140, u141, u142, u143, u144, u145, u146, u147, u148, u149, u150, u151, u152, u153, u154, u155, u156, u157, u158, u159, u160, u161, u162, u163, u164, u165, u166, u167, u168, u169, u170, u171, u172, u173, u174, u175, u176, u177, u178, u179, u180, u181, u182, u183, u184, u185, u186, u187, u188, u189, u190, u191, u192, u193, u194, u195, u196, u197, u198, u199, u200, u201, u202, u203, u204, u205, u206, u207, u208, u209, u210, u211, u212, u213, u214, u215, u216, u217, u218, u219, u220, u221, u222, u223, u224, u225, u226, u227, u228, u229, u230, u231, u232, u233, u234, u235, u236, u237, u238, u239, u240, u241, u242, u243, u244, u245, u246, u247, u248, u249, u250, u251, u252, u253, u254, u255, u256, u257, u258, u259, u260, u261, u262, u263, u264, u265, u266, u267, u268, u269, u270, u271, u272, u273, u274, u275, u276, u277, u278, u279, u280, u281, u282, u283, u284, u285, u286, u287, u288, u289, u290, u291, u292, u293, u294, u295, u296, u297, u298, u299, u300, u301, u302, u303, u304, u305, u306, u307, u308, u309, u310, u311, u312, u313, u314, u315, u316, u317, u318, u319, u320, u321, u322, u323, u324, u325, u326, u327], []⟩ wr := by
  conv => arg 2; whnf
  by_cases hlt : i < D.length
  · obtain ⟨g, o, rfl, d0', d1', d2', d3', d4', hok⟩ := HA.out i hlt
    have d0 := HK.out.cell d0' id
    have d1 := HK.out.cell d1' id
    have d2 := HK.out.cell d2' id
    have d3 := HK.out.cell d3' id
    have d4 := HK.out.cell d4' id
    clear d0' d1' d2' d3' d4'
    generalize D[i] = d at d0 d1 d2 d3 d4 hok
    obtain ⟨kind, p, cc, sel, xt⟩ := d
    unfold Deed13.Ok at hok
    simp only at d0 d1 d2 d3 d4 hok
    obtain ⟨q1, q2, q3, q4, q5⟩ := hok
    have hi0 : (0 : Int) ≤ (i : Int) := by omega
    have KA := Lib.hid (Keeps.alloc (fun _ => False) wr (.cells #[.int .u8 kind, .int .u8 p, .int .u8 cc, .int .u8 sel, .int .u8 xt] 81))
    have KA' := Lib.hid (HK.out.trans KA.out)
    obtain ⟨n, x, A, T, L, B, O, aA, cA, aL, cL, aT, cT, f, rfl, hn, hO, hS⟩ := hm
    have SA := Lib.hid (hS.keeps KA.out)
    have HMK := Lib.hid (sends_make SA.out (by omega) p q2)
    by_cases hk0 : (kind : Int) % 7 = 0
    · clear hS
      have hk0' : ((kind : Int) % 7 == 0) = true := by simp [hk0]
      clear hk0
      go_wp2_with fail
      refine HMK.out.mono ?_
      rintro e w5 ⟨rfl, ⟨x', A', T', L', aA', cA', aL', cL', S5⟩, k5⟩
      dsimp only
      have S5' := Lib.hid S5
      have K5 := Lib.hid (KA'.out.trans' k5 (fun j hj e => by omega))
      clear S5 k5
      go_wp2_with fail
      apply hQ
      exact ⟨hlt, ⟨n, x', A', T', L', B, O, aA', cA', aL', cL', aT, cT, f, rfl, by omega, by omega, S5'.out⟩, K5.out⟩
    · have hk0' : ((kind : Int) % 7 == 0) = false := by simp [hk0]
      have e3 := cell_of (i := 3) SA.out.rw_.head rfl
      by_cases hA0 : A.length = 0
      · have hA0' : ((A.length : Int) == 0) = true := by simp [hA0]
        clear hk0 hA0 hS
        go_wp2_with fail
        refine HMK.out.mono ?_
        rintro e w5 ⟨rfl, ⟨x', A', T', L', aA', cA', aL', cL', S5⟩, k5⟩
        dsimp only
        have S5' := Lib.hid S5
        have K5 := Lib.hid (KA'.out.trans' k5 (fun j hj e => by omega))
        clear S5 k5
        go_wp2_with fail
        apply hQ
        exact ⟨hlt, ⟨n, x', A', T', L', B, O, aA', cA', aL', cL', aT, cT, f, rfl, by omega, by omega, S5'.out⟩, K5.out⟩
      · have hA0' : ((A.length : Int) == 0) = false := by simp; intro h; exact hA0 (by simp [h])
        have hA1 : 0 < (A.length : Int) := by omega
        clear HMK
        obtain ⟨k, hk⟩ : ∃ k : Nat, (cc : Int) % (A.length : Int) = k := ⟨((cc : Int) % (A.length : Int)).toNat, by have := Int.emod_nonneg (cc : Int) (b := (A.length : Int)) (by omega); omega⟩
        have hkl : k < A.length := by have := Int.emod_lt_of_pos (cc : Int) hA1; omega
        have HKK := Lib.hid hk
        clear hk
        go_upto_region 16 with (fail)
        have HC := Lib.hid (halloc_at wr (.cells #[.int .u8 kind, .int .u8 p, .int .u8 cc, .int .u8 sel, .int .u8 xt] 81))
        have NE := Lib.hid (show wr.heap.size ≠ bb ∧ wr.heap.size ≠ mb ∧ wr.heap.size ≠ s ∧ blk aT ≠ some wr.heap.size ∧ B0 ≤ wr.heap.size from by
          have h1 := hS.rw_.sp.lts
          have h2 := hS.map.lt
          have h3 := hS.low.1
          exact ⟨by omega, by omega, by omega, fun e => by have := Own.lt hS.all e; omega, h3⟩)
        clear hS
        have hwr : (wr.alloc (.cells #[.int .u8 kind, .int .u8 p, .int .u8 cc, .int .u8 sel, .int .u8 xt] 81)).heap.size = wr.heap.size + 1 := World.size_alloc _ _
        generalize hW : wr.alloc (.cells #[.int .u8 kind, .int .u8 p, .int .u8 cc, .int .u8 sel, .int .u8 xt] 81) = W at KA KA' SA HC hwr ⊢
        generalize hab : wr.heap.size = ab at HC NE hwr ⊢
        have D0 := cell_of (i := 0) HC.out rfl
        have D1 := cell_of (i := 1) HC.out rfl
        have D2 := cell_of (i := 2) HC.out rfl
        have D3 := cell_of (i := 3) HC.out rfl
        have hHW := Lib.hid hwr
        have HK0 := Lib.hid hk0
        clear hW hab hwr hk0 hA0 hk0' d0 d1 d2 d3 d4
        have g2 := fun (i : Stay W) => i.2.cell D2 id
        have g3 := fun (i : Stay W) => i.2.cell D3 id
        have x3 := fun (i : Stay W) => i.2.cell (cell_of (i := 3) SA.out.rw_.head rfl) id
        have hAe : ¬ A = [] := fun e => by rw [e] at hA1; exact absurd hA1 (by simp)
        have hcw : IntKind.i64.wrap (cc : Int) = cc := IntWalk.i64_in _ (by omega)
        have hct : (cc : Int).tmod (A.length : Int) = (cc : Int) % (A.length : Int) := Int.tmod_eq_emod_of_nonneg (by omega)
        have hst : (sel : Int).tmod 8 = (sel : Int) % 8 := Int.tmod_eq_emod_of_nonneg (by omega)
        refine Go.Proofs.K.wp_region_calm ?calm1a ?calm1b ?_
        case calm1a => kernel_rfl
        case calm1b => kernel_rfl
        repeat ((with_reducible refine wpQuiet_step ?_); intro Kq hKq; go_simp; first | ((with_reducible refine hKq _ ?_); clear hKq Kq) | (refine hKq _ ?_; clear hKq Kq) | (apply Exists.intro; refine ⟨fun _ => ?_, hKq _ ?_⟩; (fail); clear hKq Kq))
        with_reducible refine wpQuiet_nil ?_
        intro v1 hw'
        obtain ⟨⟨wq, kq⟩, hw''⟩ := hw'
        subst hw''
        have KQ := Lib.hid kq
        clear g2 g3 x3 kq D0 D2 D3 hcw hct hst hAe hA0'
        rw [HKK.out]
        obtain ⟨sl, hsl, hs0, hs1⟩ : ∃ sl : Int, IntKind.i64.wrap (IntKind.i64.wrap ((sel : Int) % 8) + 1) = sl ∧ 1 ≤ sl ∧ sl ≤ 8 := by
          refine ⟨_, rfl, ?_⟩
          rw [IntWalk.i64_in ((sel : Int) % 8) (by omega), IntWalk.i64_in _ (by omega)]
          omega
        rw [hsl]
        clear hsl
        have SV := Lib.hid (SA.out.keeps KQ.out)
        have HV := Lib.hid (KQ.out.heap HC.out id)
        have KV := Lib.hid (KA'.out.trans KQ.out)
        have g1 := cell_of (i := 1) HV.out rfl
        obtain ⟨gA, hgA, hga⟩ : ∃ g, aA = some ⟨g, 0, none⟩ ∧ v1.cell? ⟨g, k, none⟩ = some (.int .i64 (Class.nth A k)) := by
          have ho := SV.out.rw_.own
          rcases Own.form ho with ⟨_, h0, _⟩ | ⟨g, cur, hx, _⟩
          · omega
          · refine ⟨g, hx, ?_⟩
            rw [hx] at ho
            refine Own.cell ho ?_
            rw [List.getElem?_map]
            unfold Class.nth
            rw [List.getD_eq_getElem?_getD, List.getElem?_eq_getElem hkl]
            rfl
        subst hgA
        have fin : ∀ w', Keeps (fun g => B0 ≤ g) v1 w' → Keeps (fun _ => False) w w' := fun w' kx => KV.out.trans' kx (fun j hj e => by omega)
        clear SA KA KA' HC KQ hHW e3 HKK hA1
        go_upto_block 2 with (fail)
        change Code.wp Try.prog sw _ _ _
        refine sw_all q1 q5 hkl (by omega) hs0 hs1 SV hn hO hga HV HK0.out ⟨NE.out.1, NE.out.2.2.1, NE.out.2.1, NE.out.2.2.2.1⟩ (fun v6 => ?_)
        intros
        rename_i wc hcut
        obtain ⟨⟨n5, x5, A5, T5, L5, B5, O5, aA5, cA5, aL5, cL5, aT5, cT5, f5, rfl, hn5, hO5, S5⟩, k5⟩ := hcut
        have S5' := Lib.hid S5
        have K5 := Lib.hid (fin wc k5)
        have hH1 := Lib.hid fun V (kx : Keeps (fun _ => False) wc V) (z : Int) => holds_law _ V wb s b bb x5 A5 T5 L5 B5 O5 (i + 1) aA5 cA5 aL5 cL5 aT5 cT5 z (S5'.out.keeps kx).rw_ S5'.out.wd (by omega) S5'.out.own (S5'.out.keeps kx).all (by omega)
        clear S5 k5 SV HV KV hga fin g1
        go_wp2_with fail
        refine (hH1.out _ (Keeps.refl _ _) _).mono ?_
        rintro e w6 ⟨rfl, k6⟩
        dsimp only
        have K6 := Lib.hid k6
        clear k6
        go_wp2_with fail
        refine (hH1.out _ K6.out _).mono ?_
        rintro e w7 ⟨rfl, k7⟩
        dsimp only
        have K7 := Lib.hid (K6.out.trans k7)
        clear k7
        go_wp2_with fail
        apply hQ
        exact ⟨hlt, ⟨n5, x5, A5, T5, L5, B5, O5, aA5, cA5, aL5, cL5, aT5, cT5, f5, rfl, hn5, hO5, S5'.out.keeps K7.out⟩, K5.out.trans K7.out⟩
  · have hge : i = D.length := by omega
    have hE2 := hE hge
    clear hE hQ
    subst hge
    go_wp2_with fail
    exact hE2 _
end Go.Proofs.Shed
