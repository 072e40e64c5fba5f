/- ObjectSends: the walk of its switch: a method that is set. Conditions: the state is the loop's. -/
import Derived.Test.YthhfkhhhclmimaaSwS
import Derived.IntWalk
set_option linter.unusedVariables false
set_option linter.unusedSimpArgs false
set_option maxRecDepth 1000000
set_option maxHeartbeats 8000000
namespace Go.Proofs.Shed
open Go Go.RowKit Go.Proofs.K

theorem sw_set {Q0 : Exit → Go.Act → World → Prop} {W : World} {u0 u1 u2 u5 u8 u13 u14 u15 u16 u17 u18 u19 u20 u21 u22 u23 u24 u25 u26 u27 u28 u29 u30 u31 u32 u33 u34 u35 u36 u37 u38 u39 u40 u41 u42 u43 u44 u45 u46 u47 u48 u49 u50 u51 u52 u53 u54 u55 u56 u57 u58 u59 u60 u61 u62 u63 u64 u65 u66 u67 u68 u69 u70 u71 u72 u73 u74 u75 u76 u77 u78 u79 u80 u81 u82 u83 u84 u85 u86 u87 u88 u89 u90 u91 u92 u93 u94 u95 u96 u97 u98 u99 u100 u101 u102 u103 u104 u105 u106 u107 u108 u109 u110 u111 u112 u113 u114 u115 u116 u117 u118 u119 u120 u121 u122 u123 u124 u125 u126 u127 u128 u129 u130 u131 u132 u133 u134 u135 u136 u137 u138 u139 u140 u141 u142 u143 u144 u145 u146 u147 u148 u149 u150 u151 u152 u153 u154 u155 u156 u157 u158 u159 u160 u161 u162 u163 u164 u165 u166 u167 u168 u169 u170 u171 u172 u173 u174 u175 u176 u177 u178 u179 u180 u181 u182 u183 u184 u185 u186 u187 u188 u189 u190 u191 u192 u193 u194 u195 u196 u197 u198 u199 u200 u201 u202 u203 u204 u205 u206 u207 u208 u209 u210 u211 u212 u213 u214 u215 u216 u217 u218 u219 u220 u221 u222 u223 u224 u225 u226 u227 u228 u229 u230 u231 u232 u233 u234 u235 u236 u237 u238 u239 u240 u241 u242 u243 u244 u245 u246 u247 u248 u249 u250 u251 u252 u253 u254 u255 u256 u257 u258 u259 u260 u261 u262 u263 u264 u265 u266 u267 u268 u269 u270 u271 u272 u273 u274 u275 u276 u277 u278 u279 u280 u281 u282 u283 u284 u285 u286 u287 u288 u289 u290 u291 u292 u293 u294 u295 u296 u297 u298 u299 u300 u301 u302 u303 u304 u305 u306 u307 u308 u309 u310 u311 u312 u313 u314 u315 u316 u317 u318 u319 u320 u321 u322 u323 u324 u325 u326 u327 : Value} {B0 ab wb s b bb h mb i n : Nat} {x : Sp} {A T : List Int} {L : List RCls} {B : List Blk} {O : List Thing} {gA cA : Nat} {aL : Option Addr} {cL : Nat} {aT : Option Addr} {cT : Nat} {f : Int → Bool}
    {kind p cc sel xt k : Nat} {sl : Int} (q1 : kind < 256) (q5 : xt < 256) (hkl : k < A.length) (hi : i < 60) (hs0 : 1 ≤ sl) (hs1 : sl ≤ 8)
    (SA : Hid (Sends B0 W wb s b bb h mb i n x A T L B B O O (some ⟨gA, 0, none⟩) cA aL cL aT cT f)) (hn : n ≤ i) (hO : O.length ≤ i) (hga : W.cell? ⟨gA, k, none⟩ = some (.int .i64 (Class.nth A k)))
    (HC : Hid (W.heap[ab]? = some (.cells #[.int .u8 kind, .int .u8 p, .int .u8 cc, .int .u8 sel, .int .u8 xt] 81 (0, 0))))
    (hkind : (kind : Int) % 7 = 1) (hab : ¬ ab = bb ∧ ¬ ab = s ∧ ¬ ab = mb ∧ ¬ blk aT = some ab)
    (hQ : ∀ (v6 n13 n14 n15 n16 n17 n18 n19 n20 n86 n87 n88 n89 n90 n91 n92 n93 n94 n95 n96 n97 n98 n99 n100 n101 n102 n103 n104 n105 n106 n107 n108 n109 n110 n111 n112 n113 n114 n115 n116 n117 n118 n119 n120 n121 n122 n123 n124 n125 n126 n127 n128 n129 n130 n131 n132 n133 n134 n135 n136 n137 n138 n139 n140 n141 n142 n143 n144 n145 n146 n147 n148 n149 n150 n151 n152 n153 n154 n155 n156 n157 n158 n159 n160 n161 n162 n163 n164 n165 n166 n167 n168 n169 n170 n171 n172 n173 n174 n175 n176 n177 n178 n179 n180 n181 n182 n183 n184 n185 n186 n187 n188 n189 n190 n191 n192 n193 n194 n195 n196 n197 n198 n199 n200 n201 n202 n203 n204 n205 n206 n207 n208 n209 n210 n211 n212 n213 n214 n215 n216 n217 n218 n219 n220 n221 n222 n223 n224 n225 n226 n227 n228 n229 n230 n231 n232 n233 n234 n235 n236 n237 n238 n239 n240 n241 n242 n243 n244 n245 n246 n247 n248 n249 n250 n251 n252 n253 n254 n255 n256 n257 n258 n259 n260 n261 n262 n263 n264 n265 n266 n267 n268 n269 n270 n271 n272 n273 n274 n275 n276 n277 n278 n279 n280 n281 n282 n283 n284 n285 n286 n287 n288 n289 n290 n291 n292 n293 n294 n295 n296 n297 n298 n299 n300 n301 n302 n303 n304 n305 n306 n307 n308 n309 n310 n311 n312 n313 n314 : Value) (w' : World), SendsV B0 w' wb s b bb h mb (i + 1) v6 ∧ Keeps (fun g => B0 ≤ g) W w' → Q0 .normal ⟨#[u0, u1, u2, .pointer (some ⟨wb, 0, none⟩), .pointer (some ⟨h, 0, none⟩), u5, v6, .map (some mb), u8, .pointer (some ⟨ab, 0, none⟩), .int .i64 (k : Int), .int .i64 sl, .int .i64 (p : Int), n13, n14, n15, n16, n17, n18, n19, n20, u21, u22, u23, u24, u25, u26, u27, u28, u29, u30, u31, u32, u33, u34, u35, u36, u37, u38, u39, u40, u41, u42, u43, u44, u45, u46, u47, u48, u49, u50, u51, u52, u53, u54, u55, u56, u57, u58, u59, u60, u61, u62, u63, u64, u65, u66, u67, u68, u69, u70, u71, u72, u73, u74, u75, u76, u77, u78, u79, u80, u81, u82, u83, u84, u85, n86, n87, n88, n89, n90, n91, n92, n93, n94, n95, n96, n97, n98, n99, n100, n101, n102, n103, n104, n105, n106, n107, n108, n109, n110, n111, n112, n113, n114, n115, n116, n117, n118, n119, n120, n121, n122, n123, n124, n125, n126, n127, n128, n129, n130, n131, n132, n133, n134, n135, n136, n137, n138, n139, n140, n141, n142, n143, n144, n145, n146, n147, n148, n149, n150, n151, n152, n153, n154, n155, n156, n157, n158, n159, n160, n161, n162, n163, n164, n165, n166, n167, n168, n169, n170, n171, n172, n173, n174, n175, n176, n177, n178, n179, n180, n181, n182, n183, n184, n185, n186, n187, n188, n189, n190, n191, n192, n193, n194, n195, n196, n197, n198, n199, n200, n201, n202, n203, n204, n205, n206, n207, n208, n209, n210, n211, n212, n213, n214, n215, n216, n217, n218, n219, n220, n221, n222, n223, n224, n225, n226, n227, n228, n229, n230, n231, n232, n233, n234, n235, n236, n237, n238, n239, n240, n241, n242, n243, n244, n245, n246, n247, n248, n249, n250, n251, n252, n253, n254, n255, n256, n257, n258, n259, n260, n261, n262, n263, n264, n265, n266, n267, n268, n269, n270, n271, n272, n273, n274, n275, n276, n277, n278, n279, n280, n281, n282, n283, n284, n285, n286, n287, n288, n289, n290, n291, n292, n293, n294, n295, n296, n297, n298, n299, n300, n301, n302, n303, n304, n305, n306, n307, n308, n309, n310, n311, n312, n313, n314, u315, u316, u317, u318, u319, u320, u321, u322, u323, u324, u325, u326, u327], []⟩ w') :
    Code.wp Try.prog sw Q0 ⟨#[u0, u1, u2, .pointer (some ⟨wb, 0, none⟩), .pointer (some ⟨h, 0, none⟩), u5, .slice aT O.length cT, .map (some mb), u8, .pointer (some ⟨ab, 0, none⟩), .int .i64 (k : Int), .int .i64 sl, .int .i64 (p : Int), u13, u14, u15, u16, u17, u18, u19, u20, u21, u22, u23, u24, u25, u26, u27, u28, u29, u30, u31, u32, u33, u34, u35, u36, u37, u38, u39, u40, u41, u42, u43, u44, u45, u46, u47, u48, u49, u50, u51, u52, u53, u54, u55, u56, u57, u58, u59, u60, u61, u62, u63, u64, u65, u66, u67, u68, u69, u70, u71, u72, u73, u74, u75, u76, u77, u78, u79, u80, u81, u82, u83, u84, u85, u86, u87, u88, u89, u90, u91, u92, u93, u94, u95, u96, u97, u98, u99, u100, u101, u102, u103, u104, u105, u106, u107, u108, u109, u110, u111, u112, u113, u114, u115, u116, u117, u118, u119, u120, u121, u122, u123, u124, u125, u126, u127, u128, u129, u130, u131, u132, u133, u134, u135, u136, u137, u138, u139, u140, u141, u142, u143, u144, u145, u146, u147, u148, u149, u150, u151, u152, u153, u154, u155, u156, u157, u158, u159, u160, u161, u162, u163, u164, u165, u166, u167, u168, u169, u170, u171, u172, u173, u174, u175, u176, u177, u178, u179, u180, u181, u182, u183, u184, u185, u186, u187, u188, u189, u190, u191, u192, u193, u194, u195, u196, u197, u198, u199, u200, u201, u202, u203, u204, u205, u206, u207, u208, u209, u210, u211, u212, u213, u214, u215, u216, u217, u218, u219, u220, u221, u222, u223, u224, u225, u226, u227, u228, u229, u230, u231, u232, u233, u234, u235, u236, u237, u238, u239, u240, u241, u242, u243, u244, u245, u246, u247, u248, u249, u250, u251, u252, u253, u254, u255, u256, u257, u258, u259, u260, u261, u262, u263, u264, u265, u266, u267, u268, u269, u270, u271, u272, u273, u274, u275, u276, u277, u278, u279, u280, u281, u282, u283, u284, u285, u286, u287, u288, u289, u290, u291, u292, u293, u294, u295, u296, u297, u298, u299, u300, u301, u302, u303, u304, u305, u306, u307, u308, u309, u310, u311, u312, u313, u314, u315, u316, u317, u318, u319, u320, u321, u322, u323, u324, u325, u326, u327], []⟩ W := by
  have h1 : ((kind : Int) % 7 == 1) = true := by simp [hkind]
  clear hkind
  have hkA : k < A.length := hkl
  have hAL : A.length = L.length := SA.out.wd.good.nA
  have hLl := SA.out.wd.len
  have hkL : k < L.length := by omega
  clear hAL
  have hnc : A.length ≤ cA := by
    rcases Own.form SA.out.rw_.own with ⟨hx, _⟩ | ⟨g, cur, hx, hh, hnc, _⟩
    · cases hx
    · exact hnc
  have hgw := SA.out.rw_.at_ gA rfl
  have hnw := SA.out.rw_.ne
  have hww := SA.out.rw_.low
  have hR := SA.out.rw_
  have hfr := RWorld.fresh hR SA.out.fresh
  have hSET := Lib.hid (ref_set _ _ _ _ _ L k sl xt hR.ref SA.out.wd.good.ref hfr hkL (by omega) (fun y hy => by have := SA.out.own y hy; omega))
  have HS1 := Lib.hid (SA.out.wd.set hkL sl xt (by unfold In64; omega) (by unfold In64; omega)).1
  have HMS := Lib.hid fun w1 (hk : Keeps (fun _ => False) W w1) (w2 : World) a5 c5 hm2 k2 hr => sends_set (w := w1) (w1 := w2) (SA.out.keeps hk) hkL sl xt (by unfold In64; omega) (by unfold In64; omega) hm2 k2 (a5 := a5) (c5 := c5) hr
  have HCS := Lib.hid fun w (h : RMem w b bb x.mem) => class_set w b bb x.mem 8 (Class.nth A k) sl xt h
  have hbd := SA.out.wd.good.pos hkL
  generalize Ref.set L k sl xt = q at hSET HS1 HMS
  generalize Class.set x.mem 8 (Class.nth A k) sl xt = r at HS1 HMS HCS
  have hne : (r.2 != q.2) = false := by rw [HS1.out]; simp
  have HR0 := Lib.hid hR
  have D0 := cell_of (i := 0) HC.out rfl
  have D4 := cell_of (i := 4) HC.out rfl
  have E0 := cell_of (i := 0) hR.head rfl
  have E2 := cell_of (i := 2) hR.head rfl
  have E3 := cell_of (i := 3) hR.head rfl
  have E4 := cell_of (i := 4) hR.head rfl
  have HNE := Lib.hid (show ¬ wb = bb ∧ ¬ gA = bb ∧ ¬ ab = bb from ⟨hnw.2.2, hgw.2.2.2.2, hab.1⟩)
  generalize Class.nth A k = ca at hga HCS hbd
  clear hR hfr hgw hnw hww
  conv => arg 2; whnf
  go_wp2_with fail
  refine hSET.out.mono ?_
  rintro e w3 ⟨a5, c5, rfl, r3, k3⟩
  dsimp only
  have K13 := Lib.hid k3
  have F0 := k3.cell E0 id
  have F2 := k3.cell E2 id
  have F3 := k3.cell E3 id
  have FA := k3.cell hga id
  have F5 := k3.cell D4 id
  have HQ3 := Lib.hid (HR0.out.keeps9 (K13.out.trans (Keeps.drew _ w3)))
  have hcs := Lib.hid (HCS.out w3.drew HQ3.out.sp.mem)
  have R3 := Lib.hid (r3.keeps (Keeps.drew (fun _ => False) w3) (fun _ _ => id))
  have NB := Lib.hid HNE.out.1
  have NG := Lib.hid HNE.out.2.1
  have N9 := Lib.hid HNE.out.2.2
  clear r3 k3 D0 D4 E0 E2 E3 E4 hSET hga
  go_wp2_with fail
  have hw2 : IntKind.i64.wrap (xt : Int) = xt := IntWalk.i64_in _ (by omega)
  go_region_held3 (fun w' => w'.cell? ⟨wb, 0, none⟩ = some (.pointer (some ⟨b, 0, none⟩)) ∧ w'.cell? ⟨wb, 2, none⟩ = some (.int .i64 8) ∧ w'.cell? ⟨wb, 3, none⟩ = some (.slice (some ⟨gA, 0, none⟩) A.length cA) ∧ w'.cell? ⟨gA, k, none⟩ = some (.int .i64 ca) ∧
      w'.cell? ⟨ab, 4, none⟩ = some (.int .u8 xt))
    (first | go_keep | exact ⟨k4.cell F0 NB.out, k4.cell F2 NB.out, k4.cell F3 NB.out, k4.cell FA NG.out, k4.cell F5 N9.out⟩)
    ((go_at_call 26; refine hcs.out.mono ?_; rintro e w4 ⟨rfl, m4, k4⟩; dsimp only))
  have H4 := k4.heap HQ3.out.head NB.out
  have f4 := free_of (i := 4) H4
  have z4 := cell_of (i := 4) H4 rfl
  obtain ⟨⟨x5, L5, M5⟩, K5⟩ := HMS.out w3.drew (K13.out.trans (Keeps.drew _ w3)) w4 a5 c5 m4 k4 R3.out
  have M5' := Lib.hid M5
  have K5' := Lib.hid (((K13.out.trans (Keeps.drew _ w3)).mono (fun _ _ e => e.elim)).trans' K5 (fun j hj e => e))
  clear M5 K5 m4 k4
  go_wp2_with fail
  exact ⟨⟨n, x5, A, T, L5, B, O, _, cA, a5, c5, aT, cT, f, rfl, by omega, by omega, M5'.out⟩, K5'.out⟩
end Go.Proofs.Shed
