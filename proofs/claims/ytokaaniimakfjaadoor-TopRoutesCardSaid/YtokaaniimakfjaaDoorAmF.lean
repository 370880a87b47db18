/- campaniletop.TopRoutes: where something is taken. -/
import Derived.Test.YtokaaniimakfjaaDoorAmE
set_option linter.unusedSimpArgs false
set_option linter.unusedVariables false
set_option linter.unusedSectionVars false
namespace Go.Proofs.YtokaaniimakfjaaDoor
open Go.RowKit

set_option maxHeartbeats 4000000 in
set_option maxRecDepth 1000000 in
theorem lr_tn {u0 u1 u2 u3 u4 u6 u7 u8 u9 u10 u11 u14 u15 u18 u19 u20 u21 u22 u23 u24 u25 u26 u27 u28 u29 u30 u31 u32 u33 u34 u35 u36 u37 u38 u39 u40 u41 u42 u43 u44 u45 u46 u47 u48 u49 u50 u51 u52 u53 u54 u55 u56 u57 u58 u59 u60 u61 u62 u63 u64 u65 u66 u67 u68 u69 u70 u71 u72 u73 u74 u75 u76 u77 u78 u79 u80 u81 u82 u83 u84 u85 u86 u87 u88 u89 u90 u91 u92 u93 u94 u95 u96 u97 u98 u99 u100 u101 u102 u103 u104 u105 u106 u107 u108 u109 u110 u111 u112 u113 u114 u115 u116 u117 u118 u119 u120 u121 u122 u123 u124 u125 u126 u127 u128 u129 u130 u131 u132 u133 u134 u135 u137 u138 u139 u140 u141 u142 u143 u144 u145 u146 u147 u148 u149 u150 u151 u152 u153 u154 u155 u156 u157 u158 u159 u160 u161 u162 u163 u164 u165 u166 u167 u168 u169 u170 u171 u172 u173 u174 u175 u176 u177 u178 u179 u180 u181 u182 u183 u184 u185 u186 u187 u188 u189 u190 u191 u192 u193 u194 u195 u196 u197 u198 u199 u200 u201 u202 u203 u204 u205 u206 u207 u208 u209 u210 u211 u212 u213 u214 u215 u216 u217 u218 u219 u220 u221 u222 u223 u224 u225 u226 u227 u228 u229 u230 u231 u232 u233 u234 u235 u236 u237 u238 u239 u240 u241 u242 u243 u244 u245 u246 u247 u248 u249 u250 u251 u252 u253 u254 u255 u256 u257 u258 u259 u260 u261 u262 u263 u264 u265 u266 u267 u268 u269 u270 u271 u272 u273 u274 u275 u276 u277 u278 u279 u280 u281 u282 u283 u284 u285 u286 u287 u288 u289 u290 u291 u292 u293 u294 u295 u296 u297 u298 u299 u300 u301 u302 u303 u304 u305 u306 u307 u308 u309 u310 u311 u312 u313 u314 u315 u316 u317 u318 u319 u320 u321 u322 u323 u324 u325 u326 u327 u328 u329 u330 u331 u332 u333 u334 u335 u336 u337 u338 u339 u340 u341 u342 u343 u344 u345 u346 u347 u348 u349 u350 u351 u352 u353 u354 u355 u356 u357 u358 u359 u360 u361 u362 u363 u364 u365 u366 u367 u368 u369 u370 u371 u372 u373 u374 u375 u376 u377 u378 u379 u380 u381 u382 u383 u384 : Value} (w0 W : World) (rb ob np dst : Nat) (d : Int) (s : ByteArray) (A : Option Addr) (c : Nat) (B : Option Addr) (cb : Nat) (ps : List Pth) (on : List Bool)
    (hM : RM w0 rb ob np A c B cb ps ps on W) (hok : PsOk ps) (hlp : ps.length = np) (hon : on.length = 3) (hc : np ≤ c) (hdst : dst ≤ 2) (hs : s.size ≤ 8) (hd : 4 < d) (hi : IdxP (takes dst) ps (-1))
    {Q' : Exit → Act → World → Prop} {J K : Act → World → Prop} (hQ : ∀ c (a a' : Act) w, a.defers = a'.defers → Q' (.panic c) a w → Q' (.panic c) a' w) (hJ : ∀ a' w', R6 w0 rb ob np dst u0 u1 u2 u3 u4 u6 u7 u8 u9 u10 u11 u14 u15 (.string s) u40 u41 u42 u43 u44 u45 u46 u47 u48 u49 u50 u51 u52 u53 u54 u55 u56 u57 u58 u59 u60 u61 u62 u63 u64 u65 u66 u67 u68 u69 u70 u71 u72 u73 u74 u75 u76 u77 u78 u79 u80 u81 u82 u83 u84 u85 u86 u87 u88 u89 u90 u91 u92 u93 u94 u95 u96 u97 u98 u99 u100 u101 u102 u103 u104 u105 u106 u107 u108 u109 u110 u111 u112 u113 u114 u115 u116 u117 u118 u119 u384 a' w' → J a' w') (hK : ∀ a' w', Met J a' w' → K a' w') :
    Code.wp Tryd.prog (lrBlk 6) (Exit.then K Q') ⟨#[u0, u1, u2, u3, u4, .pointer (some ⟨w0.heap.size + 1, 0, none⟩), u6, u7, u8, u9, u10, u11, .slice (some ⟨rb, 0, none⟩) np np, .slice (some ⟨ob, 0, none⟩) 3 3, u14, u15, .int .i64 (dst : Nat), .string s, u18, u19, u20, u21, u22, u23, u24, u25, u26, u27, u28, u29, u30, u31, u32, u33, u34, u35, u36, u37, u38, u39, u40, u41, u42, u43, u44, u45, u46, u47, u48, u49, u50, u51, u52, u53, u54, u55, u56, u57, u58, u59, u60, u61, u62, u63, u64, u65, u66, u67, u68, u69, u70, u71, u72, u73, u74, u75, u76, u77, u78, u79, u80, u81, u82, u83, u84, u85, u86, u87, u88, u89, u90, u91, u92, u93, u94, u95, u96, u97, u98, u99, u100, u101, u102, u103, u104, u105, u106, u107, u108, u109, u110, u111, u112, u113, u114, u115, u116, u117, u118, u119, u120, u121, u122, u123, u124, u125, u126, u127, u128, u129, u130, u131, u132, u133, u134, u135, .int .u8 d, u137, u138, u139, u140, u141, u142, u143, u144, u145, u146, u147, u148, u149, u150, u151, u152, u153, u154, u155, u156, u157, u158, u159, u160, u161, u162, u163, u164, u165, u166, u167, u168, u169, u170, u171, u172, u173, u174, u175, u176, u177, u178, u179, u180, u181, u182, u183, u184, u185, u186, u187, u188, u189, u190, u191, u192, u193, u194, u195, u196, u197, u198, u199, u200, u201, u202, u203, u204, u205, u206, u207, u208, u209, u210, u211, u212, u213, u214, u215, u216, u217, u218, u219, u220, u221, u222, u223, u224, u225, u226, u227, u228, u229, u230, u231, u232, u233, u234, u235, u236, u237, u238, u239, u240, u241, u242, u243, u244, u245, u246, u247, u248, u249, u250, u251, u252, u253, u254, u255, u256, u257, u258, u259, u260, u261, u262, u263, u264, u265, u266, u267, u268, u269, u270, u271, u272, u273, u274, u275, u276, u277, u278, u279, u280, u281, u282, u283, u284, u285, u286, u287, u288, u289, u290, u291, u292, u293, u294, u295, u296, u297, u298, u299, u300, u301, u302, u303, u304, u305, u306, u307, u308, u309, u310, u311, u312, u313, u314, u315, u316, u317, u318, u319, u320, u321, u322, u323, u324, u325, u326, u327, u328, u329, u330, u331, u332, u333, u334, u335, u336, u337, u338, u339, u340, u341, u342, u343, u344, u345, u346, u347, u348, u349, u350, u351, u352, u353, u354, u355, u356, u357, u358, u359, u360, u361, u362, u363, u364, u365, u366, u367, u368, u369, u370, u371, u372, u373, u374, u375, u376, u377, u378, u379, u380, u381, u382, u383, u384], []⟩ W := by
  conv => arg 2; whnf
  have HOK := Lib.hid hok
  have HON := Lib.hid hon
  have HLP := Lib.hid hlp
  have HM := Lib.hid hM
  have hnp6 : np ≤ 6 := by rw [← hlp]; exact hok.len
  have HC := Lib.hid (fun W hP => pTake_none W A B np c cb dst ps hP hlp hok hc hi)
  have b0 := hM.box.cell 0
  have b1 := hM.box.cell 1
  clear hok hon hlp hM
  have t0 : ((d : Int) == 0) = false := by simp; omega
  have t1 : ((d : Int) == 1) = false := by simp; omega
  have t2 : ((d : Int) == 2) = false := by simp; omega
  have t3 : ((d : Int) == 3) = false := by simp; omega
  have t4 : ((d : Int) == 4) = false := by simp; omega
  go_upto_block 7 with (go_at_call 6; refine (HC.out _ HM.out.pth).mono ?_; rintro e w1 ⟨rfl, hb'⟩; have HM1 := Lib.hid ((HM.out.step hb').alloc (.cells #[.slice none 0 0, .slice none 0 0] 26)); clear hb' b0 b1)
  clear t0 t1 t2 t3 t4
  go_wp2_with fail
  have HNN : Hid (∀ j (h : j < ps.length), takes dst ps[j] = false) := by
    apply Lib.hid
    rcases hi with ⟨k, hk, _⟩ | ⟨_, h⟩
    · exact absurd hk (by omega)
    · exact h
  clear hi
  go_loopg [36] np (fun gk s36 W => ∃ j : Nat, j ≤ np ∧ gk = np - j ∧ s36 = .int .i64 (j : Nat) ∧ True ∧ RM w0 rb ob np A c B cb ps ps on W)
  case atStart => exact ⟨0, by omega, by omega, rfl, trivial, HM1.out⟩
  case round =>
    clear HM1 HC HM
    obtain ⟨j, hj, hgj, rfl, hno, hM⟩ := hrel
    have HGJ := Lib.hid hgj
    have HNO := Lib.hid hno
    clear hgj hno
    by_cases hjn : j < np
    · have hjp : j < ps.length := by rw [HLP.out]; exact hjn
      obtain ⟨ivs, hP⟩ := hM.pth
      obtain ⟨g1, o1, hA⟩ := hP.isSome j hjp
      subst hA
      have y1 := hP.cell j 1 hjp (by decide)
      have x0 := hM.box.cell 0
      have hjI : (j : Int) < np := by omega
      have hj0 : (0 : Int) ≤ j := by omega
      obtain ⟨RA, rc, hr0, hrc, hrs⟩ := hM.row.get j hjp
      have htk := HNN.out j hjp
      have HM2 := Lib.hid hM
      generalize ivs[j]'(by rw [hP.len]; exact hjp) = iv at y1
      clear hM hP hrs
      generalize ps[j] = q at *
      obtain ⟨qf, qt, qs, qi, qc, qb⟩ := q
      simp only [pcells] at y1 hr0 hrc
      by_cases hqt : qt = dst
      · have hz : qi.length = 0 := by
          simp only [takes, hqt, beq_self_eq_true, Bool.true_and, decide_eq_false_iff_not] at htk
          omega
        have hqb : ((qt : Int) != (dst : Int)) = false := by simp; omega
        rw [hz] at hr0
        clear htk hqt hrc
        go_wp2
        go_roundg (np - (j + 1))
        case measure => have := HGJ.out; omega
        case rel => exact ⟨j + 1, by omega, rfl, by go_num, trivial, HM2.out⟩
      · have hqb : ((qt : Int) != (dst : Int)) = true := by simp; omega
        clear htk hqt
        go_wp2
        go_roundg (np - (j + 1))
        case measure => have := HGJ.out; omega
        case rel => exact ⟨j + 1, by omega, rfl, by go_num, trivial, HM2.out⟩
    · have hjn1 : j = np := by omega
      subst hjn1
      have HF : Hid (RMx w0 rb ob j wr) := Lib.hid ⟨A, c, B, cb, _, _, hM, HOK.out, HLP.out, HON.out, hc⟩
      clear hM
      go_wp2
      refine Met.intro (hJ _ _ ?_)
      unfold R6
      (repeat apply Exists.intro)
      exact ⟨HF.out, rfl⟩


set_option maxHeartbeats 4000000 in
set_option maxRecDepth 1000000 in
theorem lr_r32 {u0 u1 u2 u3 u4 u6 u7 u8 u9 u10 u11 u13 u14 u15 u16 u17 u18 u19 u20 u21 u22 u23 u24 u25 u26 u27 u28 u29 u30 u31 u33 u34 u35 u37 u38 u39 u40 u41 u42 u43 u44 u45 u46 u47 u48 u49 u50 u51 u52 u53 u54 u55 u56 u57 u58 u59 u60 u61 u62 u63 u64 u65 u66 u67 u68 u69 u70 u71 u72 u73 u74 u75 u76 u77 u78 u79 u80 u81 u82 u83 u84 u85 u86 u87 u88 u89 u90 u91 u92 u93 u94 u95 u96 u97 u98 u99 u100 u101 u102 u103 u104 u105 u106 u107 u108 u109 u110 u111 u112 u113 u114 u115 u116 u117 u118 u119 u120 u121 u122 u123 u124 u125 u126 u127 u128 u129 u130 u131 u132 u133 u134 u135 u136 u137 u138 u139 u140 u141 u142 u143 u144 u145 u146 u147 u148 u149 u150 u151 u152 u153 u154 u155 u156 u157 u158 u159 u160 u161 u162 u163 u164 u165 u166 u167 u168 u169 u170 u171 u172 u173 u174 u175 u176 u177 u178 u179 u180 u181 u182 u183 u184 u185 u186 u187 u188 u189 u190 u191 u192 u193 u194 u195 u196 u197 u198 u199 u200 u201 u202 u203 u204 u205 u206 u207 u208 u209 u210 u211 u212 u213 u214 u215 u216 u217 u218 u219 u220 u221 u222 u223 u224 u225 u226 u227 u228 u229 u230 u231 u232 u233 u234 u235 u236 u237 u238 u239 u240 u241 u242 u243 u244 u245 u246 u247 u248 u249 u250 u251 u252 u253 u254 u255 u256 u257 u258 u259 u260 u261 u262 u263 u264 u265 u266 u267 u268 u269 u270 u271 u272 u273 u274 u275 u276 u277 u278 u279 u280 u281 u282 u283 u284 u285 u286 u287 u288 u289 u290 u291 u292 u293 u294 u295 u296 u297 u298 u299 u300 u301 u302 u303 u304 u305 u306 u307 u308 u309 u310 u311 u312 u313 u314 u315 u316 u317 u318 u319 u320 u321 u322 u323 u324 u325 u326 u327 u328 u329 u330 u331 u332 u333 u334 u335 u336 u337 u338 u339 u340 u341 u342 u343 u344 u345 u346 u347 u348 u349 u350 u351 u352 u353 u354 u355 u356 u357 u358 u359 u360 u361 u362 u363 u364 u365 u366 u367 u368 u369 u370 u371 u372 u373 u374 u375 u376 u377 u378 u379 u380 u381 u382 u383 u384 : Value} (W : World) (xb yb rb k np m4 c4 gr og : Nat) (A' B : Option Addr) (c' cb : Nat) (z0 z1 : Value) (hk : k < np) (hm : 1 ≤ m4) (hm4 : m4 ≤ c4)
    (y0 : W.cell? ⟨yb, 0, none⟩ = some (.slice A' np c')) (y1 : W.cell? ⟨yb, 1, none⟩ = some (.slice B 3 cb)) (r0 : W.cell? ⟨rb, k, none⟩ = some (.slice (some ⟨gr, og, none⟩) m4 c4)) (x0 : W.cell? ⟨xb, 0, none⟩ = some z0) (x1 : W.cell? ⟨xb, 1, none⟩ = some z1)
    (f0 : W.frozen? ⟨xb, 0, none⟩ = false) (f1 : W.frozen? ⟨xb, 1, none⟩ = false) (fr : W.frozen? ⟨rb, k, none⟩ = false) (hne : rb ≠ xb) (hyx : yb ≠ xb)
    {Q : Exit → Act → World → Prop} (hQ : ∀ c (a a' : Act) w, a.defers = a'.defers → Q (.panic c) a w → Q (.panic c) a' w)
    (hK : ∀ (v205 v206 v207 v208 v209 v210 v211 v212 v213 : Value) (o2 c2 : Nat), m4 - 1 ≤ c2 → (o2 = og + 1 ∨ m4 = 1 ∧ o2 = og) → Q .normal ⟨#[u0, u1, u2, u3, u4, .pointer (some ⟨xb, 0, none⟩), u6, u7, u8, u9, u10, u11, .slice (some ⟨rb, 0, none⟩) np np, u13, u14, u15, u16, u17, u18, u19, u20, u21, u22, u23, u24, u25, u26, u27, u28, u29, u30, u31, .pointer (some ⟨yb, 0, none⟩), u33, u34, u35, .int .i64 (k : Nat), u37, u38, u39, u40, u41, u42, u43, u44, u45, u46, u47, u48, u49, u50, u51, u52, u53, u54, u55, u56, u57, u58, u59, u60, u61, u62, u63, u64, u65, u66, u67, u68, u69, u70, u71, u72, u73, u74, u75, u76, u77, u78, u79, u80, u81, u82, u83, u84, u85, u86, u87, u88, u89, u90, u91, u92, u93, u94, u95, u96, u97, u98, u99, u100, u101, u102, u103, u104, u105, u106, u107, u108, u109, u110, u111, u112, u113, u114, u115, u116, u117, u118, u119, u120, u121, u122, u123, u124, u125, u126, u127, u128, u129, u130, u131, u132, u133, u134, u135, u136, u137, u138, u139, u140, u141, u142, u143, u144, u145, u146, u147, u148, u149, u150, u151, u152, u153, u154, u155, u156, u157, u158, u159, u160, u161, u162, u163, u164, u165, u166, u167, u168, u169, u170, u171, u172, u173, u174, u175, u176, u177, u178, u179, u180, u181, u182, u183, u184, u185, u186, u187, u188, u189, u190, u191, u192, u193, u194, u195, u196, u197, u198, u199, u200, u201, u202, u203, u204, v205, v206, v207, v208, v209, v210, v211, v212, v213, u214, u215, u216, u217, u218, u219, u220, u221, u222, u223, u224, u225, u226, u227, u228, u229, u230, u231, u232, u233, u234, u235, u236, u237, u238, u239, u240, u241, u242, u243, u244, u245, u246, u247, u248, u249, u250, u251, u252, u253, u254, u255, u256, u257, u258, u259, u260, u261, u262, u263, u264, u265, u266, u267, u268, u269, u270, u271, u272, u273, u274, u275, u276, u277, u278, u279, u280, u281, u282, u283, u284, u285, u286, u287, u288, u289, u290, u291, u292, u293, u294, u295, u296, u297, u298, u299, u300, u301, u302, u303, u304, u305, u306, u307, u308, u309, u310, u311, u312, u313, u314, u315, u316, u317, u318, u319, u320, u321, u322, u323, u324, u325, u326, u327, u328, u329, u330, u331, u332, u333, u334, u335, u336, u337, u338, u339, u340, u341, u342, u343, u344, u345, u346, u347, u348, u349, u350, u351, u352, u353, u354, u355, u356, u357, u358, u359, u360, u361, u362, u363, u364, u365, u366, u367, u368, u369, u370, u371, u372, u373, u374, u375, u376, u377, u378, u379, u380, u381, u382, u383, u384], []⟩ (((W.drew.setCell ⟨xb, 0, none⟩ (.slice A' np c')).setCell ⟨xb, 1, none⟩ (.slice B 3 cb)).setCell ⟨rb, k, none⟩ (.slice (some ⟨gr, o2, none⟩) (m4 - 1) c2))) :
    Code.wp Tryd.prog (lrReg 32) Q ⟨#[u0, u1, u2, u3, u4, .pointer (some ⟨xb, 0, none⟩), u6, u7, u8, u9, u10, u11, .slice (some ⟨rb, 0, none⟩) np np, u13, u14, u15, u16, u17, u18, u19, u20, u21, u22, u23, u24, u25, u26, u27, u28, u29, u30, u31, .pointer (some ⟨yb, 0, none⟩), u33, u34, u35, .int .i64 (k : Nat), u37, u38, u39, u40, u41, u42, u43, u44, u45, u46, u47, u48, u49, u50, u51, u52, u53, u54, u55, u56, u57, u58, u59, u60, u61, u62, u63, u64, u65, u66, u67, u68, u69, u70, u71, u72, u73, u74, u75, u76, u77, u78, u79, u80, u81, u82, u83, u84, u85, u86, u87, u88, u89, u90, u91, u92, u93, u94, u95, u96, u97, u98, u99, u100, u101, u102, u103, u104, u105, u106, u107, u108, u109, u110, u111, u112, u113, u114, u115, u116, u117, u118, u119, u120, u121, u122, u123, u124, u125, u126, u127, u128, u129, u130, u131, u132, u133, u134, u135, u136, u137, u138, u139, u140, u141, u142, u143, u144, u145, u146, u147, u148, u149, u150, u151, u152, u153, u154, u155, u156, u157, u158, u159, u160, u161, u162, u163, u164, u165, u166, u167, u168, u169, u170, u171, u172, u173, u174, u175, u176, u177, u178, u179, u180, u181, u182, u183, u184, u185, u186, u187, u188, u189, u190, u191, u192, u193, u194, u195, u196, u197, u198, u199, u200, u201, u202, u203, u204, u205, u206, u207, u208, u209, u210, u211, u212, u213, u214, u215, u216, u217, u218, u219, u220, u221, u222, u223, u224, u225, u226, u227, u228, u229, u230, u231, u232, u233, u234, u235, u236, u237, u238, u239, u240, u241, u242, u243, u244, u245, u246, u247, u248, u249, u250, u251, u252, u253, u254, u255, u256, u257, u258, u259, u260, u261, u262, u263, u264, u265, u266, u267, u268, u269, u270, u271, u272, u273, u274, u275, u276, u277, u278, u279, u280, u281, u282, u283, u284, u285, u286, u287, u288, u289, u290, u291, u292, u293, u294, u295, u296, u297, u298, u299, u300, u301, u302, u303, u304, u305, u306, u307, u308, u309, u310, u311, u312, u313, u314, u315, u316, u317, u318, u319, u320, u321, u322, u323, u324, u325, u326, u327, u328, u329, u330, u331, u332, u333, u334, u335, u336, u337, u338, u339, u340, u341, u342, u343, u344, u345, u346, u347, u348, u349, u350, u351, u352, u353, u354, u355, u356, u357, u358, u359, u360, u361, u362, u363, u364, u365, u366, u367, u368, u369, u370, u371, u372, u373, u374, u375, u376, u377, u378, u379, u380, u381, u382, u383, u384], []⟩ W := by
  conv => arg 2; whnf
  have hne' : ¬ (rb = xb) := hne
  have hne2 : ¬ (xb = rb) := fun h => hne h.symm
  have hkI : (k : Int) < np := by omega
  have hk0 : (0 : Int) ≤ k := by omega
  have hmI : (1 : Int) ≤ m4 := by omega
  have hcI : (1 : Int) ≤ c4 := by omega
  have hmc : (m4 : Int) ≤ c4 := by omega
  have hcf : ∀ (g o : Nat), g ≠ xb → ((W.drew.setCell ⟨xb, 0, none⟩ (.slice A' np c')).setCell ⟨xb, 1, none⟩ (.slice B 3 cb)).cell? ⟨g, o, none⟩ = W.cell? ⟨g, o, none⟩ := fun g o h => World.cell?_of_block ((Below.heap_setCell _ ⟨xb, 1, none⟩ _ g h).trans (Below.heap_setCell W.drew ⟨xb, 0, none⟩ _ g h))
  have r1 := (hcf _ k hne).trans r0
  have HCF := Lib.hid hcf
  clear hcf
  have hcf := HCF.out
  by_cases hc1 : c4 = 1
  · subst hc1
    have hm1 : m4 = 1 := by omega
    subst hm1
    refine wp_region_T (fun w' => w'.cell? ⟨yb, 0, none⟩ = some (.slice A' np c') ∧ w'.cell? ⟨yb, 1, none⟩ = some (.slice B 3 cb) ∧ w'.cell? ⟨rb, k, none⟩ = some (.slice (some ⟨gr, og, none⟩) 1 1)) [10] (by kernel_rfl) ?_
    refine wpAnyT_pure (i := 0) (v := ?_) rfl (by kernel_rfl) (by kernel_rfl) (by kernel_rfl) (by kernel_rfl) (fun _ _ _ h => hQ _ _ _ _ (by rfl) h) ⟨by rfl, ?_⟩ (fun _ => ⟨y0, y1, r0⟩) ?_
    rotate_left
    · intro wx; go_simp; all_goals with_reducible rfl
    simp only [Act.put, List.setIfInBounds_toArray, List.set_cons_succ, List.set_cons_zero]
    refine wpAnyT_pure (i := 1) (v := ?_) rfl (by kernel_rfl) (by kernel_rfl) (by kernel_rfl) (by kernel_rfl) (fun _ _ _ h => hQ _ _ _ _ (by rfl) h) ⟨by rfl, ?_⟩ (fun _ => ⟨y0, y1, r0⟩) ?_
    rotate_left
    · intro wx; go_simp; all_goals with_reducible rfl
    simp only [Act.put, List.setIfInBounds_toArray, List.set_cons_succ, List.set_cons_zero]
    refine wpAnyT_read (i := 2) (v := ?_) rfl (by kernel_rfl) (by kernel_rfl) (by kernel_rfl) (by kernel_rfl) (by kernel_rfl) (by kernel_rfl) (fun _ _ _ h => hQ _ _ _ _ (by rfl) h) ⟨by rfl, ?_⟩ ⟨y0, y1, r0⟩ ?_
    rotate_left
    · intro wx hwx; go_simp; all_goals with_reducible rfl
    simp only [Act.put, List.setIfInBounds_toArray, List.set_cons_succ, List.set_cons_zero]
    refine wpAnyT_pure (i := 3) (v := ?_) rfl (by kernel_rfl) (by kernel_rfl) (by kernel_rfl) (by kernel_rfl) (fun _ _ _ h => hQ _ _ _ _ (by rfl) h) ⟨by rfl, ?_⟩ (fun _ => ⟨y0, y1, r0⟩) ?_
    rotate_left
    · intro wx; go_simp; all_goals with_reducible rfl
    simp only [Act.put, List.setIfInBounds_toArray, List.set_cons_succ, List.set_cons_zero]
    refine wpAnyT_pure (i := 4) (v := ?_) rfl (by kernel_rfl) (by kernel_rfl) (by kernel_rfl) (by kernel_rfl) (fun _ _ _ h => hQ _ _ _ _ (by rfl) h) ⟨by rfl, ?_⟩ (fun _ => ⟨y0, y1, r0⟩) ?_
    rotate_left
    · intro wx; go_simp; all_goals with_reducible rfl
    simp only [Act.put, List.setIfInBounds_toArray, List.set_cons_succ, List.set_cons_zero]
    refine wpAnyT_pure (i := 5) (v := ?_) rfl (by kernel_rfl) (by kernel_rfl) (by kernel_rfl) (by kernel_rfl) (fun _ _ _ h => hQ _ _ _ _ (by rfl) h) ⟨by rfl, ?_⟩ (fun _ => ⟨y0, y1, r0⟩) ?_
    rotate_left
    · intro wx; go_simp; all_goals with_reducible rfl
    simp only [Act.put, List.setIfInBounds_toArray, List.set_cons_succ, List.set_cons_zero]
    refine wpAnyT_read (i := 6) (v := ?_) rfl (by kernel_rfl) (by kernel_rfl) (by kernel_rfl) (by kernel_rfl) (by kernel_rfl) (by kernel_rfl) (fun _ _ _ h => hQ _ _ _ _ (by rfl) h) ⟨by rfl, ?_⟩ ⟨y0, y1, r0⟩ ?_
    rotate_left
    · intro wx hwx; go_simp; all_goals with_reducible rfl
    simp only [Act.put, List.setIfInBounds_toArray, List.set_cons_succ, List.set_cons_zero]
    refine wpAnyT_pure (i := 7) (v := ?_) rfl (by kernel_rfl) (by kernel_rfl) (by kernel_rfl) (by kernel_rfl) (fun _ _ _ h => hQ _ _ _ _ (by rfl) h) ⟨by rfl, ?_⟩ (fun _ => ⟨y0, y1, r0⟩) ?_
    rotate_left
    · intro wx; go_simp; all_goals with_reducible rfl
    simp only [Act.put, List.setIfInBounds_toArray, List.set_cons_succ, List.set_cons_zero]
    refine wpAnyT_next (i := 8) (by kernel_rfl) rfl (fun K1 hK1 => ?_)
    go_simp
    refine hK1 _ _ (fun _ => ⟨(hcf _ _ hyx).trans y0, (hcf _ _ hyx).trans y1, (hcf _ _ hne).trans r0⟩) ?_
    clear hK1 K1
    try simp only [Act.put, List.setIfInBounds_toArray, List.set_cons_succ, List.set_cons_zero]
    refine wpAnyT_next (i := 9) (by kernel_rfl) rfl (fun K1 hK1 => ?_)
    go_simp
    refine hK1 _ _ (fun _ => ⟨(hcf _ _ hyx).trans y0, (hcf _ _ hyx).trans y1, (hcf _ _ hne).trans r0⟩) ?_
    clear hK1 K1
    try simp only [Act.put, List.setIfInBounds_toArray, List.set_cons_succ, List.set_cons_zero]
    refine wpAnyT_next (i := 10) (by kernel_rfl) rfl (fun K1 hK1 => ?_)
    go_simp
    refine hK1 _ _ (fun h => by cases h) ?_
    clear hK1 K1
    try simp only [Act.put, List.setIfInBounds_toArray, List.set_cons_succ, List.set_cons_zero]
    refine wpAnyT_done (by kernel_rfl) ?_ _
    exact hK _ _ _ _ _ _ _ _ _ _ _ (by omega) (.inr ⟨rfl, rfl⟩)
  · have hc1' : ¬ (c4 = 1) := hc1
    refine wp_region_T (fun w' => w'.cell? ⟨yb, 0, none⟩ = some (.slice A' np c') ∧ w'.cell? ⟨yb, 1, none⟩ = some (.slice B 3 cb) ∧ w'.cell? ⟨rb, k, none⟩ = some (.slice (some ⟨gr, og, none⟩) m4 c4)) [10] (by kernel_rfl) ?_
    refine wpAnyT_pure (i := 0) (v := ?_) rfl (by kernel_rfl) (by kernel_rfl) (by kernel_rfl) (by kernel_rfl) (fun _ _ _ h => hQ _ _ _ _ (by rfl) h) ⟨by rfl, ?_⟩ (fun _ => ⟨y0, y1, r0⟩) ?_
    rotate_left
    · intro wx; go_simp; all_goals with_reducible rfl
    simp only [Act.put, List.setIfInBounds_toArray, List.set_cons_succ, List.set_cons_zero]
    refine wpAnyT_pure (i := 1) (v := ?_) rfl (by kernel_rfl) (by kernel_rfl) (by kernel_rfl) (by kernel_rfl) (fun _ _ _ h => hQ _ _ _ _ (by rfl) h) ⟨by rfl, ?_⟩ (fun _ => ⟨y0, y1, r0⟩) ?_
    rotate_left
    · intro wx; go_simp; all_goals with_reducible rfl
    simp only [Act.put, List.setIfInBounds_toArray, List.set_cons_succ, List.set_cons_zero]
    refine wpAnyT_read (i := 2) (v := ?_) rfl (by kernel_rfl) (by kernel_rfl) (by kernel_rfl) (by kernel_rfl) (by kernel_rfl) (by kernel_rfl) (fun _ _ _ h => hQ _ _ _ _ (by rfl) h) ⟨by rfl, ?_⟩ ⟨y0, y1, r0⟩ ?_
    rotate_left
    · intro wx hwx; go_simp; all_goals with_reducible rfl
    simp only [Act.put, List.setIfInBounds_toArray, List.set_cons_succ, List.set_cons_zero]
    refine wpAnyT_pure (i := 3) (v := ?_) rfl (by kernel_rfl) (by kernel_rfl) (by kernel_rfl) (by kernel_rfl) (fun _ _ _ h => hQ _ _ _ _ (by rfl) h) ⟨by rfl, ?_⟩ (fun _ => ⟨y0, y1, r0⟩) ?_
    rotate_left
    · intro wx; go_simp; all_goals with_reducible rfl
    simp only [Act.put, List.setIfInBounds_toArray, List.set_cons_succ, List.set_cons_zero]
    refine wpAnyT_pure (i := 4) (v := ?_) rfl (by kernel_rfl) (by kernel_rfl) (by kernel_rfl) (by kernel_rfl) (fun _ _ _ h => hQ _ _ _ _ (by rfl) h) ⟨by rfl, ?_⟩ (fun _ => ⟨y0, y1, r0⟩) ?_
    rotate_left
    · intro wx; go_simp; all_goals with_reducible rfl
    simp only [Act.put, List.setIfInBounds_toArray, List.set_cons_succ, List.set_cons_zero]
    refine wpAnyT_pure (i := 5) (v := ?_) rfl (by kernel_rfl) (by kernel_rfl) (by kernel_rfl) (by kernel_rfl) (fun _ _ _ h => hQ _ _ _ _ (by rfl) h) ⟨by rfl, ?_⟩ (fun _ => ⟨y0, y1, r0⟩) ?_
    rotate_left
    · intro wx; go_simp; all_goals with_reducible rfl
    simp only [Act.put, List.setIfInBounds_toArray, List.set_cons_succ, List.set_cons_zero]
    refine wpAnyT_read (i := 6) (v := ?_) rfl (by kernel_rfl) (by kernel_rfl) (by kernel_rfl) (by kernel_rfl) (by kernel_rfl) (by kernel_rfl) (fun _ _ _ h => hQ _ _ _ _ (by rfl) h) ⟨by rfl, ?_⟩ ⟨y0, y1, r0⟩ ?_
    rotate_left
    · intro wx hwx; go_simp; all_goals with_reducible rfl
    simp only [Act.put, List.setIfInBounds_toArray, List.set_cons_succ, List.set_cons_zero]
    refine wpAnyT_pure (i := 7) (v := ?_) rfl (by kernel_rfl) (by kernel_rfl) (by kernel_rfl) (by kernel_rfl) (fun _ _ _ h => hQ _ _ _ _ (by rfl) h) ⟨by rfl, ?_⟩ (fun _ => ⟨y0, y1, r0⟩) ?_
    rotate_left
    · intro wx; go_simp; all_goals with_reducible rfl
    simp only [Act.put, List.setIfInBounds_toArray, List.set_cons_succ, List.set_cons_zero]
    refine wpAnyT_next (i := 8) (by kernel_rfl) rfl (fun K1 hK1 => ?_)
    go_simp
    refine hK1 _ _ (fun _ => ⟨(hcf _ _ hyx).trans y0, (hcf _ _ hyx).trans y1, (hcf _ _ hne).trans r0⟩) ?_
    clear hK1 K1
    try simp only [Act.put, List.setIfInBounds_toArray, List.set_cons_succ, List.set_cons_zero]
    refine wpAnyT_next (i := 9) (by kernel_rfl) rfl (fun K1 hK1 => ?_)
    go_simp
    refine hK1 _ _ (fun _ => ⟨(hcf _ _ hyx).trans y0, (hcf _ _ hyx).trans y1, (hcf _ _ hne).trans r0⟩) ?_
    clear hK1 K1
    try simp only [Act.put, List.setIfInBounds_toArray, List.set_cons_succ, List.set_cons_zero]
    refine wpAnyT_next (i := 10) (by kernel_rfl) rfl (fun K1 hK1 => ?_)
    go_simp
    refine hK1 _ _ (fun h => by cases h) ?_
    clear hK1 K1
    try simp only [Act.put, List.setIfInBounds_toArray, List.set_cons_succ, List.set_cons_zero]
    refine wpAnyT_done (by kernel_rfl) ?_ _
    exact hK _ _ _ _ _ _ _ _ _ _ _ (by omega) (.inl rfl)

set_option maxHeartbeats 4000000 in
set_option maxRecDepth 1000000 in
theorem lr_ts {u0 u1 u2 u3 u4 u6 u7 u8 u9 u10 u11 u14 u15 u18 u19 u20 u21 u22 u23 u24 u25 u26 u27 u28 u29 u30 u31 u32 u33 u34 u35 u36 u37 u38 u39 u40 u41 u42 u43 u44 u45 u46 u47 u48 u49 u50 u51 u52 u53 u54 u55 u56 u57 u58 u59 u60 u61 u62 u63 u64 u65 u66 u67 u68 u69 u70 u71 u72 u73 u74 u75 u76 u77 u78 u79 u80 u81 u82 u83 u84 u85 u86 u87 u88 u89 u90 u91 u92 u93 u94 u95 u96 u97 u98 u99 u100 u101 u102 u103 u104 u105 u106 u107 u108 u109 u110 u111 u112 u113 u114 u115 u116 u117 u118 u119 u120 u121 u122 u123 u124 u125 u126 u127 u128 u129 u130 u131 u132 u133 u134 u135 u137 u138 u139 u140 u141 u142 u143 u144 u145 u146 u147 u148 u149 u150 u151 u152 u153 u154 u155 u156 u157 u158 u159 u160 u161 u162 u163 u164 u165 u166 u167 u168 u169 u170 u171 u172 u173 u174 u175 u176 u177 u178 u179 u180 u181 u182 u183 u184 u185 u186 u187 u188 u189 u190 u191 u192 u193 u194 u195 u196 u197 u198 u199 u200 u201 u202 u203 u204 u205 u206 u207 u208 u209 u210 u211 u212 u213 u214 u215 u216 u217 u218 u219 u220 u221 u222 u223 u224 u225 u226 u227 u228 u229 u230 u231 u232 u233 u234 u235 u236 u237 u238 u239 u240 u241 u242 u243 u244 u245 u246 u247 u248 u249 u250 u251 u252 u253 u254 u255 u256 u257 u258 u259 u260 u261 u262 u263 u264 u265 u266 u267 u268 u269 u270 u271 u272 u273 u274 u275 u276 u277 u278 u279 u280 u281 u282 u283 u284 u285 u286 u287 u288 u289 u290 u291 u292 u293 u294 u295 u296 u297 u298 u299 u300 u301 u302 u303 u304 u305 u306 u307 u308 u309 u310 u311 u312 u313 u314 u315 u316 u317 u318 u319 u320 u321 u322 u323 u324 u325 u326 u327 u328 u329 u330 u331 u332 u333 u334 u335 u336 u337 u338 u339 u340 u341 u342 u343 u344 u345 u346 u347 u348 u349 u350 u351 u352 u353 u354 u355 u356 u357 u358 u359 u360 u361 u362 u363 u364 u365 u366 u367 u368 u369 u370 u371 u372 u373 u374 u375 u376 u377 u378 u379 u380 u381 u382 u383 u384 : Value} (w0 W : World) (rb ob np dst : Nat) (d : Int) (s : ByteArray) (A : Option Addr) (c : Nat) (B : Option Addr) (cb : Nat) (ps : List Pth) (on : List Bool)
    (hM : RM w0 rb ob np A c B cb ps ps on W) (hok : PsOk ps) (hlp : ps.length = np) (hon : on.length = 3) (hc : np ≤ c) (hdst : dst ≤ 2) (hs : s.size ≤ 8) (hd : 4 < d) (k : Nat) (hk : k < ps.length) (x : ByteArray) (l : List ByteArray) (hi : IdxP (takes dst) ps (k : Int)) (hx : ps[k].items = x :: l)
    {Q' : Exit → Act → World → Prop} {J K : Act → World → Prop} (hQ : ∀ c (a a' : Act) w, a.defers = a'.defers → Q' (.panic c) a w → Q' (.panic c) a' w) (hJ : ∀ a' w', R6 w0 rb ob np dst u0 u1 u2 u3 u4 u6 u7 u8 u9 u10 u11 u14 u15 (.string s) u40 u41 u42 u43 u44 u45 u46 u47 u48 u49 u50 u51 u52 u53 u54 u55 u56 u57 u58 u59 u60 u61 u62 u63 u64 u65 u66 u67 u68 u69 u70 u71 u72 u73 u74 u75 u76 u77 u78 u79 u80 u81 u82 u83 u84 u85 u86 u87 u88 u89 u90 u91 u92 u93 u94 u95 u96 u97 u98 u99 u100 u101 u102 u103 u104 u105 u106 u107 u108 u109 u110 u111 u112 u113 u114 u115 u116 u117 u118 u119 u384 a' w' → J a' w') (hK : ∀ a' w', Met J a' w' → K a' w') :
    Code.wp Tryd.prog (lrBlk 6) (Exit.then K Q') ⟨#[u0, u1, u2, u3, u4, .pointer (some ⟨w0.heap.size + 1, 0, none⟩), u6, u7, u8, u9, u10, u11, .slice (some ⟨rb, 0, none⟩) np np, .slice (some ⟨ob, 0, none⟩) 3 3, u14, u15, .int .i64 (dst : Nat), .string s, u18, u19, u20, u21, u22, u23, u24, u25, u26, u27, u28, u29, u30, u31, u32, u33, u34, u35, u36, u37, u38, u39, u40, u41, u42, u43, u44, u45, u46, u47, u48, u49, u50, u51, u52, u53, u54, u55, u56, u57, u58, u59, u60, u61, u62, u63, u64, u65, u66, u67, u68, u69, u70, u71, u72, u73, u74, u75, u76, u77, u78, u79, u80, u81, u82, u83, u84, u85, u86, u87, u88, u89, u90, u91, u92, u93, u94, u95, u96, u97, u98, u99, u100, u101, u102, u103, u104, u105, u106, u107, u108, u109, u110, u111, u112, u113, u114, u115, u116, u117, u118, u119, u120, u121, u122, u123, u124, u125, u126, u127, u128, u129, u130, u131, u132, u133, u134, u135, .int .u8 d, u137, u138, u139, u140, u141, u142, u143, u144, u145, u146, u147, u148, u149, u150, u151, u152, u153, u154, u155, u156, u157, u158, u159, u160, u161, u162, u163, u164, u165, u166, u167, u168, u169, u170, u171, u172, u173, u174, u175, u176, u177, u178, u179, u180, u181, u182, u183, u184, u185, u186, u187, u188, u189, u190, u191, u192, u193, u194, u195, u196, u197, u198, u199, u200, u201, u202, u203, u204, u205, u206, u207, u208, u209, u210, u211, u212, u213, u214, u215, u216, u217, u218, u219, u220, u221, u222, u223, u224, u225, u226, u227, u228, u229, u230, u231, u232, u233, u234, u235, u236, u237, u238, u239, u240, u241, u242, u243, u244, u245, u246, u247, u248, u249, u250, u251, u252, u253, u254, u255, u256, u257, u258, u259, u260, u261, u262, u263, u264, u265, u266, u267, u268, u269, u270, u271, u272, u273, u274, u275, u276, u277, u278, u279, u280, u281, u282, u283, u284, u285, u286, u287, u288, u289, u290, u291, u292, u293, u294, u295, u296, u297, u298, u299, u300, u301, u302, u303, u304, u305, u306, u307, u308, u309, u310, u311, u312, u313, u314, u315, u316, u317, u318, u319, u320, u321, u322, u323, u324, u325, u326, u327, u328, u329, u330, u331, u332, u333, u334, u335, u336, u337, u338, u339, u340, u341, u342, u343, u344, u345, u346, u347, u348, u349, u350, u351, u352, u353, u354, u355, u356, u357, u358, u359, u360, u361, u362, u363, u364, u365, u366, u367, u368, u369, u370, u371, u372, u373, u374, u375, u376, u377, u378, u379, u380, u381, u382, u383, u384], []⟩ W := by
  conv => arg 2; whnf
  have HOK := Lib.hid hok
  have HON := Lib.hid hon
  have HLP := Lib.hid hlp
  have HM := Lib.hid hM
  have hnp6 : np ≤ 6 := by rw [← hlp]; exact hok.len
  have HC := Lib.hid (fun W hP => pTake_some W A B np c cb dst ps k hk x l hP hlp hok hc hi hx)
  have b0 := hM.box.cell 0
  have b1 := hM.box.cell 1
  clear hok hon hlp hM
  have t0 : ((d : Int) == 0) = false := by simp; omega
  have t1 : ((d : Int) == 1) = false := by simp; omega
  have t2 : ((d : Int) == 2) = false := by simp; omega
  have t3 : ((d : Int) == 3) = false := by simp; omega
  have t4 : ((d : Int) == 4) = false := by simp; omega
  have hkn : k < np := by rw [← HLP.out]; exact hk
  go_upto_block 7 with (go_at_call 6; refine (HC.out _ HM.out.pth).mono ?_; rintro e w1 ⟨A', c', rfl, hc', hP', hb'⟩; have HM1 := Lib.hid ((HM.out.step hb').alloc (.cells #[.slice A' np c', .slice B 3 cb] 26)); have HY1 : Hid (RY w0 w1.heap.size np A' c' B cb (ps.set k (ps[k].hold l)) on (w1.alloc (.cells #[.slice A' np c', .slice B 3 cb] 26))) := Lib.hid ⟨Blk.new _ _ _, hP'.below (bAlloc (Below.refl _ _) _), (HM.out.step hb').onr.below (bAlloc (Below.refl _ _) _), (HM.out.step hb').box.lt⟩; clear hP' hb' b0 b1)
  clear t0 t1 t2 t3 t4
  go_wp2_with fail
  have HNN : Hid ((∀ j (h : j < ps.length), j < k → takes dst ps[j] = false) ∧ takes dst ps[k] = true) := by
    apply Lib.hid
    rcases hi with ⟨k', hk', hk2, ht, hno⟩ | ⟨h, _⟩
    · obtain rfl : k = k' := by omega
      exact ⟨hno, ht⟩
    · exact absurd h (by omega)
  clear hi
  go_loopg [36] k (fun gk s36 W => ∃ j : Nat, j ≤ k ∧ gk = k - j ∧ s36 = .int .i64 (j : Nat) ∧ True ∧ RM w0 rb ob np A c B cb ps ps on W ∧ RY w0 w1.heap.size np A' c' B cb (ps.set k (ps[k].hold l)) on W)
  case atStart => exact ⟨0, by omega, by omega, rfl, trivial, HM1.out, HY1.out⟩
  case round =>
    clear HM1 HC HM
    obtain ⟨j, hj, hgj, rfl, hno, hM, hY⟩ := hrel
    have HGJ := Lib.hid hgj
    have HNO := Lib.hid hno
    clear hgj hno
    clear HY1
    have hjn : j < np := by omega
    have hjp : j < ps.length := by rw [HLP.out]; exact hjn
    obtain ⟨ivs, hP⟩ := hM.pth
    obtain ⟨g1, o1, hA⟩ := hP.isSome j hjp
    subst hA
    have y1 := hP.cell j 1 hjp (by decide)
    have x0 := hM.box.cell 0
    have hjI : (j : Int) < np := by omega
    have hj0 : (0 : Int) ≤ j := by omega
    obtain ⟨RA, rc, hr0, hrc, hrs⟩ := hM.row.get j hjp
    have y0 := hP.cell j 0 hjp (by decide)
    rw [Nat.add_zero] at y0
    by_cases hjk : j < k
    · have htk := HNN.out.1 j hjp hjk
      have HM2 := Lib.hid hM
      have HY2 := Lib.hid hY
      generalize ivs[j]'(by rw [hP.len]; exact hjp) = iv at y0 y1
      clear hM hP hrs hY
      generalize ps[j] = q at *
      obtain ⟨qf, qt, qs, qi, qc, qb⟩ := q
      simp only [pcells] at y0 y1 hr0 hrc
      by_cases hqt : qt = dst
      · have hz : qi.length = 0 := by
          simp only [takes, hqt, beq_self_eq_true, Bool.true_and, decide_eq_false_iff_not] at htk
          omega
        have hqb : ((qt : Int) != (dst : Int)) = false := by simp; omega
        rw [hz] at hr0
        clear htk hqt hrc
        go_wp2
        go_roundg (k - (j + 1))
        case measure => have := HGJ.out; omega
        case rel => exact ⟨j + 1, by omega, rfl, by go_num, trivial, HM2.out, HY2.out⟩
      · have hqb : ((qt : Int) != (dst : Int)) = true := by simp; omega
        clear htk hqt
        go_wp2
        go_roundg (k - (j + 1))
        case measure => have := HGJ.out; omega
        case rel => exact ⟨j + 1, by omega, rfl, by go_num, trivial, HM2.out, HY2.out⟩
    · obtain rfl : j = k := by omega
      have htk := HNN.out.2
      have hok1 := HOK.out.ok _ (List.getElem_mem hjp)
      rw [hx] at hr0 hrc hrs
      obtain ⟨gr, og, hRA⟩ := hrs.some_of
      subst hRA
      have e0 := hrs.cell (j := 0) rfl
      rw [Nat.add_zero] at e0
      have hq3 := hok1.len
      have hq4 := hok1.cap3
      rw [hx] at hq3
      have hsz := hok1.size
      rw [hx] at hsz
      have HSZ : Hid (∀ s ∈ l, s.size ≤ 8) := Lib.hid (fun s h => hsz s (List.mem_cons_of_mem _ h))
      have hlc : l.length ≤ ps[j].cap := by simp at hq3; omega
      have HLC := Lib.hid hlc
      have hl3 : (x :: l).length ≤ 3 := by omega
      have hl1 : 1 ≤ (x :: l).length := by simp
      have hl0 : (x :: l).length - 1 = l.length := by simp
      have HL0 := Lib.hid hl0
      have hqto : ps[j].«to» = dst := by
        simp only [takes, Bool.and_eq_true, beq_iff_eq] at htk
        exact htk.1
      clear hl0 hlc hsz hok1 hq3 hq4 htk
      have HM2 := Lib.hid hM
      have HY2 := Lib.hid hY
      have HRS := Lib.hid hrs
      have HX := Lib.hid hx
      clear hM hY hrs
      generalize ivs[j]'(by rw [hP.len]; exact hjp) = iv at y0 y1
      clear hP
      have hto2 : ((ps[j].«to» : Int) != (dst : Int)) = false := by simp; omega
      have HTO := Lib.hid hqto
      clear hqto
      obtain ⟨m4, hm4⟩ : ∃ m4, m4 = (x :: l).length := ⟨_, rfl⟩
      rw [← hm4] at hr0 hrc hl3 hl1
      have HM4 := Lib.hid hm4
      clear hm4
      have hm0 : ((m4 : Int) == 0) = false := by simp; omega
      have hm0I : (0 : Int) < m4 := by omega
      have hkn2 : ((j : Int) == (np : Int)) = false := by simp; omega
      have HX2 := Lib.hid hx
      clear hx
      have hcf2 : ∀ q : Pth, True := fun _ => trivial
      clear hcf2
      simp only [pcells] at y0 y1
      go_upto_region 32 with fail
      have z0 := HY2.out.box.cell 0
      have z1 := HY2.out.box.cell 1
      have b0 := HM2.out.box.cell 0
      have b1 := HM2.out.box.cell 1
      have f0 := HM2.out.box.frozen 0
      have f1 := HM2.out.box.frozen 1
      have fr := HM2.out.row.frozen j
      obtain ⟨cur, hcur⟩ := HM2.out.row.blk
      have hne : rb ≠ w0.heap.size + 1 := hcur.ne_ HM2.out.box (by decide)
      have hyx : w1.heap.size ≠ w0.heap.size + 1 := by have := HY2.out.hyb; omega
      refine lr_r32 wr (w0.heap.size + 1) w1.heap.size rb j np m4 rc gr og A' B c' cb _ _ hjn hl1 hrc z0 z1 hr0 b0 b1 f0 f1 fr hne hyx (fun _ _ _ _ he h => hQ _ _ _ _ he h) ?_
      intro v205 v206 v207 v208 v209 v210 v211 v212 v213 o2 c2 hc2 ho2
      have hT := (HM2.out.drewN 1).turn (HY2.out.step (below_drewN (Below.refl _ _) 1)) (fun g o h => HM2.out.far g o h) rfl
      have hsees : Sees wr 9 (some ⟨gr, o2, none⟩) (l.map Value.string) := by
        rcases ho2 with rfl | ⟨h1, rfl⟩
        · have := HRS.out.drop 1
          simpa using this
        · have hz : l = [] := List.eq_nil_of_length_eq_zero (by have h2 := HM4.out; simp at h2; omega)
          rw [hz]; exact HRS.out.nil_
      have h5 : m4 - 1 = l.length := by have h2 := HM4.out; simp at h2; omega
      rw [h5] at hc2
      have hse2 : Sees ((wr.drewN 1).setCell ⟨w0.heap.size + 1, 0, none⟩ (.slice A' np c')) 9 (some ⟨gr, o2, none⟩) (l.map Value.string) := Sees.set_ (p := ⟨w0.heap.size + 1, 0, none⟩) (hsees.below (below_drewN (Below.refl _ _) 1)) (HM2.out.drewN 1).box (by decide) _
      have hse3 := Sees.set_ (p := ⟨w0.heap.size + 1, 1, none⟩) hse2 ((HM2.out.drewN 1).box.set_ 0 (.slice A' np c')) (by decide) (.slice B 3 cb)
      have hR := hT.setRow j hjp l (some ⟨gr, o2, none⟩) c2 hc2 hse3
      have HR : Hid (RMx w0 rb ob np ((((wr.drewN 1).setCell ⟨w0.heap.size + 1, 0, none⟩ (.slice A' np c')).setCell ⟨w0.heap.size + 1, 1, none⟩ (.slice B 3 cb)).setCell ⟨rb, j, none⟩ (.slice (some ⟨gr, o2, none⟩) (m4 - 1) c2))) := by
        apply Lib.hid
        rw [h5]
        exact ⟨A', c', B, cb, _, on, hR, psOk_set HOK.out j hjp _ rfl rfl (hold_ok (HOK.out.ok _ (List.getElem_mem hjp)) l HLC.out HSZ.out), by rw [List.length_set, HLP.out], HON.out, hc'⟩
      clear hR hse2 hse3 hT hsees
      go_wp2
      refine Met.intro (hJ _ _ ?_)
      unfold R6
      (repeat apply Exists.intro)
      exact ⟨HR.out, rfl⟩

end Go.Proofs.YtokaaniimakfjaaDoor
