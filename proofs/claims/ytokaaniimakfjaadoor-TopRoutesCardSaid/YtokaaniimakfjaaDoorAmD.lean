/- campaniletop.TopRoutes: its pieces. -/
import Derived.Test.YtokaaniimakfjaaDoorAmD0
import Derived.Deep.DeepCutAuto
import Derived.Deep.CutBlock
import Derived.Deep.RegionLawGrows
set_option linter.unusedSimpArgs false
set_option linter.unusedVariables false
set_option linter.unusedSectionVars false
namespace Go.Proofs.YtokaaniimakfjaaDoor
open Go.RowKit

/-- the block of this number in a function's text. -/
def blockAt (n : Nat) : Code → Option Code
  | .loop c => blockAt n c
  | .seq a b => (match blockAt n a with
    | some c => some c
    | none => blockAt n b)
  | .block m c => if m = n then some (.block m c) else blockAt n c
  | .scope c => blockAt n c
  | .cond _ a b => (match blockAt n a with
    | some c => some c
    | none => blockAt n b)
  | _ => none
noncomputable def lrBlk (n : Nat) : Code := (Tryd.f3.body.bind (blockAt n)).getD .skip

set_option maxRecDepth 1000000 in
/-- behind the switch: what it leaves of the frame. -/
def R6 (w0 : World) (rb ob np dst : Nat) (u0 u1 u2 u3 u4 u6 u7 u8 u9 u10 u11 u14 u15 u17 u40 u41 u42 u43 u44 u45 u46 u47 u48 u49 u50 u51 u52 u53 u54 u55 u56 u57 u58 u59 u60 u61 u62 u63 u64 u65 u66 u67 u68 u69 u70 u71 u72 u73 u74 u75 u76 u77 u78 u79 u80 u81 u82 u83 u84 u85 u86 u87 u88 u89 u90 u91 u92 u93 u94 u95 u96 u97 u98 u99 u100 u101 u102 u103 u104 u105 u106 u107 u108 u109 u110 u111 u112 u113 u114 u115 u116 u117 u118 u119 u384 : Value) (a' : Act) (w' : World) : Prop :=
  ∃ v18 v19 v20 v21 v22 v23 v24 v25 v26 v27 v28 v29 v30 v31 v32 v33 v34 v35 v36 v37 v38 v39 v120 v121 v122 v123 v124 v125 v126 v127 v128 v129 v130 v131 v132 v133 v134 v135 v136 v137 v138 v139 v140 v141 v142 v143 v144 v145 v146 v147 v148 v149 v150 v151 v152 v153 v154 v155 v156 v157 v158 v159 v160 v161 v162 v163 v164 v165 v166 v167 v168 v169 v170 v171 v172 v173 v174 v175 v176 v177 v178 v179 v180 v181 v182 v183 v184 v185 v186 v187 v188 v189 v190 v191 v192 v193 v194 v195 v196 v197 v198 v199 v200 v201 v202 v203 v204 v205 v206 v207 v208 v209 v210 v211 v212 v213 v214 v215 v216 v217 v218 v219 v220 v221 v222 v223 v224 v225 v226 v227 v228 v229 v230 v231 v232 v233 v234 v235 v236 v237 v238 v239 v240 v241 v242 v243 v244 v245 v246 v247 v248 v249 v250 v251 v252 v253 v254 v255 v256 v257 v258 v259 v260 v261 v262 v263 v264 v265 v266 v267 v268 v269 v270 v271 v272 v273 v274 v275 v276 v277 v278 v279 v280 v281 v282 v283 v284 v285 v286 v287 v288 v289 v290 v291 v292 v293 v294 v295 v296 v297 v298 v299 v300 v301 v302 v303 v304 v305 v306 v307 v308 v309 v310 v311 v312 v313 v314 v315 v316 v317 v318 v319 v320 v321 v322 v323 v324 v325 v326 v327 v328 v329 v330 v331 v332 v333 v334 v335 v336 v337 v338 v339 v340 v341 v342 v343 v344 v345 v346 v347 v348 v349 v350 v351 v352 v353 v354 v355 v356 v357 v358 v359 v360 v361 v362 v363 v364 v365 v366 v367 v368 v369 v370 v371 v372 v373 v374 v375 v376 v377 v378 v379 v380 v381 v382 v383 : Value, RMx w0 rb ob np w' ∧ a' = ⟨#[u0, u1, u2, u3, u4, .pointer (some ⟨w0.heap.size + 1, 0, none⟩), u6, u7, u8, u9, u10, u11, .slice (some ⟨rb, 0, none⟩) np np, .slice (some ⟨ob, 0, none⟩) 3 3, u14, u15, .int .i64 (dst : Nat), u17, v18, v19, v20, v21, v22, v23, v24, v25, v26, v27, v28, v29, v30, v31, v32, v33, v34, v35, v36, v37, v38, v39, u40, u41, u42, u43, u44, u45, u46, u47, u48, u49, u50, u51, u52, u53, u54, u55, u56, u57, u58, u59, u60, u61, u62, u63, u64, u65, u66, u67, u68, u69, u70, u71, u72, u73, u74, u75, u76, u77, u78, u79, u80, u81, u82, u83, u84, u85, u86, u87, u88, u89, u90, u91, u92, u93, u94, u95, u96, u97, u98, u99, u100, u101, u102, u103, u104, u105, u106, u107, u108, u109, u110, u111, u112, u113, u114, u115, u116, u117, u118, u119, v120, v121, v122, v123, v124, v125, v126, v127, v128, v129, v130, v131, v132, v133, v134, v135, v136, v137, v138, v139, v140, v141, v142, v143, v144, v145, v146, v147, v148, v149, v150, v151, v152, v153, v154, v155, v156, v157, v158, v159, v160, v161, v162, v163, v164, v165, v166, v167, v168, v169, v170, v171, v172, v173, v174, v175, v176, v177, v178, v179, v180, v181, v182, v183, v184, v185, v186, v187, v188, v189, v190, v191, v192, v193, v194, v195, v196, v197, v198, v199, v200, v201, v202, v203, v204, v205, v206, v207, v208, v209, v210, v211, v212, v213, v214, v215, v216, v217, v218, v219, v220, v221, v222, v223, v224, v225, v226, v227, v228, v229, v230, v231, v232, v233, v234, v235, v236, v237, v238, v239, v240, v241, v242, v243, v244, v245, v246, v247, v248, v249, v250, v251, v252, v253, v254, v255, v256, v257, v258, v259, v260, v261, v262, v263, v264, v265, v266, v267, v268, v269, v270, v271, v272, v273, v274, v275, v276, v277, v278, v279, v280, v281, v282, v283, v284, v285, v286, v287, v288, v289, v290, v291, v292, v293, v294, v295, v296, v297, v298, v299, v300, v301, v302, v303, v304, v305, v306, v307, v308, v309, v310, v311, v312, v313, v314, v315, v316, v317, v318, v319, v320, v321, v322, v323, v324, v325, v326, v327, v328, v329, v330, v331, v332, v333, v334, v335, v336, v337, v338, v339, v340, v341, v342, v343, v344, v345, v346, v347, v348, v349, v350, v351, v352, v353, v354, v355, v356, v357, v358, v359, v360, v361, v362, v363, v364, v365, v366, v367, v368, v369, v370, v371, v372, v373, v374, v375, v376, v377, v378, v379, v380, v381, v382, v383, u384], []⟩

set_option maxHeartbeats 4000000 in
set_option maxRecDepth 1000000 in
theorem lr_put {u0 u1 u2 u3 u4 u6 u7 u8 u9 u10 u11 u14 u15 u18 u19 u20 u21 u22 u23 u24 u25 u26 u27 u28 u29 u30 u31 u32 u33 u34 u35 u36 u37 u38 u39 u40 u41 u42 u43 u44 u45 u46 u47 u48 u49 u50 u51 u52 u53 u54 u55 u56 u57 u58 u59 u60 u61 u62 u63 u64 u65 u66 u67 u68 u69 u70 u71 u72 u73 u74 u75 u76 u77 u78 u79 u80 u81 u82 u83 u84 u85 u86 u87 u88 u89 u90 u91 u92 u93 u94 u95 u96 u97 u98 u99 u100 u101 u102 u103 u104 u105 u106 u107 u108 u109 u110 u111 u112 u113 u114 u115 u116 u117 u118 u119 u120 u121 u122 u123 u124 u125 u126 u127 u128 u129 u130 u131 u132 u133 u134 u135 u137 u138 u139 u140 u141 u142 u143 u144 u145 u146 u147 u148 u149 u150 u151 u152 u153 u154 u155 u156 u157 u158 u159 u160 u161 u162 u163 u164 u165 u166 u167 u168 u169 u170 u171 u172 u173 u174 u175 u176 u177 u178 u179 u180 u181 u182 u183 u184 u185 u186 u187 u188 u189 u190 u191 u192 u193 u194 u195 u196 u197 u198 u199 u200 u201 u202 u203 u204 u205 u206 u207 u208 u209 u210 u211 u212 u213 u214 u215 u216 u217 u218 u219 u220 u221 u222 u223 u224 u225 u226 u227 u228 u229 u230 u231 u232 u233 u234 u235 u236 u237 u238 u239 u240 u241 u242 u243 u244 u245 u246 u247 u248 u249 u250 u251 u252 u253 u254 u255 u256 u257 u258 u259 u260 u261 u262 u263 u264 u265 u266 u267 u268 u269 u270 u271 u272 u273 u274 u275 u276 u277 u278 u279 u280 u281 u282 u283 u284 u285 u286 u287 u288 u289 u290 u291 u292 u293 u294 u295 u296 u297 u298 u299 u300 u301 u302 u303 u304 u305 u306 u307 u308 u309 u310 u311 u312 u313 u314 u315 u316 u317 u318 u319 u320 u321 u322 u323 u324 u325 u326 u327 u328 u329 u330 u331 u332 u333 u334 u335 u336 u337 u338 u339 u340 u341 u342 u343 u344 u345 u346 u347 u348 u349 u350 u351 u352 u353 u354 u355 u356 u357 u358 u359 u360 u361 u362 u363 u364 u365 u366 u367 u368 u369 u370 u371 u372 u373 u374 u375 u376 u377 u378 u379 u380 u381 u382 u383 u384 : Value} (w0 W : World) (rb ob np dst : Nat) (d : Int) (s : ByteArray) (A : Option Addr) (c : Nat) (B : Option Addr) (cb : Nat) (ps : List Pth) (on : List Bool)
    (hM : RM w0 rb ob np A c B cb ps ps on W) (hok : PsOk ps) (hlp : ps.length = np) (hon : on.length = 3) (hc : np ≤ c) (hdst : dst ≤ 2) (hs : s.size ≤ 8) (hd0 : 0 ≤ d) (hd : d < 4)
    {Q' : Exit → Act → World → Prop} {J K : Act → World → Prop} (hQ : ∀ c (a a' : Act) w, a.defers = a'.defers → Q' (.panic c) a w → Q' (.panic c) a' w) (hJ : ∀ a' w', R6 w0 rb ob np dst u0 u1 u2 u3 u4 u6 u7 u8 u9 u10 u11 u14 u15 (.string s) u40 u41 u42 u43 u44 u45 u46 u47 u48 u49 u50 u51 u52 u53 u54 u55 u56 u57 u58 u59 u60 u61 u62 u63 u64 u65 u66 u67 u68 u69 u70 u71 u72 u73 u74 u75 u76 u77 u78 u79 u80 u81 u82 u83 u84 u85 u86 u87 u88 u89 u90 u91 u92 u93 u94 u95 u96 u97 u98 u99 u100 u101 u102 u103 u104 u105 u106 u107 u108 u109 u110 u111 u112 u113 u114 u115 u116 u117 u118 u119 u384 a' w' → J a' w') (hK : ∀ a' w', Met J a' w' → K a' w') :
    Code.wp Tryd.prog (lrBlk 6) (Exit.then K Q') ⟨#[u0, u1, u2, u3, u4, .pointer (some ⟨w0.heap.size + 1, 0, none⟩), u6, u7, u8, u9, u10, u11, .slice (some ⟨rb, 0, none⟩) np np, .slice (some ⟨ob, 0, none⟩) 3 3, u14, u15, .int .i64 (dst : Nat), .string s, u18, u19, u20, u21, u22, u23, u24, u25, u26, u27, u28, u29, u30, u31, u32, u33, u34, u35, u36, u37, u38, u39, u40, u41, u42, u43, u44, u45, u46, u47, u48, u49, u50, u51, u52, u53, u54, u55, u56, u57, u58, u59, u60, u61, u62, u63, u64, u65, u66, u67, u68, u69, u70, u71, u72, u73, u74, u75, u76, u77, u78, u79, u80, u81, u82, u83, u84, u85, u86, u87, u88, u89, u90, u91, u92, u93, u94, u95, u96, u97, u98, u99, u100, u101, u102, u103, u104, u105, u106, u107, u108, u109, u110, u111, u112, u113, u114, u115, u116, u117, u118, u119, u120, u121, u122, u123, u124, u125, u126, u127, u128, u129, u130, u131, u132, u133, u134, u135, .int .u8 d, u137, u138, u139, u140, u141, u142, u143, u144, u145, u146, u147, u148, u149, u150, u151, u152, u153, u154, u155, u156, u157, u158, u159, u160, u161, u162, u163, u164, u165, u166, u167, u168, u169, u170, u171, u172, u173, u174, u175, u176, u177, u178, u179, u180, u181, u182, u183, u184, u185, u186, u187, u188, u189, u190, u191, u192, u193, u194, u195, u196, u197, u198, u199, u200, u201, u202, u203, u204, u205, u206, u207, u208, u209, u210, u211, u212, u213, u214, u215, u216, u217, u218, u219, u220, u221, u222, u223, u224, u225, u226, u227, u228, u229, u230, u231, u232, u233, u234, u235, u236, u237, u238, u239, u240, u241, u242, u243, u244, u245, u246, u247, u248, u249, u250, u251, u252, u253, u254, u255, u256, u257, u258, u259, u260, u261, u262, u263, u264, u265, u266, u267, u268, u269, u270, u271, u272, u273, u274, u275, u276, u277, u278, u279, u280, u281, u282, u283, u284, u285, u286, u287, u288, u289, u290, u291, u292, u293, u294, u295, u296, u297, u298, u299, u300, u301, u302, u303, u304, u305, u306, u307, u308, u309, u310, u311, u312, u313, u314, u315, u316, u317, u318, u319, u320, u321, u322, u323, u324, u325, u326, u327, u328, u329, u330, u331, u332, u333, u334, u335, u336, u337, u338, u339, u340, u341, u342, u343, u344, u345, u346, u347, u348, u349, u350, u351, u352, u353, u354, u355, u356, u357, u358, u359, u360, u361, u362, u363, u364, u365, u366, u367, u368, u369, u370, u371, u372, u373, u374, u375, u376, u377, u378, u379, u380, u381, u382, u383, u384], []⟩ W := by
  conv => arg 2; whnf
  have HOK := Lib.hid hok
  have HON := Lib.hid hon
  have HLP := Lib.hid hlp
  have HM := Lib.hid hM
  have hnp6 : np ≤ 6 := by rw [← hlp]; exact hok.len
  have HC := Lib.hid (fun W hP hO => pPut_any W A B np c cb dst ps on s hP hlp hok hc hO hon hs)
  have b0 := hM.box.cell 0
  have b1 := hM.box.cell 1
  clear hok hon hlp hM
  go_upto_if 214 with fail
  go_cut [214] from 214 to 218 (fun x wx => x = .bool true ∧ wx = W)
  case first =>
    have hd4 : d = 0 ∨ d = 1 ∨ d = 2 ∨ d = 3 := by omega
    clear hd0 hd
    rcases hd4 with rfl | rfl | rfl | rfl
    all_goals
      go_wp2
      go_meet
      exact ⟨rfl, rfl⟩
  case rest =>
    obtain ⟨rfl, rfl⟩ := hcut
    go_upto_block 9 with (go_at_call 4; refine (HC.out _ HM.out.pth HM.out.onr).mono ?_; rintro e w1 ⟨A', c', rfl, hc', hP', hb'⟩; have HM1 := Lib.hid ((HM.out.step hb').alloc (.cells #[.slice A' np c', .slice B 3 cb] 26)); have HY1 : Hid (RY w0 w1.heap.size np A' c' B cb (ps.map (put1 on dst s)) on (w1.alloc (.cells #[.slice A' np c', .slice B 3 cb] 26))) := Lib.hid ⟨Blk.new _ _ _, hP'.below (bAlloc (Below.refl _ _) _), (HM.out.step hb').onr.below (bAlloc (Below.refl _ _) _), (HM.out.step hb').box.lt⟩; have a0 := HM1.out.box.cell 0; clear b0 b1 hP' hb')
    clear a0
    go_wp2_with fail
    go_loopg [22, 23, 231] np (fun gk s22 s23 s231 W => ∃ j : Nat, j ≤ np ∧ gk = np - j ∧ s231 = .int .i64 (j : Nat) ∧ s22 = .int .i64 (tookP on dst (ps.take j) : Nat) ∧ s23 = .int .i64 (lostP on dst (ps.take j) : Nat) ∧ RM w0 rb ob np A c B cb ps (upto (put1 on dst s) ps j) on W ∧ RY w0 w1.heap.size np A' c' B cb (ps.map (put1 on dst s)) on W)
    case atStart => exact ⟨0, by omega, by omega, rfl, rfl, rfl, by rw [upto_zero]; exact HM1.out, HY1.out⟩
    case round =>
      clear HM1 HY1 HM HC
      obtain ⟨j, hj, hgj, rfl, rfl, rfl, hM, hY⟩ := hrel
      have HGJ := Lib.hid hgj
      clear hgj
      by_cases hjn : j < np
      · have hjp : j < ps.length := by rw [HLP.out]; exact hjn
        have hok1 := HOK.out.ok _ (List.getElem_mem hjp)
        obtain ⟨ivs, hP⟩ := hM.pth
        obtain ⟨g1, o1, hA⟩ := hP.isSome j hjp
        subst hA
        have y0 := hP.cell j 0 hjp (by decide)
        have y1 := hP.cell j 1 hjp (by decide)
        have y2 := hP.cell j 2 hjp (by decide)
        have y3 := hP.cell j 3 hjp (by decide)
        have y4 := hP.cell j 4 hjp (by decide)
        have y5 := hP.cell j 5 hjp (by decide)
        rw [Nat.add_zero] at y0
        have hjI : (j : Int) < np := by omega
        have hj0 : (0 : Int) ≤ j := by omega
        have hju : j < (upto (put1 on dst s) ps j).length := by rw [upto_len]; exact hjp
        have hug := upto_get (put1 on dst s) ps j hju hjp
        obtain ⟨RA, rc, hr0, hrc, hrs⟩ := hM.row.get j hju
        rw [hug] at hr0 hrc hrs
        have hup := upto_set (put1 on dst s) ps j hjp
        have htk : tookP on dst (ps.take (j + 1)) = tookP on dst (ps.take j) + took1 on dst ps[j] := by rw [List.take_add_one, List.getElem?_eq_getElem hjp, Option.toList_some, tookP_snoc]
        have hlk : lostP on dst (ps.take (j + 1)) = lostP on dst (ps.take j) + lost1 on dst ps[j] := by rw [List.take_add_one, List.getElem?_eq_getElem hjp, Option.toList_some, lostP_snoc]
        have htl := tookP_le on dst (ps.take j)
        have hll := lostP_le on dst (ps.take j)
        rw [List.length_take] at htl hll
        have hset : ∀ l, (upto (put1 on dst s) ps j).set j ((upto (put1 on dst s) ps j)[j].hold l) = (upto (put1 on dst s) ps j).set j (ps[j].hold l) := by intro l; rw [hug]
        generalize ivs[j]'(by rw [hP.len]; exact hjp) = iv at y0 y1 y2 y3 y4 y5
        have hsame : (upto (put1 on dst s) ps j).set j ps[j] = upto (put1 on dst s) ps j := by have := set_same _ _ hju; rwa [hug] at this
        generalize ps[j] = q at y0 y1 y2 y3 y4 y5 hok1 hr0 hrc hrs hup htk hlk hset hsame
        obtain ⟨qf, qt, qs, qi, qc, qb⟩ := q
        simp only [pcells] at y0 y1 y2 y3 y4 y5
        have hq1 := hok1.set
        have hq2 := hok1.len
        have hq3 := hok1.cap3
        have hq4 := hok1.cap1
        simp only at hq1 hq2 hq3 hq4 hr0 hrc hrs
        obtain ⟨ql, hql⟩ : ∃ ql, ql = qi.length := ⟨_, rfl⟩
        rw [← hql] at hr0 hrc hq2 y3
        have HQL := Lib.hid hql
        clear hql
        have hqs : qs < on.length := by rw [HON.out]; omega
        have HB := Lib.hid (Blk.new wr 33 #[.int .i64 qf, .int .i64 qt, .int .i64 qs, .slice iv.1 ql iv.2, .int .i64 qc, .bool qb])
        have HM2 := Lib.hid (hM.alloc (.cells #[.int .i64 qf, .int .i64 qt, .int .i64 qs, .slice iv.1 ql iv.2, .int .i64 qc, .bool qb] 33))
        have HY2 := Lib.hid (hY.step (bAlloc (Below.refl _ wr) (.cells #[.int .i64 qf, .int .i64 qt, .int .i64 qs, .slice iv.1 ql iv.2, .int .i64 qc, .bool qb] 33)))
        have hget : on.getD qs false = on[qs] := by simp [List.getD, List.getElem?_eq_getElem hqs]
        have o0 := HM2.out.ono.cell qs
        rw [List.getElem?_toArray, List.getElem?_map, List.getElem?_eq_getElem hqs, Option.map_some] at o0
        have HTK := Lib.hid htk; have HLK := Lib.hid hlk; have HUP := Lib.hid hup; have HSAME := Lib.hid hsame; have HSET := Lib.hid hset
        have HRS := Lib.hid hrs
        have HGET := Lib.hid hget
        have HUG := Lib.hid hug
        have hr1 : (wr.alloc (.cells #[.int .i64 qf, .int .i64 qt, .int .i64 qs, .slice iv.1 ql iv.2, .int .i64 qc, .bool qb] 33)).cell? ⟨rb, j, none⟩ = some (.slice RA ql rc) := (cell_below (bAlloc (Below.refl _ wr) _) hr0).trans hr0
        have HOK1 := Lib.hid hok1
        have hqsI : (qs : Int) < 3 := by have := HON.out; omega
        have htl6 : tookP on dst (ps.take j) ≤ 6 := by omega
        have hll6 : lostP on dst (ps.take j) ≤ 6 := by omega
        clear htl hll htk hlk hup hsame hset hrs hug hget hP hM hY hok1 hr0
        obtain ⟨t0, ht0⟩ : ∃ t0, t0 = tookP on dst (ps.take j) := ⟨_, rfl⟩
        obtain ⟨l0, hl0⟩ : ∃ l0, l0 = lostP on dst (ps.take j) := ⟨_, rfl⟩
        rw [← ht0] at htl6
        rw [← hl0] at hll6
        rw [← ht0, ← hl0]
        have HT0 := Lib.hid ht0; have HL0 := Lib.hid hl0
        clear ht0 hl0
        by_cases hf : qf = dst
        · have hfb : ((qf : Int) != (dst : Int)) = false := by simp; omega
          have HF := Lib.hid hf
          clear hf
          obtain ⟨b, hb⟩ : ∃ b, b = on[qs] := ⟨_, rfl⟩
          rw [← hb] at o0
          have HGB : Hid (goesP on dst ⟨qf, qt, qs, qi, qc, qb⟩ = b) := by apply Lib.hid; simp only [goesP, HF.out, beq_self_eq_true, Bool.true_and]; rw [HGET.out, hb]
          clear hb
          cases b
          · go_wp2
            go_roundg (np - (j + 1))
            case measure => have := HGJ.out; omega
            case rel =>
              have e1 : took1 on dst ⟨qf, qt, qs, qi, qc, qb⟩ = 0 := by unfold took1; rw [HGB.out]; rfl
              have e2 : lost1 on dst ⟨qf, qt, qs, qi, qc, qb⟩ = 0 := by unfold lost1; rw [HGB.out]; rfl
              have e3 : put1 on dst s ⟨qf, qt, qs, qi, qc, qb⟩ = ⟨qf, qt, qs, qi, qc, qb⟩ := by unfold put1; rw [HGB.out]; rfl
              refine ⟨j + 1, by omega, rfl, by go_num, by rw [HTK.out, e1, HT0.out]; rfl, by rw [HLK.out, e2, HL0.out]; rfl, ?_, HY2.out⟩
              rw [← HUP.out, e3, HSAME.out]; exact HM2.out
          · by_cases hC : ql = qc ∧ qb = false
            · obtain ⟨hfl, rfl⟩ := hC
              have hfb2 : ((ql : Int) == (qc : Int)) = true := by simp; omega
              have HFL := Lib.hid hfl
              clear hfl
              go_upto_region 43 with fail
              go_quiet (fail)
              go_wp2
              go_roundg (np - (j + 1))
              case measure => have := HGJ.out; omega
              case rel =>
                have e0 : ¬ qi.length < qc := by rw [← HQL.out, HFL.out]; omega
                have e1 : took1 on dst ⟨qf, qt, qs, qi, qc, false⟩ = 0 := by unfold took1; rw [HGB.out]; simp [e0]
                have e2 : lost1 on dst ⟨qf, qt, qs, qi, qc, false⟩ = 1 := by unfold lost1; rw [HGB.out]; simp [e0]
                have e3 : put1 on dst s ⟨qf, qt, qs, qi, qc, false⟩ = ⟨qf, qt, qs, qi, qc, false⟩ := by unfold put1; rw [HGB.out]; simp [e0]
                refine ⟨j + 1, by omega, rfl, by go_num, by rw [HTK.out, e1, HT0.out]; rfl, by rw [HLK.out, e2, ← HL0.out]; go_num, ?_, HY2.out.step (below_drewN (Below.refl _ _) nq)⟩
                rw [← HUP.out, e3, HSAME.out]; exact HM2.out.drewN nq
            · have HCC := Lib.hid hC
              clear hC
              go_upto_region 43 with fail
              go_quiet (fail)
              have HM3 := Lib.hid (HM2.out.drewN nq)
              have HY3 := Lib.hid (HY2.out.step (below_drewN (Below.refl _ _) nq))
              have HB3 := Lib.hid (HB.out.drewN nq)
              have HRS3 := Lib.hid (((HRS.out.below (bAlloc (Below.refl _ wr) (.cells #[.int .i64 qf, .int .i64 qt, .int .i64 qs, .slice iv.1 ql iv.2, .int .i64 qc, .bool qb] 33)))).below (below_drewN (Below.refl _ _) nq))
              have r3 : ((wr.alloc (.cells #[.int .i64 qf, .int .i64 qt, .int .i64 qs, .slice iv.1 ql iv.2, .int .i64 qc, .bool qb] 33)).drewN nq).cell? ⟨rb, j, none⟩ = some (.slice RA ql rc) := hr1
              clear HM2 HY2 HB HRS hr1 o0 y0 y1 y2 y3 y4 y5
              generalize (wr.alloc (.cells #[.int .i64 qf, .int .i64 qt, .int .i64 qs, .slice iv.1 ql iv.2, .int .i64 qc, .bool qb] 33)).drewN nq = w4 at *
              go_upto_if 257 with fail
              go_cut [23] from 232 to 295 (fun s23 wx => ∃ (l' : List ByteArray) (g0 : Nat), s23 = .int .i64 (l0 + g0 : Nat) ∧ g0 = (if ql = qc then 1 else 0) ∧ l' = (if ql = qc then qi.drop 1 else qi) ∧ RM w0 rb ob np (some ⟨g1, o1, none⟩) c B cb ps ((upto (put1 on dst s) ps j).set j ((⟨qf, qt, qs, qi, qc, qb⟩ : Pth).hold l')) on wx ∧ RY w0 w1.heap.size np A' c' B cb (ps.map (put1 on dst s)) on wx)
              case first =>
                by_cases hfl : ql = qc
                · have hqb : qb = true := by
                    cases qb
                    · exact absurd ⟨hfl, rfl⟩ HCC.out
                    · rfl
                  subst hqb
                  have hfb2 : ((ql : Int) == (qc : Int)) = true := by simp; omega
                  have HFL := Lib.hid hfl
                  clear hfl
                  have hql1 : 1 ≤ ql := by rw [HFL.out]; exact hq4
                  obtain ⟨gr, og, hRA⟩ : ∃ g o, RA = some ⟨g, o, none⟩ := by
                    have := HRS3.out
                    cases qi with
                    | nil => have := HQL.out; simp at this; omega
                    | cons x xs => exact this.some_of
                  subst hRA
                  have bb := HB3.out.cell 5
                  have rf := HM3.out.row.frozen j
                  have hdl : (qi.drop 1).length = ql - 1 := by rw [List.length_drop, HQL.out]
                  have HDL := Lib.hid hdl
                  have hqI : (1 : Int) ≤ ql := by omega
                  have hqc1 : (1 : Int) ≤ rc := by omega
                  have hqrc : (ql : Int) ≤ rc := by omega
                  clear hdl
                  have HS1 := Lib.hid (HRS3.out.drop 1)
                  have HSR := Lib.hid (fun (R : Option Addr) (cr : Nat) (hcr : ql - 1 ≤ cr) (hs : Sees w4 9 R ((qi.drop 1).map Value.string)) => HM3.out.setRow j hju (qi.drop 1) R cr (by rw [HDL.out]; exact hcr) hs)
                  obtain ⟨curR, hcurR⟩ := HM3.out.row.blk
                  have HCR := Lib.hid hcurR
                  clear hcurR
                  by_cases hc1 : rc = 1
                  · subst hc1
                    go_wp2
                    go_meet
                    have e1 : ql = 1 := by omega
                    have hz : qi.drop 1 = [] := List.eq_nil_of_length_eq_zero (by rw [HDL.out]; omega)
                    have h7 := HSR.out (some ⟨gr, og, none⟩) 0 (by omega) (by rw [hz]; exact HRS3.out.nil_)
                    rw [HDL.out, HSET.out] at h7
                    rw [show ql - 1 = 0 by omega] at h7
                    exact ⟨qi.drop 1, 1, by go_num, by rw [if_pos HFL.out], by rw [if_pos HFL.out], h7, HY3.out.setRow HCR.out j _⟩
                  · go_wp2
                    go_meet
                    have h7 := HSR.out (some ⟨gr, og + 1, none⟩) (rc - 1) (by omega) (by rw [List.map_drop]; exact HS1.out)
                    rw [HDL.out, HSET.out] at h7
                    exact ⟨qi.drop 1, 1, by go_num, by rw [if_pos HFL.out], by rw [if_pos HFL.out], h7, HY3.out.setRow HCR.out j _⟩
                · have hfb2 : ((ql : Int) == (qc : Int)) = false := by simp; omega
                  have HFL := Lib.hid hfl
                  clear hfl
                  go_wp2
                  go_meet
                  exact ⟨qi, 0, by go_num, by rw [if_neg HFL.out], by rw [if_neg HFL.out], by rw [HSAME.out]; exact HM3.out, HY3.out⟩
              case rest =>
                obtain ⟨l', g0, rfl, hg0, hl', hM4, hY4⟩ := hcut
                have HG0 := Lib.hid hg0
                clear hg0
                have HL' := Lib.hid hl'
                obtain ⟨R', c4, hr4, hc4, hs4⟩ := hM4.row.get j (by rw [List.length_set]; exact hju)
                simp only [List.getElem_set_self] at hr4 hc4 hs4
                have hl3 : l'.length ≤ 3 := by
                  rw [hl']
                  split
                  · rw [List.length_drop, ← HQL.out]; omega
                  · rw [← HQL.out]; omega
                clear hl' r3 HM3 HY3 HB3 HRS3
                obtain ⟨m4, hm4⟩ : ∃ m4, m4 = l'.length := ⟨_, rfl⟩
                rw [← hm4] at hr4 hc4 hl3
                have HM4 := Lib.hid hM4
                have HY4 := Lib.hid hY4
                have HS4 := Lib.hid hs4
                have HM4L := Lib.hid hm4
                have hm4c : (m4 : Int) ≤ c4 := by omega
                clear hM4 hY4 hs4 hm4
                go_upto_region 49 with fail
                obtain ⟨i0, hi0, hz0, hz1, hz2⟩ := info_parts Tryd.infoStr
                have hfz := HM4.out.row.frozen j
                have hWb : (wc.setCell ⟨rb, j, none⟩ (.slice none 0 0)).heap.size = wc.heap.size := by simp
                clear hWb
                refine lr_r49 wc rb j np m4 c4 R' l' s hjn hr4 (by omega) hl3 HM4L.out.symm HS4.out hfz (fun _ _ _ _ he h => hQ _ _ _ _ he h) ?_
                intro v274 v275 v276 v277 v278 v279 v280 v281 v282 v283 v284 v285 v286 v287 v288 v289 v290 v291 v292 v293 v294 A2 c2 w6 hb6 hc2 hs6
                have HM6 := Lib.hid (HM4.out.step hb6)
                have HY6 := Lib.hid (HY4.out.step hb6)
                have HS6 := Lib.hid hs6
                have HML := Lib.hid HM4L.out.symm
                clear hb6 hs6 hr4 hfz
                go_wp2
                go_roundg (np - (j + 1))
                case measure => have := HGJ.out; omega
                case rel =>
                  obtain ⟨curR, hcurR⟩ := HM6.out.row.blk
                  have hju2 : j < ((upto (put1 on dst s) ps j).set j ((⟨qf, qt, qs, qi, qc, qb⟩ : Pth).hold l')).length := by rw [List.length_set]; exact hju
                  have h7 := HM6.out.setRow j hju2 (l' ++ [s]) A2 c2 (by rw [List.length_append, HML.out]; exact hc2) HS6.out
                  rw [List.getElem_set_self, List.set_set, List.length_append, HML.out, List.length_singleton] at h7
                  have e123 : took1 on dst ⟨qf, qt, qs, qi, qc, qb⟩ = 1 ∧ lost1 on dst ⟨qf, qt, qs, qi, qc, qb⟩ = (if ql = qc then 1 else 0) ∧ put1 on dst s ⟨qf, qt, qs, qi, qc, qb⟩ = (⟨qf, qt, qs, qi, qc, qb⟩ : Pth).hold (l' ++ [s]) := by
                    have h1 := HCC.out
                    have h2 := HL'.out
                    have h9 : qi.length ≤ qc := by rw [← HQL.out]; exact hq2
                    rw [HQL.out] at h1 h2
                    unfold took1 lost1 put1
                    rw [HGB.out, HQL.out]
                    by_cases h : qi.length = qc
                    · have hqb : qb = true := by
                        cases qb
                        · exact absurd ⟨h, rfl⟩ h1
                        · rfl
                      rw [if_pos h] at h2
                      subst hqb
                      simp [h, h2]
                    · have h5 : qi.length < qc := by omega
                      rw [if_neg h] at h2
                      simp [h, h2, h5]
                  obtain ⟨e1, e2, e3⟩ := e123
                  refine ⟨j + 1, by omega, rfl, by go_num, by rw [HTK.out, e1, ← HT0.out]; go_num, by rw [HLK.out, e2, ← HL0.out, ← HG0.out], ?_, HY6.out.setRow hcurR j _⟩
                  rw [← HUP.out, e3]
                  exact h7
        · have hfb : ((qf : Int) != (dst : Int)) = true := by simp; omega
          have HGB : Hid (goesP on dst ⟨qf, qt, qs, qi, qc, qb⟩ = false) := by apply Lib.hid; simp [goesP, hf]
          clear hf
          go_wp2
          go_roundg (np - (j + 1))
          case measure => have := HGJ.out; omega
          case rel =>
            have e1 : took1 on dst ⟨qf, qt, qs, qi, qc, qb⟩ = 0 := by unfold took1; rw [HGB.out]; rfl
            have e2 : lost1 on dst ⟨qf, qt, qs, qi, qc, qb⟩ = 0 := by unfold lost1; rw [HGB.out]; rfl
            have e3 : put1 on dst s ⟨qf, qt, qs, qi, qc, qb⟩ = ⟨qf, qt, qs, qi, qc, qb⟩ := by unfold put1; rw [HGB.out]; rfl
            refine ⟨j + 1, by omega, rfl, by go_num, by rw [HTK.out, e1, HT0.out]; rfl, by rw [HLK.out, e2, HL0.out]; rfl, ?_, HY2.out⟩
            rw [← HUP.out, e3, HSAME.out]; exact HM2.out
      · have hjn1 : j = np := by omega
        subst hjn1
        have htk : ps.take j = ps := List.take_of_length_le (by rw [HLP.out]; exact Nat.le_refl _)
        rw [htk]
        clear htk
        rw [upto_all _ _ _ (by rw [HLP.out]; exact Nat.le_refl _)] at hM
        have hMT := hM.turn hY (fun g o h => hM.far g o h) rfl
        have HMT := Lib.hid hMT
        have z0 := hY.box.cell 0
        have z1 := hY.box.cell 1
        have x0 := hM.box.cell 0
        have x1 := hM.box.cell 1
        have f0 := hM.box.frozen 0
        have f1 := hM.box.frozen 1
        have HX : Hid (∀ W : World, RM w0 rb ob j A' c' B cb (ps.map (put1 on dst s)) (ps.map (put1 on dst s)) on W → RMx w0 rb ob j W) := by
          apply Lib.hid
          intro W h
          exact ⟨A', c', B, cb, _, on, h, psOk_map HOK.out _ (put1_same on dst s) (fun p hp => put1_ok (HOK.out.ok p hp) on dst s hs), by rw [List.length_map, HLP.out], HON.out, hc'⟩
        clear hM hY hMT
        go_wp2
        have HF := Lib.hid (HX.out _ HMT.out)
        refine Met.intro (hJ _ _ ?_)
        unfold R6
        (repeat apply Exists.intro)
        exact ⟨HF.out, rfl⟩
end Go.Proofs.YtokaaniimakfjaaDoor
