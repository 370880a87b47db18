/- campaniletop.TopRoutes: a round of the second loop. -/
import Derived.Test.YtokaaniimakfjaaDoorAmF
set_option linter.unusedSimpArgs false
set_option linter.unusedVariables false
set_option linter.unusedSectionVars false
namespace Go.Proofs.YtokaaniimakfjaaDoor
open Go.RowKit
set_option maxRecDepth 1000000 in
/-- behind a round. -/
def R5 (w : World) (rb ob np m2 c1 kk : Nat) (a : Addr) (u0 u1 u2 u3 u4 u6 u7 u8 u9 u10 u11 u14 u40 u41 u42 u43 u44 u45 u46 u47 u48 u49 u50 u51 u52 u53 u54 u55 u56 u57 u58 u59 u60 u61 u62 u63 u64 u65 u66 u67 u68 u69 u70 u71 u72 u73 u74 u75 u76 u77 u78 u79 u80 u81 u82 u83 u84 u85 u86 u87 u88 u89 u90 u91 u92 u93 u94 u95 u96 u97 u98 u99 u100 u101 u102 u103 u104 u105 u106 u107 u108 u109 u110 u111 u112 u113 u114 u115 u116 u118 u384 : Value) (a' : Act) (w' : World) : Prop :=
  ∃ v15 v16 v17 v18 v19 v20 v21 v22 v23 v24 v25 v26 v27 v28 v29 v30 v31 v32 v33 v34 v35 v36 v37 v38 v39 v120 v121 v122 v123 v124 v125 v126 v127 v128 v129 v130 v131 v132 v133 v134 v135 v136 v137 v138 v139 v140 v141 v142 v143 v144 v145 v146 v147 v148 v149 v150 v151 v152 v153 v154 v155 v156 v157 v158 v159 v160 v161 v162 v163 v164 v165 v166 v167 v168 v169 v170 v171 v172 v173 v174 v175 v176 v177 v178 v179 v180 v181 v182 v183 v184 v185 v186 v187 v188 v189 v190 v191 v192 v193 v194 v195 v196 v197 v198 v199 v200 v201 v202 v203 v204 v205 v206 v207 v208 v209 v210 v211 v212 v213 v214 v215 v216 v217 v218 v219 v220 v221 v222 v223 v224 v225 v226 v227 v228 v229 v230 v231 v232 v233 v234 v235 v236 v237 v238 v239 v240 v241 v242 v243 v244 v245 v246 v247 v248 v249 v250 v251 v252 v253 v254 v255 v256 v257 v258 v259 v260 v261 v262 v263 v264 v265 v266 v267 v268 v269 v270 v271 v272 v273 v274 v275 v276 v277 v278 v279 v280 v281 v282 v283 v284 v285 v286 v287 v288 v289 v290 v291 v292 v293 v294 v295 v296 v297 v298 v299 v300 v301 v302 v303 v304 v305 v306 v307 v308 v309 v310 v311 v312 v313 v314 v315 v316 v317 v318 v319 v320 v321 v322 v323 v324 v325 v326 v327 v328 v329 v330 v331 v332 v333 v334 v335 v336 v337 v338 v339 v340 v341 v342 v343 v344 v345 v346 v347 v348 v349 v350 v351 v352 v353 v354 v355 v356 v357 v358 v359 v360 v361 v362 v363 v364 v365 v366 v367 v368 v369 v370 v371 v372 v373 v374 v375 v376 v377 v378 v379 v380 v381 v382 v383 : Value, RMx w rb ob np w' ∧ a' = ⟨#[u0, u1, u2, u3, u4, .pointer (some ⟨w.heap.size + 1, 0, none⟩), u6, u7, u8, u9, u10, u11, .slice (some ⟨rb, 0, none⟩) np np, .slice (some ⟨ob, 0, none⟩) 3 3, u14, v15, v16, v17, v18, v19, v20, v21, v22, v23, v24, v25, v26, v27, v28, v29, v30, v31, v32, v33, v34, v35, v36, v37, v38, v39, u40, u41, u42, u43, u44, u45, u46, u47, u48, u49, u50, u51, u52, u53, u54, u55, u56, u57, u58, u59, u60, u61, u62, u63, u64, u65, u66, u67, u68, u69, u70, u71, u72, u73, u74, u75, u76, u77, u78, u79, u80, u81, u82, u83, u84, u85, u86, u87, u88, u89, u90, u91, u92, u93, u94, u95, u96, u97, u98, u99, u100, u101, u102, u103, u104, u105, u106, u107, u108, u109, u110, u111, u112, u113, u114, u115, u116, .slice (some a) m2 c1, u118, .int .i64 (kk : Nat), v120, v121, v122, v123, v124, v125, v126, v127, v128, v129, v130, v131, v132, v133, v134, v135, v136, v137, v138, v139, v140, v141, v142, v143, v144, v145, v146, v147, v148, v149, v150, v151, v152, v153, v154, v155, v156, v157, v158, v159, v160, v161, v162, v163, v164, v165, v166, v167, v168, v169, v170, v171, v172, v173, v174, v175, v176, v177, v178, v179, v180, v181, v182, v183, v184, v185, v186, v187, v188, v189, v190, v191, v192, v193, v194, v195, v196, v197, v198, v199, v200, v201, v202, v203, v204, v205, v206, v207, v208, v209, v210, v211, v212, v213, v214, v215, v216, v217, v218, v219, v220, v221, v222, v223, v224, v225, v226, v227, v228, v229, v230, v231, v232, v233, v234, v235, v236, v237, v238, v239, v240, v241, v242, v243, v244, v245, v246, v247, v248, v249, v250, v251, v252, v253, v254, v255, v256, v257, v258, v259, v260, v261, v262, v263, v264, v265, v266, v267, v268, v269, v270, v271, v272, v273, v274, v275, v276, v277, v278, v279, v280, v281, v282, v283, v284, v285, v286, v287, v288, v289, v290, v291, v292, v293, v294, v295, v296, v297, v298, v299, v300, v301, v302, v303, v304, v305, v306, v307, v308, v309, v310, v311, v312, v313, v314, v315, v316, v317, v318, v319, v320, v321, v322, v323, v324, v325, v326, v327, v328, v329, v330, v331, v332, v333, v334, v335, v336, v337, v338, v339, v340, v341, v342, v343, v344, v345, v346, v347, v348, v349, v350, v351, v352, v353, v354, v355, v356, v357, v358, v359, v360, v361, v362, v363, v364, v365, v366, v367, v368, v369, v370, v371, v372, v373, v374, v375, v376, v377, v378, v379, v380, v381, v382, v383, u384], []⟩

set_option maxHeartbeats 4000000 in
set_option maxRecDepth 1000000 in
theorem lr_b5 {u0 u1 u2 u3 u4 u6 u7 u8 u9 u10 u11 u14 u15 u16 u17 u18 u19 u20 u21 u22 u23 u24 u25 u26 u27 u28 u29 u30 u31 u32 u33 u34 u35 u36 u37 u38 u39 u40 u41 u42 u43 u44 u45 u46 u47 u48 u49 u50 u51 u52 u53 u54 u55 u56 u57 u58 u59 u60 u61 u62 u63 u64 u65 u66 u67 u68 u69 u70 u71 u72 u73 u74 u75 u76 u77 u78 u79 u80 u81 u82 u83 u84 u85 u86 u87 u88 u89 u90 u91 u92 u93 u94 u95 u96 u97 u98 u99 u100 u101 u102 u103 u104 u105 u106 u107 u108 u109 u110 u111 u112 u113 u114 u115 u116 u118 u120 u121 u122 u123 u124 u125 u126 u127 u128 u129 u130 u131 u132 u133 u134 u135 u136 u137 u138 u139 u140 u141 u142 u143 u144 u145 u146 u147 u148 u149 u150 u151 u152 u153 u154 u155 u156 u157 u158 u159 u160 u161 u162 u163 u164 u165 u166 u167 u168 u169 u170 u171 u172 u173 u174 u175 u176 u177 u178 u179 u180 u181 u182 u183 u184 u185 u186 u187 u188 u189 u190 u191 u192 u193 u194 u195 u196 u197 u198 u199 u200 u201 u202 u203 u204 u205 u206 u207 u208 u209 u210 u211 u212 u213 u214 u215 u216 u217 u218 u219 u220 u221 u222 u223 u224 u225 u226 u227 u228 u229 u230 u231 u232 u233 u234 u235 u236 u237 u238 u239 u240 u241 u242 u243 u244 u245 u246 u247 u248 u249 u250 u251 u252 u253 u254 u255 u256 u257 u258 u259 u260 u261 u262 u263 u264 u265 u266 u267 u268 u269 u270 u271 u272 u273 u274 u275 u276 u277 u278 u279 u280 u281 u282 u283 u284 u285 u286 u287 u288 u289 u290 u291 u292 u293 u294 u295 u296 u297 u298 u299 u300 u301 u302 u303 u304 u305 u306 u307 u308 u309 u310 u311 u312 u313 u314 u315 u316 u317 u318 u319 u320 u321 u322 u323 u324 u325 u326 u327 u328 u329 u330 u331 u332 u333 u334 u335 u336 u337 u338 u339 u340 u341 u342 u343 u344 u345 u346 u347 u348 u349 u350 u351 u352 u353 u354 u355 u356 u357 u358 u359 u360 u361 u362 u363 u364 u365 u366 u367 u368 u369 u370 u371 u372 u373 u374 u375 u376 u377 u378 u379 u380 u381 u382 u383 u384 : Value} (w wr : World) (rb ob np m2 n1 c1 kk : Nat) (A1 : Option Addr) (a : Addr) (l : List Rte) (hl : l.length = n1) (hA1 : A1 = some a) (HL : Hid (RtesAt w A1 l)) (hlt : kk < m2) (hm2n : m2 ≤ n1) (hm240 : m2 ≤ 40) (hmc2 : m2 ≤ c1) (hp6' : np ≤ 6) (hR : RMx w rb ob np wr)
    {Q' : Exit → Act → World → Prop} {J0 K0 : Act → World → Prop} (hQ : ∀ c (a a' : Act) w, a.defers = a'.defers → Q' (.panic c) a w → Q' (.panic c) a' w) (hJ0 : ∀ a' w', R5 w rb ob np m2 c1 kk a u0 u1 u2 u3 u4 u6 u7 u8 u9 u10 u11 u14 u40 u41 u42 u43 u44 u45 u46 u47 u48 u49 u50 u51 u52 u53 u54 u55 u56 u57 u58 u59 u60 u61 u62 u63 u64 u65 u66 u67 u68 u69 u70 u71 u72 u73 u74 u75 u76 u77 u78 u79 u80 u81 u82 u83 u84 u85 u86 u87 u88 u89 u90 u91 u92 u93 u94 u95 u96 u97 u98 u99 u100 u101 u102 u103 u104 u105 u106 u107 u108 u109 u110 u111 u112 u113 u114 u115 u116 u118 u384 a' w' → J0 a' w') (hK0 : ∀ a' w', Met J0 a' w' → K0 a' w') :
    Code.wp Tryd.prog (lrBlk 5) (Exit.then K0 Q') ⟨#[u0, u1, u2, u3, u4, .pointer (some ⟨w.heap.size + 1, 0, none⟩), u6, u7, u8, u9, u10, u11, .slice (some ⟨rb, 0, none⟩) np np, .slice (some ⟨ob, 0, none⟩) 3 3, u14, u15, u16, u17, u18, u19, u20, u21, u22, u23, u24, u25, u26, u27, u28, u29, u30, u31, u32, u33, u34, u35, u36, u37, u38, u39, u40, u41, u42, u43, u44, u45, u46, u47, u48, u49, u50, u51, u52, u53, u54, u55, u56, u57, u58, u59, u60, u61, u62, u63, u64, u65, u66, u67, u68, u69, u70, u71, u72, u73, u74, u75, u76, u77, u78, u79, u80, u81, u82, u83, u84, u85, u86, u87, u88, u89, u90, u91, u92, u93, u94, u95, u96, u97, u98, u99, u100, u101, u102, u103, u104, u105, u106, u107, u108, u109, u110, u111, u112, u113, u114, u115, u116, .slice (some a) m2 c1, u118, .int .i64 (kk : Nat), u120, u121, u122, u123, u124, u125, u126, u127, u128, u129, u130, u131, u132, u133, u134, u135, u136, u137, u138, u139, u140, u141, u142, u143, u144, u145, u146, u147, u148, u149, u150, u151, u152, u153, u154, u155, u156, u157, u158, u159, u160, u161, u162, u163, u164, u165, u166, u167, u168, u169, u170, u171, u172, u173, u174, u175, u176, u177, u178, u179, u180, u181, u182, u183, u184, u185, u186, u187, u188, u189, u190, u191, u192, u193, u194, u195, u196, u197, u198, u199, u200, u201, u202, u203, u204, u205, u206, u207, u208, u209, u210, u211, u212, u213, u214, u215, u216, u217, u218, u219, u220, u221, u222, u223, u224, u225, u226, u227, u228, u229, u230, u231, u232, u233, u234, u235, u236, u237, u238, u239, u240, u241, u242, u243, u244, u245, u246, u247, u248, u249, u250, u251, u252, u253, u254, u255, u256, u257, u258, u259, u260, u261, u262, u263, u264, u265, u266, u267, u268, u269, u270, u271, u272, u273, u274, u275, u276, u277, u278, u279, u280, u281, u282, u283, u284, u285, u286, u287, u288, u289, u290, u291, u292, u293, u294, u295, u296, u297, u298, u299, u300, u301, u302, u303, u304, u305, u306, u307, u308, u309, u310, u311, u312, u313, u314, u315, u316, u317, u318, u319, u320, u321, u322, u323, u324, u325, u326, u327, u328, u329, u330, u331, u332, u333, u334, u335, u336, u337, u338, u339, u340, u341, u342, u343, u344, u345, u346, u347, u348, u349, u350, u351, u352, u353, u354, u355, u356, u357, u358, u359, u360, u361, u362, u363, u364, u365, u366, u367, u368, u369, u370, u371, u372, u373, u374, u375, u376, u377, u378, u379, u380, u381, u382, u383, u384], []⟩ wr := by
  conv => arg 2; whnf
  obtain ⟨A2, c2, B, cb, ps2, on, hM, hok, hlp, hon, hc2⟩ := hR
  have hkl : kk < l.length := by omega
  obtain ⟨a', hA, hwl, hal, e0, e1, e2⟩ := (HL.out.below hM.bel) kk hkl
  rw [hA1] at hA
  cases hA
  subst hA1
  generalize l[kk] = x at hwl hal e0 e1 e2
  obtain ⟨xw, xa, xt⟩ := x
  simp only at hwl hal e0 e1 e2
  have HM := Lib.hid (hM.alloc (.cells #[.int .u8 xw, .int .u8 xa, .string xt] 28))
  have HOK := Lib.hid hok
  have HLP := Lib.hid hlp
  have HON := Lib.hid hon
  clear hM hok hlp hon hkl
  have hkI : (kk : Int) < m2 := by omega
  have hk0 : (0 : Int) ≤ kk := by omega
  have hx8 : min (xt.size : Int) 8 = ((min xt.size 8 : Nat) : Int) := by omega
  obtain ⟨s8, hs8⟩ : ∃ s8, s8 = min xt.size 8 := ⟨_, rfl⟩
  rw [← hs8] at hx8
  have hs88 : s8 ≤ 8 := by omega
  have hs8x : s8 ≤ xt.size := by omega
  have hmx8 : max (s8 : Int) 0 = (s8 : Int) := by omega
  clear hs8 hl
  obtain ⟨dst, hdst⟩ : ∃ dst : Nat, (xa : Int) % 3 = (dst : Int) := ⟨xa % 3, by omega⟩
  have hdst2 : dst ≤ 2 := by omega
  go_upto_block 6 with fail
  clear e0 e1 e2
  have HL2 := HL
  have hsz : (xt.extract 0 s8).size ≤ 8 := by rw [ByteArray.size_extract]; omega
  refine wp_cut (R6 w rb ob np dst (u0) (u1) (u2) (u3) (u4) (u6) (u7) (u8) (u9) (u10) (u11) (u14) (.pointer (some ⟨wr.heap.size, 0, none⟩)) (.string (xt.extract 0 s8)) (u40) (u41) (u42) (u43) (u44) (u45) (u46) (u47) (u48) (u49) (u50) (u51) (u52) (u53) (u54) (u55) (u56) (u57) (u58) (u59) (u60) (u61) (u62) (u63) (u64) (u65) (u66) (u67) (u68) (u69) (u70) (u71) (u72) (u73) (u74) (u75) (u76) (u77) (u78) (u79) (u80) (u81) (u82) (u83) (u84) (u85) (u86) (u87) (u88) (u89) (u90) (u91) (u92) (u93) (u94) (u95) (u96) (u97) (u98) (u99) (u100) (u101) (u102) (u103) (u104) (u105) (u106) (u107) (u108) (u109) (u110) (u111) (u112) (u113) (u114) (u115) (u116) (.slice (some a) m2 c1) (u118) (.int .i64 (kk : Nat)) (u384)) (fun a' wc hcut => ?_) (fun J K' hJ hK => ?_)
  rotate_left
  · have hX : Blk (wr.alloc (.cells #[.int .u8 xw, .int .u8 xa, .string xt] 28)) wr.heap.size 28 #[.int .u8 xw, .int .u8 xa, .string xt] := Blk.new _ _ _
    by_cases h4 : (xw : Int) % 8 < 4
    · exact lr_put w _ _ _ np dst _ _ A2 c2 B cb ps2 on HM.out HOK.out HLP.out HON.out hc2 hdst2 hsz (by omega) h4 (fun _ _ _ _ he h => hQ _ _ _ _ he h) hJ hK
    · by_cases h5 : (xw : Int) % 8 = 4
      · exact lr_sw w _ _ _ np dst _ _ A2 c2 B cb ps2 on HM.out HOK.out HLP.out HON.out hc2 hdst2 hsz h5 wr.heap.size xw xa xt hwl hX (fun _ _ _ _ he h => hQ _ _ _ _ he h) hJ hK
      · obtain ⟨i, hi⟩ := idx_ex (takes dst) ps2
        have hi0 := hi
        rcases hi with ⟨kt, rfl, hk2, ht, _⟩ | ⟨rfl, _⟩
        · obtain ⟨x, l2, hx⟩ : ∃ x l2, ps2[kt].items = x :: l2 := by
            simp only [takes, Bool.and_eq_true, decide_eq_true_eq] at ht
            cases hit : ps2[kt].items with
            | nil => rw [hit] at ht; simp at ht
            | cons x l2 => exact ⟨x, l2, rfl⟩
          exact lr_ts w _ _ _ np dst _ _ A2 c2 B cb ps2 on HM.out HOK.out HLP.out HON.out hc2 hdst2 hsz (by omega) kt hk2 x l2 hi0 hx (fun _ _ _ _ he h => hQ _ _ _ _ he h) hJ hK
        · exact lr_tn w _ _ _ np dst _ _ A2 c2 B cb ps2 on HM.out HOK.out HLP.out HON.out hc2 hdst2 hsz (by omega) hi0 (fun _ _ _ _ he h => hQ _ _ _ _ he h) hJ hK
  unfold R6 at hcut
  obtain ⟨v18, hcut⟩ := hcut
  obtain ⟨v19, hcut⟩ := hcut
  obtain ⟨v20, hcut⟩ := hcut
  obtain ⟨v21, hcut⟩ := hcut
  obtain ⟨v22, hcut⟩ := hcut
  obtain ⟨v23, hcut⟩ := hcut
  obtain ⟨v24, hcut⟩ := hcut
  obtain ⟨v25, hcut⟩ := hcut
  obtain ⟨v26, hcut⟩ := hcut
  obtain ⟨v27, hcut⟩ := hcut
  obtain ⟨v28, hcut⟩ := hcut
  obtain ⟨v29, hcut⟩ := hcut
  obtain ⟨v30, hcut⟩ := hcut
  obtain ⟨v31, hcut⟩ := hcut
  obtain ⟨v32, hcut⟩ := hcut
  obtain ⟨v33, hcut⟩ := hcut
  obtain ⟨v34, hcut⟩ := hcut
  obtain ⟨v35, hcut⟩ := hcut
  obtain ⟨v36, hcut⟩ := hcut
  obtain ⟨v37, hcut⟩ := hcut
  obtain ⟨v38, hcut⟩ := hcut
  obtain ⟨v39, hcut⟩ := hcut
  obtain ⟨v120, hcut⟩ := hcut
  obtain ⟨v121, hcut⟩ := hcut
  obtain ⟨v122, hcut⟩ := hcut
  obtain ⟨v123, hcut⟩ := hcut
  obtain ⟨v124, hcut⟩ := hcut
  obtain ⟨v125, hcut⟩ := hcut
  obtain ⟨v126, hcut⟩ := hcut
  obtain ⟨v127, hcut⟩ := hcut
  obtain ⟨v128, hcut⟩ := hcut
  obtain ⟨v129, hcut⟩ := hcut
  obtain ⟨v130, hcut⟩ := hcut
  obtain ⟨v131, hcut⟩ := hcut
  obtain ⟨v132, hcut⟩ := hcut
  obtain ⟨v133, hcut⟩ := hcut
  obtain ⟨v134, hcut⟩ := hcut
  obtain ⟨v135, hcut⟩ := hcut
  obtain ⟨v136, hcut⟩ := hcut
  obtain ⟨v137, hcut⟩ := hcut
  obtain ⟨v138, hcut⟩ := hcut
  obtain ⟨v139, hcut⟩ := hcut
  obtain ⟨v140, hcut⟩ := hcut
  obtain ⟨v141, hcut⟩ := hcut
  obtain ⟨v142, hcut⟩ := hcut
  obtain ⟨v143, hcut⟩ := hcut
  obtain ⟨v144, hcut⟩ := hcut
  obtain ⟨v145, hcut⟩ := hcut
  obtain ⟨v146, hcut⟩ := hcut
  obtain ⟨v147, hcut⟩ := hcut
  obtain ⟨v148, hcut⟩ := hcut
  obtain ⟨v149, hcut⟩ := hcut
  obtain ⟨v150, hcut⟩ := hcut
  obtain ⟨v151, hcut⟩ := hcut
  obtain ⟨v152, hcut⟩ := hcut
  obtain ⟨v153, hcut⟩ := hcut
  obtain ⟨v154, hcut⟩ := hcut
  obtain ⟨v155, hcut⟩ := hcut
  obtain ⟨v156, hcut⟩ := hcut
  obtain ⟨v157, hcut⟩ := hcut
  obtain ⟨v158, hcut⟩ := hcut
  obtain ⟨v159, hcut⟩ := hcut
  obtain ⟨v160, hcut⟩ := hcut
  obtain ⟨v161, hcut⟩ := hcut
  obtain ⟨v162, hcut⟩ := hcut
  obtain ⟨v163, hcut⟩ := hcut
  obtain ⟨v164, hcut⟩ := hcut
  obtain ⟨v165, hcut⟩ := hcut
  obtain ⟨v166, hcut⟩ := hcut
  obtain ⟨v167, hcut⟩ := hcut
  obtain ⟨v168, hcut⟩ := hcut
  obtain ⟨v169, hcut⟩ := hcut
  obtain ⟨v170, hcut⟩ := hcut
  obtain ⟨v171, hcut⟩ := hcut
  obtain ⟨v172, hcut⟩ := hcut
  obtain ⟨v173, hcut⟩ := hcut
  obtain ⟨v174, hcut⟩ := hcut
  obtain ⟨v175, hcut⟩ := hcut
  obtain ⟨v176, hcut⟩ := hcut
  obtain ⟨v177, hcut⟩ := hcut
  obtain ⟨v178, hcut⟩ := hcut
  obtain ⟨v179, hcut⟩ := hcut
  obtain ⟨v180, hcut⟩ := hcut
  obtain ⟨v181, hcut⟩ := hcut
  obtain ⟨v182, hcut⟩ := hcut
  obtain ⟨v183, hcut⟩ := hcut
  obtain ⟨v184, hcut⟩ := hcut
  obtain ⟨v185, hcut⟩ := hcut
  obtain ⟨v186, hcut⟩ := hcut
  obtain ⟨v187, hcut⟩ := hcut
  obtain ⟨v188, hcut⟩ := hcut
  obtain ⟨v189, hcut⟩ := hcut
  obtain ⟨v190, hcut⟩ := hcut
  obtain ⟨v191, hcut⟩ := hcut
  obtain ⟨v192, hcut⟩ := hcut
  obtain ⟨v193, hcut⟩ := hcut
  obtain ⟨v194, hcut⟩ := hcut
  obtain ⟨v195, hcut⟩ := hcut
  obtain ⟨v196, hcut⟩ := hcut
  obtain ⟨v197, hcut⟩ := hcut
  obtain ⟨v198, hcut⟩ := hcut
  obtain ⟨v199, hcut⟩ := hcut
  obtain ⟨v200, hcut⟩ := hcut
  obtain ⟨v201, hcut⟩ := hcut
  obtain ⟨v202, hcut⟩ := hcut
  obtain ⟨v203, hcut⟩ := hcut
  obtain ⟨v204, hcut⟩ := hcut
  obtain ⟨v205, hcut⟩ := hcut
  obtain ⟨v206, hcut⟩ := hcut
  obtain ⟨v207, hcut⟩ := hcut
  obtain ⟨v208, hcut⟩ := hcut
  obtain ⟨v209, hcut⟩ := hcut
  obtain ⟨v210, hcut⟩ := hcut
  obtain ⟨v211, hcut⟩ := hcut
  obtain ⟨v212, hcut⟩ := hcut
  obtain ⟨v213, hcut⟩ := hcut
  obtain ⟨v214, hcut⟩ := hcut
  obtain ⟨v215, hcut⟩ := hcut
  obtain ⟨v216, hcut⟩ := hcut
  obtain ⟨v217, hcut⟩ := hcut
  obtain ⟨v218, hcut⟩ := hcut
  obtain ⟨v219, hcut⟩ := hcut
  obtain ⟨v220, hcut⟩ := hcut
  obtain ⟨v221, hcut⟩ := hcut
  obtain ⟨v222, hcut⟩ := hcut
  obtain ⟨v223, hcut⟩ := hcut
  obtain ⟨v224, hcut⟩ := hcut
  obtain ⟨v225, hcut⟩ := hcut
  obtain ⟨v226, hcut⟩ := hcut
  obtain ⟨v227, hcut⟩ := hcut
  obtain ⟨v228, hcut⟩ := hcut
  obtain ⟨v229, hcut⟩ := hcut
  obtain ⟨v230, hcut⟩ := hcut
  obtain ⟨v231, hcut⟩ := hcut
  obtain ⟨v232, hcut⟩ := hcut
  obtain ⟨v233, hcut⟩ := hcut
  obtain ⟨v234, hcut⟩ := hcut
  obtain ⟨v235, hcut⟩ := hcut
  obtain ⟨v236, hcut⟩ := hcut
  obtain ⟨v237, hcut⟩ := hcut
  obtain ⟨v238, hcut⟩ := hcut
  obtain ⟨v239, hcut⟩ := hcut
  obtain ⟨v240, hcut⟩ := hcut
  obtain ⟨v241, hcut⟩ := hcut
  obtain ⟨v242, hcut⟩ := hcut
  obtain ⟨v243, hcut⟩ := hcut
  obtain ⟨v244, hcut⟩ := hcut
  obtain ⟨v245, hcut⟩ := hcut
  obtain ⟨v246, hcut⟩ := hcut
  obtain ⟨v247, hcut⟩ := hcut
  obtain ⟨v248, hcut⟩ := hcut
  obtain ⟨v249, hcut⟩ := hcut
  obtain ⟨v250, hcut⟩ := hcut
  obtain ⟨v251, hcut⟩ := hcut
  obtain ⟨v252, hcut⟩ := hcut
  obtain ⟨v253, hcut⟩ := hcut
  obtain ⟨v254, hcut⟩ := hcut
  obtain ⟨v255, hcut⟩ := hcut
  obtain ⟨v256, hcut⟩ := hcut
  obtain ⟨v257, hcut⟩ := hcut
  obtain ⟨v258, hcut⟩ := hcut
  obtain ⟨v259, hcut⟩ := hcut
  obtain ⟨v260, hcut⟩ := hcut
  obtain ⟨v261, hcut⟩ := hcut
  obtain ⟨v262, hcut⟩ := hcut
  obtain ⟨v263, hcut⟩ := hcut
  obtain ⟨v264, hcut⟩ := hcut
  obtain ⟨v265, hcut⟩ := hcut
  obtain ⟨v266, hcut⟩ := hcut
  obtain ⟨v267, hcut⟩ := hcut
  obtain ⟨v268, hcut⟩ := hcut
  obtain ⟨v269, hcut⟩ := hcut
  obtain ⟨v270, hcut⟩ := hcut
  obtain ⟨v271, hcut⟩ := hcut
  obtain ⟨v272, hcut⟩ := hcut
  obtain ⟨v273, hcut⟩ := hcut
  obtain ⟨v274, hcut⟩ := hcut
  obtain ⟨v275, hcut⟩ := hcut
  obtain ⟨v276, hcut⟩ := hcut
  obtain ⟨v277, hcut⟩ := hcut
  obtain ⟨v278, hcut⟩ := hcut
  obtain ⟨v279, hcut⟩ := hcut
  obtain ⟨v280, hcut⟩ := hcut
  obtain ⟨v281, hcut⟩ := hcut
  obtain ⟨v282, hcut⟩ := hcut
  obtain ⟨v283, hcut⟩ := hcut
  obtain ⟨v284, hcut⟩ := hcut
  obtain ⟨v285, hcut⟩ := hcut
  obtain ⟨v286, hcut⟩ := hcut
  obtain ⟨v287, hcut⟩ := hcut
  obtain ⟨v288, hcut⟩ := hcut
  obtain ⟨v289, hcut⟩ := hcut
  obtain ⟨v290, hcut⟩ := hcut
  obtain ⟨v291, hcut⟩ := hcut
  obtain ⟨v292, hcut⟩ := hcut
  obtain ⟨v293, hcut⟩ := hcut
  obtain ⟨v294, hcut⟩ := hcut
  obtain ⟨v295, hcut⟩ := hcut
  obtain ⟨v296, hcut⟩ := hcut
  obtain ⟨v297, hcut⟩ := hcut
  obtain ⟨v298, hcut⟩ := hcut
  obtain ⟨v299, hcut⟩ := hcut
  obtain ⟨v300, hcut⟩ := hcut
  obtain ⟨v301, hcut⟩ := hcut
  obtain ⟨v302, hcut⟩ := hcut
  obtain ⟨v303, hcut⟩ := hcut
  obtain ⟨v304, hcut⟩ := hcut
  obtain ⟨v305, hcut⟩ := hcut
  obtain ⟨v306, hcut⟩ := hcut
  obtain ⟨v307, hcut⟩ := hcut
  obtain ⟨v308, hcut⟩ := hcut
  obtain ⟨v309, hcut⟩ := hcut
  obtain ⟨v310, hcut⟩ := hcut
  obtain ⟨v311, hcut⟩ := hcut
  obtain ⟨v312, hcut⟩ := hcut
  obtain ⟨v313, hcut⟩ := hcut
  obtain ⟨v314, hcut⟩ := hcut
  obtain ⟨v315, hcut⟩ := hcut
  obtain ⟨v316, hcut⟩ := hcut
  obtain ⟨v317, hcut⟩ := hcut
  obtain ⟨v318, hcut⟩ := hcut
  obtain ⟨v319, hcut⟩ := hcut
  obtain ⟨v320, hcut⟩ := hcut
  obtain ⟨v321, hcut⟩ := hcut
  obtain ⟨v322, hcut⟩ := hcut
  obtain ⟨v323, hcut⟩ := hcut
  obtain ⟨v324, hcut⟩ := hcut
  obtain ⟨v325, hcut⟩ := hcut
  obtain ⟨v326, hcut⟩ := hcut
  obtain ⟨v327, hcut⟩ := hcut
  obtain ⟨v328, hcut⟩ := hcut
  obtain ⟨v329, hcut⟩ := hcut
  obtain ⟨v330, hcut⟩ := hcut
  obtain ⟨v331, hcut⟩ := hcut
  obtain ⟨v332, hcut⟩ := hcut
  obtain ⟨v333, hcut⟩ := hcut
  obtain ⟨v334, hcut⟩ := hcut
  obtain ⟨v335, hcut⟩ := hcut
  obtain ⟨v336, hcut⟩ := hcut
  obtain ⟨v337, hcut⟩ := hcut
  obtain ⟨v338, hcut⟩ := hcut
  obtain ⟨v339, hcut⟩ := hcut
  obtain ⟨v340, hcut⟩ := hcut
  obtain ⟨v341, hcut⟩ := hcut
  obtain ⟨v342, hcut⟩ := hcut
  obtain ⟨v343, hcut⟩ := hcut
  obtain ⟨v344, hcut⟩ := hcut
  obtain ⟨v345, hcut⟩ := hcut
  obtain ⟨v346, hcut⟩ := hcut
  obtain ⟨v347, hcut⟩ := hcut
  obtain ⟨v348, hcut⟩ := hcut
  obtain ⟨v349, hcut⟩ := hcut
  obtain ⟨v350, hcut⟩ := hcut
  obtain ⟨v351, hcut⟩ := hcut
  obtain ⟨v352, hcut⟩ := hcut
  obtain ⟨v353, hcut⟩ := hcut
  obtain ⟨v354, hcut⟩ := hcut
  obtain ⟨v355, hcut⟩ := hcut
  obtain ⟨v356, hcut⟩ := hcut
  obtain ⟨v357, hcut⟩ := hcut
  obtain ⟨v358, hcut⟩ := hcut
  obtain ⟨v359, hcut⟩ := hcut
  obtain ⟨v360, hcut⟩ := hcut
  obtain ⟨v361, hcut⟩ := hcut
  obtain ⟨v362, hcut⟩ := hcut
  obtain ⟨v363, hcut⟩ := hcut
  obtain ⟨v364, hcut⟩ := hcut
  obtain ⟨v365, hcut⟩ := hcut
  obtain ⟨v366, hcut⟩ := hcut
  obtain ⟨v367, hcut⟩ := hcut
  obtain ⟨v368, hcut⟩ := hcut
  obtain ⟨v369, hcut⟩ := hcut
  obtain ⟨v370, hcut⟩ := hcut
  obtain ⟨v371, hcut⟩ := hcut
  obtain ⟨v372, hcut⟩ := hcut
  obtain ⟨v373, hcut⟩ := hcut
  obtain ⟨v374, hcut⟩ := hcut
  obtain ⟨v375, hcut⟩ := hcut
  obtain ⟨v376, hcut⟩ := hcut
  obtain ⟨v377, hcut⟩ := hcut
  obtain ⟨v378, hcut⟩ := hcut
  obtain ⟨v379, hcut⟩ := hcut
  obtain ⟨v380, hcut⟩ := hcut
  obtain ⟨v381, hcut⟩ := hcut
  obtain ⟨v382, hcut⟩ := hcut
  obtain ⟨v383, hcut⟩ := hcut
  obtain ⟨hR, ha'⟩ := hcut
  subst ha'
  clear HM HOK HLP HON hc2 HL2 HL
  obtain ⟨A2, c2, B, cb, ps2, on, hM, hok, hlp, hon, hc2⟩ := hR
  have HOK := Lib.hid hok
  have HLP := Lib.hid hlp
  have HON := Lib.hid hon
  have HC := Lib.hid (fun W hP => pWaits_any W A2 B np c2 cb ps2 dst hP hlp hok hc2)
  have x0 := hM.box.cell 0
  have HM := Lib.hid hM
  clear hok hlp hon hM
  go_upto_block 13 with fail
  clear x0
  go_wp2_with fail
  go_loopg [37, 353] np (fun gk s37 s353 W => ∃ j : Nat, j ≤ np ∧ gk = np - j ∧ s353 = .int .i64 (j : Nat) ∧ s37 = .int .i64 (waitsP dst (ps2.take j) : Nat) ∧ RM w rb ob np A2 c2 B cb ps2 ps2 on W)
  case atStart => exact ⟨0, by omega, by omega, rfl, rfl, HM.out⟩
  case round =>
    clear HM
    obtain ⟨j, hj, hgj, rfl, rfl, hM⟩ := hrel
    have HGJ := Lib.hid hgj
    clear hgj
    by_cases hjn : j < np
    · have hjp : j < ps2.length := by rw [HLP.out]; exact hjn
      have hok1 := HOK.out.ok _ (List.getElem_mem hjp)
      obtain ⟨ivs, hP⟩ := hM.pth
      obtain ⟨g1, o1, hA⟩ := hP.isSome j hjp
      subst hA
      have y0 := hP.cell j 0 hjp (by decide)
      have y1 := hP.cell j 1 hjp (by decide)
      have y2 := hP.cell j 2 hjp (by decide)
      have y3 := hP.cell j 3 hjp (by decide)
      have y4 := hP.cell j 4 hjp (by decide)
      have y5 := hP.cell j 5 hjp (by decide)
      rw [Nat.add_zero] at y0
      have hjI : (j : Int) < np := by omega
      have hj0 : (0 : Int) ≤ j := by omega
      obtain ⟨RA, rc, hr0, hrc, _⟩ := hM.row.get j hjp
      have hwk : waitsP dst (ps2.take (j + 1)) = waitsP dst (ps2.take j) + (if ps2[j].«to» = dst then ps2[j].items.length else 0) := by rw [List.take_add_one, List.getElem?_eq_getElem hjp, Option.toList_some, waitsP_snoc]
      have hwl := waitsP_le dst (ps2.take j) (fun p hp => by have h1 := (HOK.out.ok p (List.mem_of_mem_take hp)); have h2 := h1.len; have h3 := h1.cap3; omega)
      rw [List.length_take] at hwl
      have hw96 : waitsP dst (ps2.take j) ≤ 96 := by
        have : min j ps2.length * 16 ≤ 6 * 16 := Nat.mul_le_mul_right 16 (by omega)
        omega
      have hi3 : ps2[j].items.length ≤ 3 := by have h2 := hok1.len; have h3 := hok1.cap3; omega
      generalize ivs[j]'(by rw [hP.len]; exact hjp) = iv at y0 y1 y2 y3 y4 y5
      generalize ps2[j] = q at y0 y1 y2 y3 y4 y5 hr0 hrc hwk hi3
      obtain ⟨qf, qt, qs, qi, qc, qb⟩ := q
      simp only [pcells] at y0 y1 y2 y3 y4 y5
      simp only at hr0 hrc hwk hi3
      obtain ⟨ql, hql⟩ : ∃ ql, ql = qi.length := ⟨_, rfl⟩
      rw [← hql] at hr0 hrc hwk hi3 y3
      clear hql
      have HWK := Lib.hid hwk
      have hr1 := (cell_below (bAlloc (Below.refl _ wr) (.cells #[.int .i64 qf, .int .i64 qt, .int .i64 qs, .slice iv.1 ql iv.2, .int .i64 qc, .bool qb] 33)) hr0).trans hr0
      have HM2 := Lib.hid (hM.alloc (.cells #[.int .i64 qf, .int .i64 qt, .int .i64 qs, .slice iv.1 ql iv.2, .int .i64 qc, .bool qb] 33))
      clear hwk hwl hP hM hr0 hok1
      obtain ⟨wt, hwt⟩ : ∃ wt, wt = waitsP dst (ps2.take j) := ⟨_, rfl⟩
      rw [← hwt] at hw96
      rw [← hwt]
      have HWT := Lib.hid hwt
      clear hwt
      by_cases hqt : qt = dst
      · have hqb : ((qt : Int) == (dst : Int)) = true := by simp; omega
        have HQT := Lib.hid hqt
        clear hqt
        go_wp2
        go_roundg (np - (j + 1))
        case measure => have := HGJ.out; omega
        case rel => exact ⟨j + 1, by omega, rfl, by go_num, by rw [HWK.out, if_pos HQT.out, ← HWT.out]; go_num, HM2.out⟩
      · have hqb : ((qt : Int) == (dst : Int)) = false := by simp; omega
        have HQT := Lib.hid hqt
        clear hqt
        go_wp2
        go_roundg (np - (j + 1))
        case measure => have := HGJ.out; omega
        case rel => exact ⟨j + 1, by omega, rfl, by go_num, by rw [HWK.out, if_neg HQT.out, ← HWT.out]; rfl, HM2.out⟩
    · obtain rfl : j = np := by omega
      have htk : ps2.take j = ps2 := List.take_of_length_le (by rw [HLP.out]; exact Nat.le_refl _)
      rw [htk]
      clear htk
      have x0 := hM.box.cell 0
      have x1 := hM.box.cell 1
      have HM := Lib.hid hM
      clear hM
      go_wp2_with (go_at_call 7; refine (HC.out _ HM.out.pth).mono ?_; rintro e w3 ⟨rfl, hb3⟩; have HM3 := Lib.hid (HM.out.step hb3); clear hb3)
      have HF : Hid (RMx w rb ob j w3) := Lib.hid ⟨A2, c2, B, cb, ps2, on, HM3.out, HOK.out, HLP.out, HON.out, hc2⟩
      refine Met.intro (hJ0 _ _ ?_)
      unfold R5
      (repeat apply Exists.intro)
      exact ⟨HF.out, rfl⟩

end Go.Proofs.YtokaaniimakfjaaDoor
