/- campaniletop.TopRoutes: where a set is switched. -/
import Derived.Test.YtokaaniimakfjaaDoorAmD
set_option linter.unusedSimpArgs false
set_option linter.unusedVariables false
set_option linter.unusedSectionVars false
namespace Go.Proofs.YtokaaniimakfjaaDoor
open Go.RowKit

theorem Sees.farB {w : World} {e : TypeId} {g o : Nat} {xs : List Value} (h : Sees w e (some ⟨g, o, none⟩) xs) {p : Addr} (hp : g ≠ p.block) (u : Value) : Sees (w.setCell p u) e (some ⟨g, o, none⟩) xs := by
  rcases h with ⟨h, _⟩ | ⟨g', o', cur, hA, hg, hx⟩
  · cases h
  · cases hA; exact .inr ⟨g, o, cur, rfl, (Below.heap_setCell w p u g hp).trans hg, hx⟩
theorem bools_set (on : List Bool) (st : Nat) (v : Bool) : (on.map Value.bool).toArray.setIfInBounds st (.bool v) = ((on.set st v).map Value.bool).toArray := by
  rw [List.setIfInBounds_toArray, List.map_set]
/-- 'r, on[at] = y, set'. -/
theorem RM.turnSw {w0 W : World} {rb ob yb n c cb c' cb' st gB : Nat} {A B A' : Option Addr} {ps rs ps' : List Pth} {on : List Bool} {v : Bool} (h : RM w0 rb ob n A c B cb ps rs on W) (hy : RY w0 yb n A' c' (some ⟨gB, 0, none⟩) cb' ps' (on.set st v) W) (hf : gB ≠ ob) :
    RM w0 rb ob n A' c' (some ⟨gB, 0, none⟩) cb' ps' rs (on.set st v) (((W.setCell ⟨w0.heap.size + 1, 0, none⟩ (.slice A' n c')).setCell ⟨w0.heap.size + 1, 1, none⟩ (.slice (some ⟨gB, 0, none⟩) 3 cb')).setCell ⟨ob, st, none⟩ (.bool v)) := by
  have h1 := h.box.set_ 0 (.slice A' n c')
  have h2 := h1.set_ 1 (.slice (some ⟨gB, 0, none⟩) 3 cb')
  have o1 : ob ≠ w0.heap.size + 1 := h.ono.ne_ h.box (by decide)
  have o2 := ((h.ono.far (p := ⟨w0.heap.size + 1, 0, none⟩) o1 (.slice A' n c')).far (p := ⟨w0.heap.size + 1, 1, none⟩) o1 (.slice (some ⟨gB, 0, none⟩) 3 cb'))
  have p2 := (hy.pth.keeps (keeps_set (Keeps.refl _ _) h.box (by decide) (.slice A' n c')) (keeps_set (Keeps.refl _ _) h.box (by decide) _)).keeps (keeps_set (p := ⟨w0.heap.size + 1, 1, none⟩) (Keeps.refl _ _) h1 (by decide) (.slice (some ⟨gB, 0, none⟩) 3 cb')) (keeps_set (Keeps.refl _ _) h1 (by decide) _)
  have r2 := (h.row.far h.box (by decide) (by decide) (.slice A' n c')).far (p := ⟨w0.heap.size + 1, 1, none⟩) h1 (by decide) (by decide) (.slice (some ⟨gB, 0, none⟩) 3 cb')
  have s2 := (hy.onr.set_ (p := ⟨w0.heap.size + 1, 0, none⟩) h.box (by decide) (.slice A' n c')).set_ (p := ⟨w0.heap.size + 1, 1, none⟩) h1 (by decide) (.slice (some ⟨gB, 0, none⟩) 3 cb')
  have b2 := (h.bel.setCell (p := ⟨w0.heap.size + 1, 0, none⟩) (by simp) (.slice A' n c')).setCell (p := ⟨w0.heap.size + 1, 1, none⟩) (by simp) (.slice (some ⟨gB, 0, none⟩) 3 cb')
  have o3 := o2.set_ st (.bool v)
  rw [bools_set] at o3
  exact ⟨h2.far (fun e => o1 e.symm) _, p2.keeps (keeps_set (p := ⟨ob, st, none⟩) (Keeps.refl _ _) o2 (by decide) _) (keeps_set (Keeps.refl _ _) o2 (by decide) _), s2.farB hf _, o3,
    r2.far (p := ⟨ob, st, none⟩) o2 (by decide) (by decide) _, b2.setCell h.hob _, fun g o hg => (by cases hg; exact hf), h.hob, h.hrb⟩

/-- what a set's switch makes of a path. -/
def swP (v : Bool) (st : Nat) (p : Pth) : Pth := if v then p else clear1 st p
theorem swP_map (v : Bool) (st : Nat) (ps : List Pth) : (if v then ps else ps.map (clear1 st)) = ps.map (swP v st) := by
  cases v
  · have : swP false st = clear1 st := by funext p; rfl
    rw [this]; rfl
  · have : swP true st = id := by funext p; rfl
    rw [this, List.map_id]; rfl
theorem swP_same (v : Bool) (st : Nat) (p : Pth) : (swP v st p).fr = p.fr ∧ (swP v st p).«to» = p.«to» := by
  cases v
  · exact clear1_same st p
  · exact ⟨rfl, rfl⟩
theorem swP_ok (v : Bool) (st : Nat) {p : Pth} (h : p.ok) : (swP v st p).ok := by
  cases v
  · exact clear1_ok h st
  · exact h
theorem swP_set (v : Bool) (st : Nat) (p : Pth) : (swP v st p).set = p.set := by
  cases v
  · show (clear1 st p).set = p.set
    unfold clear1
    split <;> rfl
  · rfl

set_option maxHeartbeats 4000000 in
set_option maxRecDepth 1000000 in
theorem lr_sw {u0 u1 u2 u3 u4 u6 u7 u8 u9 u10 u11 u14 u18 u19 u20 u21 u22 u23 u24 u25 u26 u27 u28 u29 u30 u31 u32 u33 u34 u35 u36 u37 u38 u39 u40 u41 u42 u43 u44 u45 u46 u47 u48 u49 u50 u51 u52 u53 u54 u55 u56 u57 u58 u59 u60 u61 u62 u63 u64 u65 u66 u67 u68 u69 u70 u71 u72 u73 u74 u75 u76 u77 u78 u79 u80 u81 u82 u83 u84 u85 u86 u87 u88 u89 u90 u91 u92 u93 u94 u95 u96 u97 u98 u99 u100 u101 u102 u103 u104 u105 u106 u107 u108 u109 u110 u111 u112 u113 u114 u115 u116 u117 u118 u119 u120 u121 u122 u123 u124 u125 u126 u127 u128 u129 u130 u131 u132 u133 u134 u135 u137 u138 u139 u140 u141 u142 u143 u144 u145 u146 u147 u148 u149 u150 u151 u152 u153 u154 u155 u156 u157 u158 u159 u160 u161 u162 u163 u164 u165 u166 u167 u168 u169 u170 u171 u172 u173 u174 u175 u176 u177 u178 u179 u180 u181 u182 u183 u184 u185 u186 u187 u188 u189 u190 u191 u192 u193 u194 u195 u196 u197 u198 u199 u200 u201 u202 u203 u204 u205 u206 u207 u208 u209 u210 u211 u212 u213 u214 u215 u216 u217 u218 u219 u220 u221 u222 u223 u224 u225 u226 u227 u228 u229 u230 u231 u232 u233 u234 u235 u236 u237 u238 u239 u240 u241 u242 u243 u244 u245 u246 u247 u248 u249 u250 u251 u252 u253 u254 u255 u256 u257 u258 u259 u260 u261 u262 u263 u264 u265 u266 u267 u268 u269 u270 u271 u272 u273 u274 u275 u276 u277 u278 u279 u280 u281 u282 u283 u284 u285 u286 u287 u288 u289 u290 u291 u292 u293 u294 u295 u296 u297 u298 u299 u300 u301 u302 u303 u304 u305 u306 u307 u308 u309 u310 u311 u312 u313 u314 u315 u316 u317 u318 u319 u320 u321 u322 u323 u324 u325 u326 u327 u328 u329 u330 u331 u332 u333 u334 u335 u336 u337 u338 u339 u340 u341 u342 u343 u344 u345 u346 u347 u348 u349 u350 u351 u352 u353 u354 u355 u356 u357 u358 u359 u360 u361 u362 u363 u364 u365 u366 u367 u368 u369 u370 u371 u372 u373 u374 u375 u376 u377 u378 u379 u380 u381 u382 u383 u384 : Value} (w0 W : World) (rb ob np dst : Nat) (d : Int) (s : ByteArray) (A : Option Addr) (c : Nat) (B : Option Addr) (cb : Nat) (ps : List Pth) (on : List Bool)
    (hM : RM w0 rb ob np A c B cb ps ps on W) (hok : PsOk ps) (hlp : ps.length = np) (hon : on.length = 3) (hc : np ≤ c) (hdst : dst ≤ 2) (hs : s.size ≤ 8) (hd : d = 4) (xb xw : Nat) (xa : Int) (xt : ByteArray) (hxw : xw < 256) (hX : Blk W xb 28 #[.int .u8 xw, .int .u8 xa, .string xt])
    {Q' : Exit → Act → World → Prop} {J K : Act → World → Prop} (hQ : ∀ c (a a' : Act) w, a.defers = a'.defers → Q' (.panic c) a w → Q' (.panic c) a' w) (hJ : ∀ a' w', R6 w0 rb ob np dst u0 u1 u2 u3 u4 u6 u7 u8 u9 u10 u11 u14 (.pointer (some ⟨xb, 0, none⟩)) (.string s) u40 u41 u42 u43 u44 u45 u46 u47 u48 u49 u50 u51 u52 u53 u54 u55 u56 u57 u58 u59 u60 u61 u62 u63 u64 u65 u66 u67 u68 u69 u70 u71 u72 u73 u74 u75 u76 u77 u78 u79 u80 u81 u82 u83 u84 u85 u86 u87 u88 u89 u90 u91 u92 u93 u94 u95 u96 u97 u98 u99 u100 u101 u102 u103 u104 u105 u106 u107 u108 u109 u110 u111 u112 u113 u114 u115 u116 u117 u118 u119 u384 a' w' → J a' w') (hK : ∀ a' w', Met J a' w' → K a' w') :
    Code.wp Tryd.prog (lrBlk 6) (Exit.then K Q') ⟨#[u0, u1, u2, u3, u4, .pointer (some ⟨w0.heap.size + 1, 0, none⟩), u6, u7, u8, u9, u10, u11, .slice (some ⟨rb, 0, none⟩) np np, .slice (some ⟨ob, 0, none⟩) 3 3, u14, .pointer (some ⟨xb, 0, none⟩), .int .i64 (dst : Nat), .string s, u18, u19, u20, u21, u22, u23, u24, u25, u26, u27, u28, u29, u30, u31, u32, u33, u34, u35, u36, u37, u38, u39, u40, u41, u42, u43, u44, u45, u46, u47, u48, u49, u50, u51, u52, u53, u54, u55, u56, u57, u58, u59, u60, u61, u62, u63, u64, u65, u66, u67, u68, u69, u70, u71, u72, u73, u74, u75, u76, u77, u78, u79, u80, u81, u82, u83, u84, u85, u86, u87, u88, u89, u90, u91, u92, u93, u94, u95, u96, u97, u98, u99, u100, u101, u102, u103, u104, u105, u106, u107, u108, u109, u110, u111, u112, u113, u114, u115, u116, u117, u118, u119, u120, u121, u122, u123, u124, u125, u126, u127, u128, u129, u130, u131, u132, u133, u134, u135, .int .u8 d, u137, u138, u139, u140, u141, u142, u143, u144, u145, u146, u147, u148, u149, u150, u151, u152, u153, u154, u155, u156, u157, u158, u159, u160, u161, u162, u163, u164, u165, u166, u167, u168, u169, u170, u171, u172, u173, u174, u175, u176, u177, u178, u179, u180, u181, u182, u183, u184, u185, u186, u187, u188, u189, u190, u191, u192, u193, u194, u195, u196, u197, u198, u199, u200, u201, u202, u203, u204, u205, u206, u207, u208, u209, u210, u211, u212, u213, u214, u215, u216, u217, u218, u219, u220, u221, u222, u223, u224, u225, u226, u227, u228, u229, u230, u231, u232, u233, u234, u235, u236, u237, u238, u239, u240, u241, u242, u243, u244, u245, u246, u247, u248, u249, u250, u251, u252, u253, u254, u255, u256, u257, u258, u259, u260, u261, u262, u263, u264, u265, u266, u267, u268, u269, u270, u271, u272, u273, u274, u275, u276, u277, u278, u279, u280, u281, u282, u283, u284, u285, u286, u287, u288, u289, u290, u291, u292, u293, u294, u295, u296, u297, u298, u299, u300, u301, u302, u303, u304, u305, u306, u307, u308, u309, u310, u311, u312, u313, u314, u315, u316, u317, u318, u319, u320, u321, u322, u323, u324, u325, u326, u327, u328, u329, u330, u331, u332, u333, u334, u335, u336, u337, u338, u339, u340, u341, u342, u343, u344, u345, u346, u347, u348, u349, u350, u351, u352, u353, u354, u355, u356, u357, u358, u359, u360, u361, u362, u363, u364, u365, u366, u367, u368, u369, u370, u371, u372, u373, u374, u375, u376, u377, u378, u379, u380, u381, u382, u383, u384], []⟩ W := by
  conv => arg 2; whnf
  subst hd
  have HOK := Lib.hid hok
  have HON := Lib.hid hon
  have HLP := Lib.hid hlp
  have HM := Lib.hid hM
  have hnp6 : np ≤ 6 := by rw [← hlp]; exact hok.len
  obtain ⟨v, hv⟩ : ∃ v : Bool, v = ((xw : Int) / 8 % 2 == 0) := ⟨_, rfl⟩
  have HC := Lib.hid (fun W hP hO => pSwitch_any W A B np c cb dst v ps on hP hlp hok hc hO hon hdst)
  have b0 := hM.box.cell 0
  have b1 := hM.box.cell 1
  have x0 := hX.cell 0
  have hv' := hv.symm
  clear hok hon hlp hM hX hv
  go_upto_region 56 with fail
  clear x0 hv'
  go_upto_region 57 with (go_at_call 5; refine (HC.out _ HM.out.pth HM.out.onr).mono ?_; rintro e w1 ⟨A', c', B', cb', rfl, hc', hP', hO', hb', gB, rfl, hgB⟩; have HM1 := Lib.hid ((HM.out.step hb').alloc (.cells #[.slice A' np c', .slice (some ⟨gB, 0, none⟩) 3 cb'] 26)); have HY1 : Hid (RY w0 w1.heap.size np A' c' (some ⟨gB, 0, none⟩) cb' (ps.map (swP v dst)) (on.set dst v) (w1.alloc (.cells #[.slice A' np c', .slice (some ⟨gB, 0, none⟩) 3 cb'] 26))) := Lib.hid ⟨Blk.new _ _ _, (swP_map v dst ps ▸ hP').below (bAlloc (Below.refl _ _) _), hO'.below (bAlloc (Below.refl _ _) _), (HM.out.step hb').box.lt⟩; have HGB : Hid (gB ≠ ob) := Lib.hid (fun e => by have := HM.out.ono.lt; omega); clear hP' hb' hO' b0 b1)
  have hMT := HM1.out.turnSw HY1.out HGB.out
  have HMT := Lib.hid hMT
  have z0 := HY1.out.box.cell 0
  have z1 := HY1.out.box.cell 1
  have y0 := HM1.out.box.cell 0
  have y1 := HM1.out.box.cell 1
  have f0 := HM1.out.box.frozen 0
  have f1 := HM1.out.box.frozen 1
  have fo := HM1.out.ono.frozen dst
  have hdo : dst < on.length := by rw [HON.out]; omega
  have o0 := HM1.out.ono.cell dst
  rw [List.getElem?_toArray, List.getElem?_map, List.getElem?_eq_getElem hdo, Option.map_some] at o0
  have hdI : (dst : Int) < 3 := by omega
  have hd0I : (0 : Int) ≤ dst := by omega
  have hne : ¬ (ob = w0.heap.size + 1) := HM1.out.ono.ne_ HM1.out.box (by decide)
  have q0 := hMT.box.cell 0
  clear hMT
  generalize w1.alloc (.cells #[.slice A' np c', .slice (some ⟨gB, 0, none⟩) 3 cb'] 26) = w2 at *
  go_upto_region 60 with fail
  clear z0 z1 y0 y1 f0 f1 fo o0 hne HM1 HY1
  generalize ((w2.setCell _ _).setCell _ _).setCell _ _ = w3 at HMT q0 ⊢
  go_upto_block 11 with fail
  clear q0
  go_wp2_with fail
  go_loopg [333] np (fun gk s333 W => ∃ j : Nat, j ≤ np ∧ gk = np - j ∧ s333 = .int .i64 (j : Nat) ∧ RM w0 rb ob np A' c' (some ⟨gB, 0, none⟩) cb' (ps.map (swP v dst)) (upto (swP v dst) ps j) (on.set dst v) W)
  case atStart => exact ⟨0, by omega, by omega, rfl, by rw [upto_zero]; exact HMT.out⟩
  case round =>
    clear HMT HM HC
    obtain ⟨j, hj, hgj, rfl, hM⟩ := hrel
    have HGJ := Lib.hid hgj
    clear hgj
    by_cases hjn : j < np
    · have hjp0 : j < ps.length := by rw [HLP.out]; exact hjn
      have hjp : j < (ps.map (swP v dst)).length := by rw [List.length_map]; exact hjp0
      obtain ⟨ivs, hP⟩ := hM.pth
      obtain ⟨g1, o1, hA⟩ := hP.isSome j hjp
      subst hA
      have y0 := hP.cell j 0 hjp (by decide)
      have y1 := hP.cell j 1 hjp (by decide)
      have y2 := hP.cell j 2 hjp (by decide)
      have y3 := hP.cell j 3 hjp (by decide)
      have y4 := hP.cell j 4 hjp (by decide)
      have y5 := hP.cell j 5 hjp (by decide)
      rw [Nat.add_zero] at y0
      have hjI : (j : Int) < np := by omega
      have hj0 : (0 : Int) ≤ j := by omega
      have hju : j < (upto (swP v dst) ps j).length := by rw [upto_len]; exact hjp0
      have hug := upto_get (swP v dst) ps j hju hjp0
      have hup := upto_set (swP v dst) ps j hjp0
      have hsame : (upto (swP v dst) ps j).set j ps[j] = upto (swP v dst) ps j := by have := set_same _ _ hju; rwa [hug] at this
      have hqset : (ps.map (swP v dst))[j].set = ps[j].set := by rw [List.getElem_map, swP_set]
      generalize ivs[j]'(by rw [hP.len]; exact hjp) = iv at y0 y1 y2 y3 y4 y5
      generalize (ps.map (swP v dst))[j] = q at y0 y1 y2 y3 y4 y5 hqset
      generalize hps : ps[j] = p at hqset hup hsame hug
      clear hps
      obtain ⟨qf, qt, qs, qi, qc, qb⟩ := q
      simp only [pcells] at y0 y1 y2 y3 y4 y5
      have HQS : Hid (qs = p.set) := Lib.hid hqset
      clear hqset
      have HB := Lib.hid (Blk.new wr 33 #[.int .i64 qf, .int .i64 qt, .int .i64 qs, .slice iv.1 qi.length iv.2, .int .i64 qc, .bool qb])
      have HM2 := Lib.hid (hM.alloc (.cells #[.int .i64 qf, .int .i64 qt, .int .i64 qs, .slice iv.1 qi.length iv.2, .int .i64 qc, .bool qb] 33))
      have HUP := Lib.hid hup; have HSAME := Lib.hid hsame; have HUG := Lib.hid hug
      have rf := HM2.out.row.frozen j
      obtain ⟨RA, rc, hr0, _⟩ := HM2.out.row.get j hju
      clear hup hsame hug hP hM
      by_cases hG : v = false ∧ p.set = dst
      · obtain ⟨rfl, hst⟩ := hG
        have hqd : ((qs : Int) == (dst : Int)) = true := by have := HQS.out; simp; omega
        have hS := HM2.out.setRow j hju [] none 0 (Nat.le_refl _) (.inl ⟨rfl, rfl⟩)
        have HS := Lib.hid hS
        have HST := Lib.hid hst
        clear hS hst
        go_wp2
        go_roundg (np - (j + 1))
        case measure => have := HGJ.out; omega
        case rel =>
          refine ⟨j + 1, by omega, rfl, by go_num, ?_⟩
          have h7 := HS.out
          rw [HUG.out] at h7
          rw [← HUP.out]
          have e3 : swP false dst p = p.hold [] := by show clear1 dst p = p.hold []; unfold clear1; rw [if_pos HST.out]
          rw [e3]
          exact h7
      · have e3 : swP v dst p = p := by
          cases v
          · show clear1 dst p = p
            unfold clear1
            rw [if_neg (fun h => hG ⟨rfl, h⟩)]
          · rfl
        have HE3 := Lib.hid e3
        have hqd : v = true ∨ ((qs : Int) == (dst : Int)) = false := by
          have := HQS.out
          cases v
          · right
            have : ¬ p.set = dst := fun h => hG ⟨rfl, h⟩
            simp; omega
          · left; rfl
        clear e3 hG
        rcases hqd with rfl | hqd
        · cases hqd2 : ((qs : Int) == (dst : Int))
          all_goals
            go_wp2
            go_roundg (np - (j + 1))
            case measure => have := HGJ.out; omega
            case rel =>
              refine ⟨j + 1, by omega, rfl, by go_num, ?_⟩
              rw [← HUP.out, HE3.out, HSAME.out]; exact HM2.out
        · go_wp2
          go_roundg (np - (j + 1))
          case measure => have := HGJ.out; omega
          case rel =>
            refine ⟨j + 1, by omega, rfl, by go_num, ?_⟩
            rw [← HUP.out, HE3.out, HSAME.out]; exact HM2.out
    · have hjn1 : j = np := by omega
      subst hjn1
      rw [upto_all _ _ _ (by rw [HLP.out]; exact Nat.le_refl _)] at hM
      have HF : Hid (RMx w0 rb ob j wr) := Lib.hid ⟨A', c', _, cb', _, _, hM, psOk_map HOK.out _ (swP_same v dst) (fun p hp => swP_ok v dst (HOK.out.ok p hp)), by rw [List.length_map, HLP.out], by rw [List.length_set, HON.out], hc'⟩
      clear hM
      go_wp2
      refine Met.intro (hJ _ _ ?_)
      unfold R6
      (repeat apply Exists.intro)
      exact ⟨HF.out, rfl⟩
end Go.Proofs.YtokaaniimakfjaaDoor
