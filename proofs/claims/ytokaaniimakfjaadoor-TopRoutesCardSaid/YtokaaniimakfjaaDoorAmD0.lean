/- campaniletop.TopRoutes: its drawn region. -/
import Derived.Test.YtokaaniimakfjaaDoorAmB
import Derived.Test.YtokaaniimakfjaaDoorRg
import Derived.Deep.RegionLawGrows
set_option linter.unusedSimpArgs false
set_option linter.unusedVariables false
set_option linter.unusedSectionVars false
namespace Go.Proofs.YtokaaniimakfjaaDoor
open Go.RowKit

/-- the region of this number in a function's text. -/
def regionAt (n : Nat) : Code → Option Code
  | .region m o d => if m = n then some (.region m o d) else none
  | .loop c => regionAt n c
  | .seq a b => (match regionAt n a with
    | some c => some c
    | none => regionAt n b)
  | .block _ c => regionAt n c
  | .scope c => regionAt n c
  | .cond _ a b => (match regionAt n a with
    | some c => some c
    | none => regionAt n b)
  | _ => none
noncomputable def lrReg (n : Nat) : Code := (Tryd.f3.body.bind (regionAt n)).getD .skip

/-- append that grows, as an operation by itself. -/
theorem wpOper_append_grows {P : Program} {o : Oper} {a : Act} {w : World} {K : Act → World → Prop} {Q : Exit → Act → World → Prop}
    (hg : o.guard = none) (s x : Operand) (t : TypeId) (hop : o.op = Op.call { callee := Callee.builtin Builtin.append, args := #[s, x], argTypes := #[t, t] })
    (e : TypeId) (i : TypeInfo) (z : Value) (size bytes : Nat) (h1 : P.underlying t = some (.slice e)) (h2 : P.info? e = some i) (h3 : i.zero = some z) (h4 : i.size = size) (h5 : i.bytes = bytes) (h6 : z.cells.size = size) (h7 : 0 < size)
    (ao : Option Addr) (n cap : Nat) (olds : List Value) (hs : a.eval s = .slice ao n cap) (hnone : ao = none → n = 0 ∧ cap = 0) (hlo : olds.length = n * size) (holds : ∀ b, ao = some b → ∀ j u, olds[j]? = some u → w.cell? (b.add j) = some u)
    (ad : Addr) (m c : Nat) (news : List Value) (hx : a.eval x = .slice (some ad) m c) (hn : news.length = m * size) (hc : ∀ j u, news[j]? = some u → w.cell? (ad.add j) = some u) (h1c : ∀ u ∈ news, u.oneCell' = true)
    (hfull : cap < n + m) (b1 : n + m ≤ maxLen) (b2 : (n + m) * bytes ≤ 140737488355328)
    (hK : ∀ v' w', w'.ownsRow w.heap.size e size v' (n + m) (olds ++ news) → w.grownBy w' none → K (a.put o.dst v') w') : Oper.wp P o a w K Q := by
  have h := step_append_grows (P := P) (ops := #[]) (E := True) (Q := Q) hg s x t hop e i z size bytes h1 h2 h3 h4 h5 h6 h7 ao n cap olds hs hnone hlo holds ad m c news hx hn hc h1c hfull b1 b2 hK
  rwa [if_pos (by simp [Region.wanted, hg])] at h

set_option maxHeartbeats 4000000 in
set_option maxRecDepth 1000000 in
theorem lr_r49 {u0 u1 u2 u3 u4 u5 u6 u7 u8 u9 u10 u11 u13 u14 u15 u16 u18 u19 u20 u21 u22 u23 u25 u26 u27 u28 u29 u30 u31 u32 u33 u34 u35 u36 u37 u38 u39 u40 u41 u42 u43 u44 u45 u46 u47 u48 u49 u50 u51 u52 u53 u54 u55 u56 u57 u58 u59 u60 u61 u62 u63 u64 u65 u66 u67 u68 u69 u70 u71 u72 u73 u74 u75 u76 u77 u78 u79 u80 u81 u82 u83 u84 u85 u86 u87 u88 u89 u90 u91 u92 u93 u94 u95 u96 u97 u98 u99 u100 u101 u102 u103 u104 u105 u106 u107 u108 u109 u110 u111 u112 u113 u114 u115 u116 u117 u118 u119 u120 u121 u122 u123 u124 u125 u126 u127 u128 u129 u130 u131 u132 u133 u134 u135 u136 u137 u138 u139 u140 u141 u142 u143 u144 u145 u146 u147 u148 u149 u150 u151 u152 u153 u154 u155 u156 u157 u158 u159 u160 u161 u162 u163 u164 u165 u166 u167 u168 u169 u170 u171 u172 u173 u174 u175 u176 u177 u178 u179 u180 u181 u182 u183 u184 u185 u186 u187 u188 u189 u190 u191 u192 u193 u194 u195 u196 u197 u198 u199 u200 u201 u202 u203 u204 u205 u206 u207 u208 u209 u210 u211 u212 u213 u214 u215 u216 u217 u218 u219 u220 u221 u222 u223 u224 u225 u226 u227 u228 u229 u230 u231 u232 u233 u234 u235 u236 u237 u238 u239 u240 u241 u242 u243 u244 u245 u246 u247 u248 u249 u250 u251 u252 u253 u254 u255 u256 u257 u258 u259 u260 u261 u262 u263 u264 u265 u266 u267 u268 u269 u270 u271 u272 u273 u274 u275 u276 u277 u278 u279 u280 u281 u282 u283 u284 u285 u286 u287 u288 u289 u290 u291 u292 u293 u294 u295 u296 u297 u298 u299 u300 u301 u302 u303 u304 u305 u306 u307 u308 u309 u310 u311 u312 u313 u314 u315 u316 u317 u318 u319 u320 u321 u322 u323 u324 u325 u326 u327 u328 u329 u330 u331 u332 u333 u334 u335 u336 u337 u338 u339 u340 u341 u342 u343 u344 u345 u346 u347 u348 u349 u350 u351 u352 u353 u354 u355 u356 u357 u358 u359 u360 u361 u362 u363 u364 u365 u366 u367 u368 u369 u370 u371 u372 u373 u374 u375 u376 u377 u378 u379 u380 u381 u382 u383 u384 : Value} (W : World) (rb j np m4 c4 : Nat) (R' : Option Addr) (l' : List ByteArray) (s : ByteArray) (hj : j < np) (hr4 : W.cell? ⟨rb, j, none⟩ = some (.slice R' m4 c4)) (hm4c : m4 ≤ c4) (hm3 : m4 ≤ 3) (hml : l'.length = m4) (hs4 : Sees W 9 R' (l'.map Value.string)) (hfz : W.frozen? ⟨rb, j, none⟩ = false)
    {Q : Exit → Act → World → Prop} (hQ : ∀ c (a a' : Act) w, a.defers = a'.defers → Q (.panic c) a w → Q (.panic c) a' w)
    (hK : ∀ (v274 v275 v276 v277 v278 v279 v280 v281 v282 v283 v284 v285 v286 v287 v288 v289 v290 v291 v292 v293 v294 : Value) (A2 : Option Addr) (c2 : Nat) (w6 : World), Below W.heap.size W w6 → m4 + 1 ≤ c2 → Sees w6 9 A2 ((l' ++ [s]).map Value.string) → Q .normal ⟨#[u0, u1, u2, u3, u4, u5, u6, u7, u8, u9, u10, u11, .slice (some ⟨rb, 0, none⟩) np np, u13, u14, u15, u16, .string s, u18, u19, u20, u21, u22, u23, .int .i64 (j : Nat), u25, u26, u27, u28, u29, u30, u31, u32, u33, u34, u35, u36, u37, u38, u39, u40, u41, u42, u43, u44, u45, u46, u47, u48, u49, u50, u51, u52, u53, u54, u55, u56, u57, u58, u59, u60, u61, u62, u63, u64, u65, u66, u67, u68, u69, u70, u71, u72, u73, u74, u75, u76, u77, u78, u79, u80, u81, u82, u83, u84, u85, u86, u87, u88, u89, u90, u91, u92, u93, u94, u95, u96, u97, u98, u99, u100, u101, u102, u103, u104, u105, u106, u107, u108, u109, u110, u111, u112, u113, u114, u115, u116, u117, u118, u119, u120, u121, u122, u123, u124, u125, u126, u127, u128, u129, u130, u131, u132, u133, u134, u135, u136, u137, u138, u139, u140, u141, u142, u143, u144, u145, u146, u147, u148, u149, u150, u151, u152, u153, u154, u155, u156, u157, u158, u159, u160, u161, u162, u163, u164, u165, u166, u167, u168, u169, u170, u171, u172, u173, u174, u175, u176, u177, u178, u179, u180, u181, u182, u183, u184, u185, u186, u187, u188, u189, u190, u191, u192, u193, u194, u195, u196, u197, u198, u199, u200, u201, u202, u203, u204, u205, u206, u207, u208, u209, u210, u211, u212, u213, u214, u215, u216, u217, u218, u219, u220, u221, u222, u223, u224, u225, u226, u227, u228, u229, u230, u231, u232, u233, u234, u235, u236, u237, u238, u239, u240, u241, u242, u243, u244, u245, u246, u247, u248, u249, u250, u251, u252, u253, u254, u255, u256, u257, u258, u259, u260, u261, u262, u263, u264, u265, u266, u267, u268, u269, u270, u271, u272, u273, v274, v275, v276, v277, v278, v279, v280, v281, v282, v283, v284, v285, v286, v287, v288, v289, v290, v291, v292, v293, v294, u295, u296, u297, u298, u299, u300, u301, u302, u303, u304, u305, u306, u307, u308, u309, u310, u311, u312, u313, u314, u315, u316, u317, u318, u319, u320, u321, u322, u323, u324, u325, u326, u327, u328, u329, u330, u331, u332, u333, u334, u335, u336, u337, u338, u339, u340, u341, u342, u343, u344, u345, u346, u347, u348, u349, u350, u351, u352, u353, u354, u355, u356, u357, u358, u359, u360, u361, u362, u363, u364, u365, u366, u367, u368, u369, u370, u371, u372, u373, u374, u375, u376, u377, u378, u379, u380, u381, u382, u383, u384], []⟩ (w6.setCell ⟨rb, j, none⟩ (.slice A2 (m4 + 1) c2))) :
    Code.wp Tryd.prog (lrReg 49) Q ⟨#[u0, u1, u2, u3, u4, u5, u6, u7, u8, u9, u10, u11, .slice (some ⟨rb, 0, none⟩) np np, u13, u14, u15, u16, .string s, u18, u19, u20, u21, u22, u23, .int .i64 (j : Nat), u25, u26, u27, u28, u29, u30, u31, u32, u33, u34, u35, u36, u37, u38, u39, u40, u41, u42, u43, u44, u45, u46, u47, u48, u49, u50, u51, u52, u53, u54, u55, u56, u57, u58, u59, u60, u61, u62, u63, u64, u65, u66, u67, u68, u69, u70, u71, u72, u73, u74, u75, u76, u77, u78, u79, u80, u81, u82, u83, u84, u85, u86, u87, u88, u89, u90, u91, u92, u93, u94, u95, u96, u97, u98, u99, u100, u101, u102, u103, u104, u105, u106, u107, u108, u109, u110, u111, u112, u113, u114, u115, u116, u117, u118, u119, u120, u121, u122, u123, u124, u125, u126, u127, u128, u129, u130, u131, u132, u133, u134, u135, u136, u137, u138, u139, u140, u141, u142, u143, u144, u145, u146, u147, u148, u149, u150, u151, u152, u153, u154, u155, u156, u157, u158, u159, u160, u161, u162, u163, u164, u165, u166, u167, u168, u169, u170, u171, u172, u173, u174, u175, u176, u177, u178, u179, u180, u181, u182, u183, u184, u185, u186, u187, u188, u189, u190, u191, u192, u193, u194, u195, u196, u197, u198, u199, u200, u201, u202, u203, u204, u205, u206, u207, u208, u209, u210, u211, u212, u213, u214, u215, u216, u217, u218, u219, u220, u221, u222, u223, u224, u225, u226, u227, u228, u229, u230, u231, u232, u233, u234, u235, u236, u237, u238, u239, u240, u241, u242, u243, u244, u245, u246, u247, u248, u249, u250, u251, u252, u253, u254, u255, u256, u257, u258, u259, u260, u261, u262, u263, u264, u265, u266, u267, u268, u269, u270, u271, u272, u273, u274, u275, u276, u277, u278, u279, u280, u281, u282, u283, u284, u285, u286, u287, u288, u289, u290, u291, u292, u293, u294, u295, u296, u297, u298, u299, u300, u301, u302, u303, u304, u305, u306, u307, u308, u309, u310, u311, u312, u313, u314, u315, u316, u317, u318, u319, u320, u321, u322, u323, u324, u325, u326, u327, u328, u329, u330, u331, u332, u333, u334, u335, u336, u337, u338, u339, u340, u341, u342, u343, u344, u345, u346, u347, u348, u349, u350, u351, u352, u353, u354, u355, u356, u357, u358, u359, u360, u361, u362, u363, u364, u365, u366, u367, u368, u369, u370, u371, u372, u373, u374, u375, u376, u377, u378, u379, u380, u381, u382, u383, u384], []⟩ W := by
  conv => arg 2; whnf
  have hW5 : Below W.heap.size W (W.alloc (.cells #[.string s] 9)).drew := below_drewN (bAlloc (Below.refl _ _) _) 1
  have HS5 := Lib.hid (hs4.below hW5)
  have HR5 := Lib.hid ((cell_below hW5 hr4).trans hr4)
  have hr5 := (cell_below (bAlloc (Below.refl _ W) (.cells #[.string s] 9)) hr4).trans hr4
  have HT5 : Hid ((W.alloc (.cells #[.string s] 9)).drew.cell? ⟨W.heap.size, 0, none⟩ = some (.string s)) := Lib.hid ((Blk.new W 9 #[.string s]).drew.cell 0)
  have HHN : Hid (∀ (h : R' = none), m4 = 0 ∧ m4 = 0) := by
    apply Lib.hid
    intro h
    subst h
    rcases hs4 with ⟨_, h⟩ | ⟨_, _, _, h, _⟩
    · have hz : m4 = 0 := by rw [← hml]; simpa using h
      exact ⟨hz, hz⟩
    · cases h
  have HMX : Hid (m4 + 1 ≤ maxLen ∧ (m4 + 1) * 16 ≤ 140737488355328) := Lib.hid ⟨by unfold maxLen; omega, by omega⟩
  have HML := Lib.hid hml
  have HW5 := Lib.hid hW5
  have HFZ : Hid (∀ w6, Below (W.alloc (.cells #[.string s] 9)).drew.heap.size (W.alloc (.cells #[.string s] 9)).drew w6 → w6.frozen? ⟨rb, j, none⟩ = false) := by
    apply Lib.hid
    intro w6 hb
    have hlt : rb < W.heap.size := World.block_lt_of_cell? W _ hr4
    have h2 : Below W.heap.size W w6 := below_then2 hW5 hb
    exact (World.frozen?_of_block (h2.block rb hlt)).trans hfz
  have hjI : (j : Int) < np := by omega
  have hj0 : (0 : Int) ≤ j := by omega
  have hmI : (m4 : Int) ≤ c4 := by omega
  clear hs4 hml hW5
  obtain ⟨i0, hi0, hz0, hz1, hz2⟩ := info_parts Tryd.infoStr
  refine wp_region_T (fun w' => w'.cell? ⟨rb, j, none⟩ = some (.slice R' m4 c4)) [21] (by kernel_rfl) ?_
  refine wpAnyT_pure (i := 0) (v := ?_) rfl (by kernel_rfl) (by kernel_rfl) (by kernel_rfl) (by kernel_rfl) (fun _ _ _ h => hQ _ _ _ _ (by rfl) h) ⟨by rfl, ?_⟩ (fun _ => hr4) ?_
  rotate_left
  · intro wx; go_simp; all_goals with_reducible rfl
  simp only [Act.put, List.setIfInBounds_toArray, List.set_cons_succ, List.set_cons_zero]
  refine wpAnyT_pure (i := 1) (v := ?_) rfl (by kernel_rfl) (by kernel_rfl) (by kernel_rfl) (by kernel_rfl) (fun _ _ _ h => hQ _ _ _ _ (by rfl) h) ⟨by rfl, ?_⟩ (fun _ => hr4) ?_
  rotate_left
  · intro wx; go_simp; all_goals with_reducible rfl
  simp only [Act.put, List.setIfInBounds_toArray, List.set_cons_succ, List.set_cons_zero]
  refine wpAnyT_pure (i := 2) (v := ?_) rfl (by kernel_rfl) (by kernel_rfl) (by kernel_rfl) (by kernel_rfl) (fun _ _ _ h => hQ _ _ _ _ (by rfl) h) ⟨by rfl, ?_⟩ (fun _ => hr4) ?_
  rotate_left
  · intro wx; go_simp; all_goals with_reducible rfl
  simp only [Act.put, List.setIfInBounds_toArray, List.set_cons_succ, List.set_cons_zero]
  refine wpAnyT_pure (i := 3) (v := ?_) rfl (by kernel_rfl) (by kernel_rfl) (by kernel_rfl) (by kernel_rfl) (fun _ _ _ h => hQ _ _ _ _ (by rfl) h) ⟨by rfl, ?_⟩ (fun _ => hr4) ?_
  rotate_left
  · intro wx; go_simp; all_goals with_reducible rfl
  simp only [Act.put, List.setIfInBounds_toArray, List.set_cons_succ, List.set_cons_zero]
  refine wpAnyT_pure (i := 4) (v := ?_) rfl (by kernel_rfl) (by kernel_rfl) (by kernel_rfl) (by kernel_rfl) (fun _ _ _ h => hQ _ _ _ _ (by rfl) h) ⟨by rfl, ?_⟩ (fun _ => hr4) ?_
  rotate_left
  · intro wx; go_simp; all_goals with_reducible rfl
  simp only [Act.put, List.setIfInBounds_toArray, List.set_cons_succ, List.set_cons_zero]
  refine wpAnyT_read (i := 5) (v := ?_) rfl (by kernel_rfl) (by kernel_rfl) (by kernel_rfl) (by kernel_rfl) (by kernel_rfl) (by kernel_rfl) (fun _ _ _ h => hQ _ _ _ _ (by rfl) h) ⟨by rfl, ?_⟩ hr4 ?_
  rotate_left
  · intro wx hwx; go_simp; all_goals with_reducible rfl
  simp only [Act.put, List.setIfInBounds_toArray, List.set_cons_succ, List.set_cons_zero]
  refine wpAnyT_pure (i := 6) (v := ?_) rfl (by kernel_rfl) (by kernel_rfl) (by kernel_rfl) (by kernel_rfl) (fun _ _ _ h => hQ _ _ _ _ (by rfl) h) ⟨by rfl, ?_⟩ (fun _ => hr4) ?_
  rotate_left
  · intro wx; go_simp; all_goals with_reducible rfl
  simp only [Act.put, List.setIfInBounds_toArray, List.set_cons_succ, List.set_cons_zero]
  refine wpAnyT_pure (i := 7) (v := ?_) rfl (by kernel_rfl) (by kernel_rfl) (by kernel_rfl) (by kernel_rfl) (fun _ _ _ h => hQ _ _ _ _ (by rfl) h) ⟨by rfl, ?_⟩ (fun _ => hr4) ?_
  rotate_left
  · intro wx; go_simp; all_goals with_reducible rfl
  simp only [Act.put, List.setIfInBounds_toArray, List.set_cons_succ, List.set_cons_zero]
  refine wpAnyT_pure (i := 8) (v := ?_) rfl (by kernel_rfl) (by kernel_rfl) (by kernel_rfl) (by kernel_rfl) (fun _ _ _ h => hQ _ _ _ _ (by rfl) h) ⟨by rfl, ?_⟩ (fun _ => hr4) ?_
  rotate_left
  · intro wx; go_simp; all_goals with_reducible rfl
  simp only [Act.put, List.setIfInBounds_toArray, List.set_cons_succ, List.set_cons_zero]
  refine wpAnyT_read (i := 9) (v := ?_) rfl (by kernel_rfl) (by kernel_rfl) (by kernel_rfl) (by kernel_rfl) (by kernel_rfl) (by kernel_rfl) (fun _ _ _ h => hQ _ _ _ _ (by rfl) h) ⟨by rfl, ?_⟩ hr4 ?_
  rotate_left
  · intro wx hwx; go_simp; all_goals with_reducible rfl
  simp only [Act.put, List.setIfInBounds_toArray, List.set_cons_succ, List.set_cons_zero]
  refine wpAnyT_pure (i := 10) (v := ?_) rfl (by kernel_rfl) (by kernel_rfl) (by kernel_rfl) (by kernel_rfl) (fun _ _ _ h => hQ _ _ _ _ (by rfl) h) ⟨by rfl, ?_⟩ (fun _ => hr4) ?_
  rotate_left
  · intro wx; go_simp; all_goals with_reducible rfl
  simp only [Act.put, List.setIfInBounds_toArray, List.set_cons_succ, List.set_cons_zero]
  refine wpAnyT_pure (i := 11) (v := ?_) rfl (by kernel_rfl) (by kernel_rfl) (by kernel_rfl) (by kernel_rfl) (fun _ _ _ h => hQ _ _ _ _ (by rfl) h) ⟨by rfl, ?_⟩ (fun _ => hr4) ?_
  rotate_left
  · intro wx; go_simp; all_goals with_reducible rfl
  simp only [Act.put, List.setIfInBounds_toArray, List.set_cons_succ, List.set_cons_zero]
  refine wpAnyT_pure (i := 12) (v := ?_) rfl (by kernel_rfl) (by kernel_rfl) (by kernel_rfl) (by kernel_rfl) (fun _ _ _ h => hQ _ _ _ _ (by rfl) h) ⟨by rfl, ?_⟩ (fun _ => hr4) ?_
  rotate_left
  · intro wx; go_simp; all_goals with_reducible rfl
  simp only [Act.put, List.setIfInBounds_toArray, List.set_cons_succ, List.set_cons_zero]
  refine wpAnyT_pure (i := 13) (v := ?_) rfl (by kernel_rfl) (by kernel_rfl) (by kernel_rfl) (by kernel_rfl) (fun _ _ _ h => hQ _ _ _ _ (by rfl) h) ⟨by rfl, ?_⟩ (fun _ => hr4) ?_
  rotate_left
  · intro wx; go_simp; all_goals with_reducible rfl
  simp only [Act.put, List.setIfInBounds_toArray, List.set_cons_succ, List.set_cons_zero]
  refine wpAnyT_read (i := 14) (v := ?_) rfl (by kernel_rfl) (by kernel_rfl) (by kernel_rfl) (by kernel_rfl) (by kernel_rfl) (by kernel_rfl) (fun _ _ _ h => hQ _ _ _ _ (by rfl) h) ⟨by rfl, ?_⟩ hr4 ?_
  rotate_left
  · intro wx hwx; go_simp; all_goals with_reducible rfl
  simp only [Act.put, List.setIfInBounds_toArray, List.set_cons_succ, List.set_cons_zero]
  refine wpAnyT_pure (i := 15) (v := ?_) rfl (by kernel_rfl) (by kernel_rfl) (by kernel_rfl) (by kernel_rfl) (fun _ _ _ h => hQ _ _ _ _ (by rfl) h) ⟨by rfl, ?_⟩ (fun _ => hr4) ?_
  rotate_left
  · intro wx; go_simp; all_goals with_reducible rfl
  simp only [Act.put, List.setIfInBounds_toArray, List.set_cons_succ, List.set_cons_zero]
  refine wpAnyT_pure (i := 16) (v := ?_) rfl (by kernel_rfl) (by kernel_rfl) (by kernel_rfl) (by kernel_rfl) (fun _ _ _ h => hQ _ _ _ _ (by rfl) h) ⟨by rfl, ?_⟩ (fun _ => hr4) ?_
  rotate_left
  · intro wx; go_simp; all_goals with_reducible rfl
  simp only [Act.put, List.setIfInBounds_toArray, List.set_cons_succ, List.set_cons_zero]
  refine wpAnyT_pure (i := 17) (v := ?_) rfl (by kernel_rfl) (by kernel_rfl) (by kernel_rfl) (by kernel_rfl) (fun _ _ _ h => hQ _ _ _ _ (by rfl) h) ⟨by rfl, ?_⟩ (fun _ => hr4) ?_
  rotate_left
  · intro wx; go_simp; all_goals with_reducible rfl
  simp only [Act.put, List.setIfInBounds_toArray, List.set_cons_succ, List.set_cons_zero]
  refine wpAnyT_next (i := 18) (by kernel_rfl) rfl (fun K1 hK1 => ?_)
  go_simp
  refine hK1 _ _ (fun _ => hr5) ?_
  clear hK1 K1
  try simp only [Act.put, List.setIfInBounds_toArray, List.set_cons_succ, List.set_cons_zero]
  refine wpAnyT_next (i := 19) (by kernel_rfl) rfl (fun K1 hK1 => ?_)
  rw [if_pos (by rfl)]
  refine wpOper_append_grows rfl (.tmp 290) (.tmp 292) 29 rfl 9 i0 (.string ⟨#[]⟩) 1 16 Tryd.underlying29 hi0 hz0 hz1 hz2 rfl (by decide) R' m4 m4 (l'.map Value.string) rfl HHN.out (by rw [List.length_map, HML.out, Nat.mul_one]) (fun b hb => by subst hb; exact HS5.out.cells) ⟨W.heap.size, 0, none⟩ 1 1 [.string s] rfl rfl (fun j u hj => by match j, hj with | 0, hj => (cases hj; exact HT5.out) | j + 1, hj => simp at hj) (by intro u hu; simp at hu; subst hu; rfl) (by omega) HMX.out.1 HMX.out.2 ?_
  intro v' w6 hown hgr
  obtain ⟨A2, c2, rfl, hc2, hs2⟩ := sees_of_own hown
  have hb6 : Below (W.alloc (.cells #[.string s] 9)).drew.heap.size (W.alloc (.cells #[.string s] 9)).drew w6 := (Below.refl _ _).grown hgr (Nat.le_refl _) (fun k hk => by cases hk)
  have hr6 : w6.cell? ⟨rb, j, none⟩ = some (.slice R' m4 c4) := (cell_below hb6 HR5.out).trans HR5.out
  have hf6 : w6.frozen? ⟨rb, j, none⟩ = false := (HFZ.out w6 hb6)
  refine hK1 _ _ (fun _ => hr6) ?_
  clear hK1 K1
  try simp only [Act.put, List.setIfInBounds_toArray, List.set_cons_succ, List.set_cons_zero]
  refine wpAnyT_next (i := 20) (by kernel_rfl) rfl (fun K1 hK1 => ?_)
  go_simp
  refine hK1 _ _ (fun _ => hr6) ?_
  clear hK1 K1
  try simp only [Act.put, List.setIfInBounds_toArray, List.set_cons_succ, List.set_cons_zero]
  refine wpAnyT_next (i := 21) (by kernel_rfl) rfl (fun K1 hK1 => ?_)
  go_simp
  refine hK1 _ _ (fun h => by cases h) ?_
  clear hK1 K1
  try simp only [Act.put, List.setIfInBounds_toArray, List.set_cons_succ, List.set_cons_zero]
  refine wpAnyT_done (by kernel_rfl) ?_ _
  exact hK _ _ _ _ _ _ _ _ _ _ _ _ _ _ _ _ _ _ _ _ _ A2 c2 w6 (below_then2 HW5.out hb6) hc2 (by rw [List.map_append]; exact hs2)
end Go.Proofs.YtokaaniimakfjaaDoor
