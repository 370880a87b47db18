/- campaniletop.TopRoutes: the walk. -/
import Derived.Test.YtokaaniimakfjaaDoorAmC6
import Derived.Test.YtokaaniimakfjaaDoorAlN
import Derived.Deep.DeepCutAuto
import Derived.Deep.RegionLawGrows
set_option linter.unusedSimpArgs false
set_option linter.unusedVariables false
set_option linter.unusedSectionVars false
namespace Go.Proofs.YtokaaniimakfjaaDoor
open Go.RowKit

set_option maxHeartbeats 4000000 in
set_option maxRecDepth 100000 in
theorem lRoutes_any (w : World) (A0 A1 : Option Addr) (n0 c0 n1 c1 : Nat) (xs l : List Rte) (hx : xs.length = n0) (hl : l.length = n1) (hc0 : n0 ≤ c0) (hc1 : n1 ≤ c1) (h0 : RtesAt w A0 xs) (h1 : RtesAt w A1 l) :
    Calls Tryd.prog 3 #[.slice A0 n0 c0, .slice A1 n1 c1] w fun e w' => e = .returned (.bool true) ∧ Below w.heap.size w w' := by
  have HX := Lib.hid h0; have HL := Lib.hid h1
  clear h0 h1
  go_enter Tryd.func3, Tryd.ntmps3
  have hm0 : min (n0 : Int) 6 = ((min n0 6 : Nat) : Int) := by omega
  obtain ⟨m, hm⟩ : ∃ m, m = min n0 6 := ⟨_, rfl⟩
  rw [← hm] at hm0
  have hm6 : m ≤ 6 := by omega
  have hmn : m ≤ n0 := by omega
  have hmx : max (m : Int) 0 = (m : Int) := by omega
  have hmc : m ≤ c0 := by omega
  clear hm
  have hI : L1 w [] (.slice none 0 0) ((w.alloc (.cells #[.bool true, .bool true, .bool false] 4)).alloc (.cells #[.slice none 0 0, .slice (some ⟨w.heap.size, 0, none⟩) 3 3] 26)) :=
    ⟨Blk.new' (by simp), World.ownsRow_nil _ _ _ _, (Blk.new' rfl).alloc _, bAlloc (bAlloc (Below.refl _ _) _) _⟩
  have HI := Lib.hid hI
  clear hI
  go_wp2
  go_loopw [48] (fun s wr => ∃ k : Nat, k ≤ m ∧ s = .int .i64 (k : Nat) ∧ ∃ v, L1 w (buildP (xs.take k)) v wr) (fun s _ => m - (intOf s).toNat)
  case atStart => exact ⟨0, by omega, rfl, _, HI.out⟩
  case round =>
    clear HI
    obtain ⟨k, hk, rfl, v, hI⟩ := hrel
    by_cases hlt : k < m
    · have hkx : k < xs.length := by omega
      obtain ⟨a, hA, hwl, hal, e0, e1, e2⟩ := (HX.out.below hI.bel) k hkx
      subst hA
      have htk : xs.take (k + 1) = xs.take k ++ [xs[k]] := by rw [List.take_add_one, List.getElem?_eq_getElem hkx, Option.toList_some]
      have hbs := buildP_snoc (xs.take k) xs[k]
      rw [← htk] at hbs
      have hpl := buildP_len (xs.take k)
      have hpo := buildP_ok (xs.take k)
      rw [List.length_take] at hpl
      generalize xs[k] = x at hwl hal e0 e1 e2 hbs
      obtain ⟨xw, xa, xt⟩ := x
      simp only at hwl hal e0 e1 e2
      generalize buildP (xs.take k) = ps at *
      obtain ⟨A, c, rfl, hc, hP⟩ := hI.paths hpo
      have HI := Lib.hid hI
      have HP := Lib.hid hP
      have HBS := Lib.hid hbs
      have HPO := Lib.hid hpo
      have r0 := hI.box.cell 0
      have hpl6 : ps.length ≤ 6 := by omega
      have hkI : (k : Int) < m := by omega
      have hk0 : (0 : Int) ≤ k := by omega
      clear hI hP hbs htk hpo hkx hpl
      obtain ⟨np, hnp⟩ : ∃ np, np = ps.length := ⟨_, rfl⟩
      rw [← hnp] at r0 hc hpl6
      have HNP := Lib.hid hnp
      clear hnp
      have HI2 := Lib.hid (HI.out.step (bAlloc (bAlloc (Below.refl _ wr) (.cells #[.int .u8 xw, .int .u8 xa, .string xt] 28)) (.cells #[.int .i64 ((xa : Int) % 3), .int .i64 ((xa : Int) / 3 % 3), .int .i64 ((xw : Int) % 3), .slice none 0 0, .int .i64 (1 + (xw : Int) / 3 % 3), .bool (decide (127 < (xw : Int)))] 33)))
      have hb8 : Blk ((wr.alloc (.cells #[.int .u8 xw, .int .u8 xa, .string xt] 28)).alloc (.cells #[.int .i64 ((xa : Int) % 3), .int .i64 ((xa : Int) / 3 % 3), .int .i64 ((xw : Int) % 3), .slice none 0 0, .int .i64 (1 + (xw : Int) / 3 % 3), .bool (decide (127 < (xw : Int)))] 33)) (wr.heap.size + 1) 33 #[.int .i64 ((xa : Int) % 3), .int .i64 ((xa : Int) / 3 % 3), .int .i64 ((xw : Int) % 3), .slice none 0 0, .int .i64 (1 + (xw : Int) / 3 % 3), .bool (decide (127 < (xw : Int)))] := Blk.new' (by simp)
      have HB8 := Lib.hid hb8
      have q0 := HI2.out.box.cell 0
      rw [← HNP.out] at q0
      clear hb8
      go_upto_region 8 with fail
      obtain ⟨w1, rfl⟩ : ∃ w1, w1 = wr := ⟨_, rfl⟩
      go_loopw [9, 79] (fun s9 s79 W => ∃ j : Nat, j ≤ np ∧ s79 = .int .i64 (j : Nat) ∧ s9 = .bool ((ps.take j).any (samePth (pathOf ⟨xw, xa, xt⟩))) ∧ L1 w ps (.slice A ps.length c) W ∧ Blk W (w1.heap.size + 1) 33 #[.int .i64 ((xa : Int) % 3), .int .i64 ((xa : Int) / 3 % 3), .int .i64 ((xw : Int) % 3), .slice none 0 0, .int .i64 (1 + (xw : Int) / 3 % 3), .bool (decide (127 < (xw : Int)))]) (fun _ s _ => np - (intOf s).toNat)
      case atStart => exact ⟨0, by omega, rfl, by simp, HI2.out, HB8.out⟩
      case round =>
        clear HI2 HB8 q0 r0 HI HP
        obtain ⟨j, hj, rfl, rfl, hI3, hb8⟩ := hrel
        obtain ⟨A', c', hAc, hc', hP3⟩ := hI3.paths HPO.out
        cases hAc
        have x0 := hb8.cell 0
        have x1 := hb8.cell 1
        by_cases hjn : j < np
        · have hjp : j < ps.length := by rw [← HNP.out]; exact hjn
          obtain ⟨g1, o1, hA⟩ := hP3.isSome j hjp
          subst hA
          have y0 := hP3.cell j 0 hjp (by decide)
          have y1 := hP3.cell j 1 hjp (by decide)
          have y2 := hP3.cell j 2 hjp (by decide)
          have y3 := hP3.cell j 3 hjp (by decide)
          have y4 := hP3.cell j 4 hjp (by decide)
          have y5 := hP3.cell j 5 hjp (by decide)
          rw [Nat.add_zero] at y0
          have hjI : (j : Int) < np := by omega
          have hj0 : (0 : Int) ≤ j := by omega
          have hnx : (ps.take (j + 1)).any (samePth (pathOf ⟨xw, xa, xt⟩)) = ((ps.take j).any (samePth (pathOf ⟨xw, xa, xt⟩)) || samePth (pathOf ⟨xw, xa, xt⟩) ps[j]) := by
            rw [List.take_add_one, List.getElem?_eq_getElem hjp, Option.toList_some, List.any_append]; simp
          generalize ((List.replicate ps.length ((none : Option Addr), 0))[j]'(by rw [hP3.len]; exact hjp)) = iv at y0 y1 y2 y3 y4 y5
          generalize ps[j] = q at y0 y1 y2 y3 y4 y5 hnx
          obtain ⟨qf, qt, qs, qi, qc, qb⟩ := q
          simp only [pcells] at y0 y1 y2 y3 y4 y5
          have hsm : samePth (pathOf ⟨xw, xa, xt⟩) ⟨qf, qt, qs, qi, qc, qb⟩ = (qf == xa % 3 && qt == xa / 3 % 3) := rfl
          rw [hsm] at hnx
          have HNX := Lib.hid hnx
          have HI4 := Lib.hid (hI3.step (bAlloc (Below.refl _ wr) (.cells #[.int .i64 qf, .int .i64 qt, .int .i64 qs, .slice iv.1 qi.length iv.2, .int .i64 qc, .bool qb] 33)))
          have HB9 := Lib.hid (hb8.belowS (bAlloc (Below.refl _ wr) (.cells #[.int .i64 qf, .int .i64 qt, .int .i64 qs, .slice iv.1 qi.length iv.2, .int .i64 qc, .bool qb] 33)))
          have x0' := HB9.out.cell 0
          have x1' := HB9.out.cell 1
          clear hnx hsm hP3 hI3 hb8 e0 e1 e2
          generalize (ps.take j).any (samePth (pathOf ⟨xw, xa, xt⟩)) = b at *
          have hmea : np - (j + 1) < np - j := by omega
          cases b
          · by_cases hf : qf = xa % 3
            · have hfb : ((qf : Int) == (xa : Int) % 3) = true := by simp; omega
              have HF := Lib.hid hf
              clear hf
              by_cases ht : qt = xa / 3 % 3
              · have htb : ((qt : Int) == (xa : Int) / 3 % 3) = true := by simp; omega
                have HT := Lib.hid ht
                clear ht
                go_wp2
                go_roundw
                case rel => exact ⟨j + 1, by omega, by go_num, by rw [HNX.out]; simp [HF.out, HT.out], HI4.out, HB9.out⟩
                case measure => simp [intOf]; omega
              · have htb : ((qt : Int) == (xa : Int) / 3 % 3) = false := by simp; omega
                have HT := Lib.hid ht
                clear ht
                go_wp2
                go_roundw
                case rel => exact ⟨j + 1, by omega, by go_num, by rw [HNX.out]; simp [HF.out, HT.out], HI4.out, HB9.out⟩
                case measure => simp [intOf]; omega
            · have hfb : ((qf : Int) == (xa : Int) % 3) = false := by simp; omega
              go_wp2
              go_roundw
              case rel => exact ⟨j + 1, by omega, by go_num, by rw [HNX.out]; simp [hf], HI4.out, HB9.out⟩
              case measure => simp [intOf]; omega
          · go_wp2
            go_roundw
            case rel => exact ⟨j + 1, by omega, by go_num, by rw [HNX.out]; simp, HI4.out, HB9.out⟩
            case measure => simp [intOf]; omega
        · have hjn1 : j = np := by omega
          have htk : ps.take j = ps := List.take_of_length_le (by rw [← HNP.out]; omega)
          rw [htk]
          clear htk
          have HI3 := Lib.hid hI3
          have HI4 := Lib.hid (hI3.step (bAlloc (Below.refl _ wr) (.cells #[.int .i64 ((xa : Int) % 3), .int .i64 ((xa : Int) / 3 % 3), .int .i64 ((xw : Int) % 3), .slice none 0 0, .int .i64 (1 + (xw : Int) / 3 % 3), .bool (decide (127 < (xw : Int)))] 33)))
          have HPC : Hid (pcells (pathOf ⟨xw, xa, xt⟩) (none, 0) = [.int .i64 ((xa : Int) % 3), .int .i64 ((xa : Int) / 3 % 3), .int .i64 ((xw : Int) % 3), .slice none 0 0, .int .i64 (1 + (xw : Int) / 3 % 3), .bool (decide (127 < (xw : Int)))]) := by
            apply Lib.hid
            simp [pcells, pathOf]
            exact (by omega)
          have x2 := hb8.cell 2
          have x3 := hb8.cell 3
          have x4 := hb8.cell 4
          have x5 := hb8.cell 5
          have z0 := hI3.box.cell 0
          have z0' := HI4.out.box.cell 0
          rw [← HNP.out] at z0 z0'
          have HAD : Hid (addP ps ⟨xw, xa, xt⟩ = if ps.any (samePth (pathOf ⟨xw, xa, xt⟩)) then ps else ps ++ [pathOf ⟨xw, xa, xt⟩]) := Lib.hid rfl
          clear hI3 hb8 hP3
          generalize ps.any (samePth (pathOf ⟨xw, xa, xt⟩)) = b at *
          cases b
          · have HT : Blk (wr.alloc (.cells #[.int .i64 ((xa : Int) % 3), .int .i64 ((xa : Int) / 3 % 3), .int .i64 ((xw : Int) % 3), .slice none 0 0, .int .i64 (1 + (xw : Int) / 3 % 3), .bool (decide (127 < (xw : Int)))] 33)) wr.heap.size 33 #[.int .i64 ((xa : Int) % 3), .int .i64 ((xa : Int) / 3 % 3), .int .i64 ((xw : Int) % 3), .slice none 0 0, .int .i64 (1 + (xw : Int) / 3 % 3), .bool (decide (127 < (xw : Int)))] := Blk.new _ _ _
            have HTH := Lib.hid HT
            clear HT
            obtain ⟨i0, hi0, hz0, hz1, hz2⟩ := info_parts Tryd.infoPath
            go_wp2_with (at_builtin; refine wpList_append_own _ rfl (.tmp 102) (.tmp 104) 24 rfl w.heap.size 33 i0 (.agg #[.int .i64 0, .int .i64 0, .int .i64 0, .slice none 0 0, .int .i64 0, .bool false]) 6 64 Tryd.underlying24 hi0 hz0 hz1 hz2 rfl (by decide) _ ps.length (flatP ps (List.replicate ps.length (none, 0))) rfl (by rw [HNP.out]; exact HI4.out.own) ⟨wr.heap.size, 0, none⟩ 1 1 [.int .i64 ((xa : Int) % 3), .int .i64 ((xa : Int) / 3 % 3), .int .i64 ((xw : Int) % 3), .slice none 0 0, .int .i64 (1 + (xw : Int) / 3 % 3), .bool (decide (127 < (xw : Int)))] rfl ?c1 ?c2 ?c3 ?c4 ?c5 ?c6 ?_)
            case c1 => rfl
            case c2 => intro j u hj; rw [show (⟨wr.heap.size, 0, none⟩ : Addr).add j = ⟨wr.heap.size, j, none⟩ by unfold Addr.add; split <;> simp_all]; rw [HTH.out.cell j]; simpa using hj
            case c3 => intro u hu; simp at hu; rcases hu with h | h | h | h | h | h <;> (subst h; rfl)
            case c4 => have := HNP.out; unfold maxLen; omega
            case c5 => have := HNP.out; omega
            case c6 => have := HI4.out.bel.size; simpa using this
            intro v' w' hown' hgr _
            obtain ⟨A2, c2, rfl, _, _⟩ := sees_of_own hown'
            have hgr' : (wr.alloc (.cells #[.int .i64 ((xa : Int) % 3), .int .i64 ((xa : Int) / 3 % 3), .int .i64 ((xw : Int) % 3), .slice none 0 0, .int .i64 (1 + (xw : Int) / 3 % 3), .bool (decide (127 < (xw : Int)))] 33)).grownBy w' (Value.slice A ps.length c).ownBlock := by rw [← HNP.out]; exact hgr
            have HG := Lib.hid hgr'
            have HO := Lib.hid hown'
            obtain ⟨hg1, _, _⟩ := HI4.out.grow hgr'
            have f0 := hg1.frozen 0
            have q1 := hg1.cell 0
            clear hgr hown' hgr' hg1
            go_wp2
            go_roundw
            case rel =>
              refine ⟨k + 1, by omega, by go_num, .slice A2 (ps.length + 1) c2, ?_⟩
              rw [HBS.out, HAD.out]
              exact HI4.out.add _ HG.out (by rw [HPC.out]; exact HO.out)
            case measure => simp [intOf]; omega
          · go_wp2
            go_roundw
            case rel =>
              refine ⟨k + 1, by omega, by go_num, .slice A ps.length c, ?_⟩
              rw [HBS.out, HAD.out]
              exact HI3.out
            case measure => simp [intOf]; omega
    · obtain rfl : k = m := by omega
      have hpo := buildP_ok (xs.take k)
      have hpl := buildP_len (xs.take k)
      rw [List.length_take] at hpl
      have hp6 : (buildP (xs.take k)).length ≤ 6 := by omega
      clear hpl HX
      generalize buildP (xs.take k) = ps at hpo hp6 hI
      have hok := psOk_of hpo hp6
      obtain ⟨A, c, rfl, hc, hP⟩ := hI.paths hpo
      have hrm := hI.rm hpo
      have r0 := hI.box.cell 0
      clear hI hP hpo
      obtain ⟨np, hnp⟩ : ∃ np, np = ps.length := ⟨_, rfl⟩
      have hmk := run_make_row' (P := Tryd.prog) 34 29 (.slice none 0 0) 24 Tryd.underlying34 Tryd.infoStrs rfl .i64 .i64 np (by omega) (by omega)
      rw [← hnp] at r0 hc hp6 hrm
      have HM0 := Lib.hid hrm
      have HOK := Lib.hid hok
      have HNP := Lib.hid hnp
      have hp6' : np ≤ 6 := by omega
      clear hrm hnp hok hp6
      have hm1 : min (n1 : Int) 40 = ((min n1 40 : Nat) : Int) := by omega
      obtain ⟨m2, hm2⟩ : ∃ m2, m2 = min n1 40 := ⟨_, rfl⟩
      rw [← hm2] at hm1
      have hm240 : m2 ≤ 40 := by omega
      have hm2n : m2 ≤ n1 := by omega
      have hmx2 : max (m2 : Int) 0 = (m2 : Int) := by omega
      have hmc2 : m2 ≤ c1 := by omega
      clear hm2 hm0 hm6 hmn hmx hmc hlt
      go_wp2
      clear hmk r0
      refine lr_loop w wr.heap.size (wr.heap.size + 1) np m2 n1 c1 A1 l hl HL hm2n hm240 hmc2 hp6' _ ⟨A, c, _, 3, ps, _, HM0.out, HOK.out, HNP.out.symm, rfl, hc⟩ (fun _ _ _ _ he h => ⟨he.symm.trans h.1, h.2⟩) ?_
      clear HM0
      intro y4 y15 y16 y17 y18 y19 y20 y21 y22 y23 y24 y25 y26 y27 y28 y29 y30 y31 y32 y33 y34 y35 y36 y37 y38 y39 y120 y121 y122 y123 y124 y125 y126 y127 y128 y129 y130 y131 y132 y133 y134 y135 y136 y137 y138 y139 y140 y141 y142 y143 y144 y145 y146 y147 y148 y149 y150 y151 y152 y153 y154 y155 y156 y157 y158 y159 y160 y161 y162 y163 y164 y165 y166 y167 y168 y169 y170 y171 y172 y173 y174 y175 y176 y177 y178 y179 y180 y181 y182 y183 y184 y185 y186 y187 y188 y189 y190 y191 y192 y193 y194 y195 y196 y197 y198 y199 y200 y201 y202 y203 y204 y205 y206 y207 y208 y209 y210 y211 y212 y213 y214 y215 y216 y217 y218 y219 y220 y221 y222 y223 y224 y225 y226 y227 y228 y229 y230 y231 y232 y233 y234 y235 y236 y237 y238 y239 y240 y241 y242 y243 y244 y245 y246 y247 y248 y249 y250 y251 y252 y253 y254 y255 y256 y257 y258 y259 y260 y261 y262 y263 y264 y265 y266 y267 y268 y269 y270 y271 y272 y273 y274 y275 y276 y277 y278 y279 y280 y281 y282 y283 y284 y285 y286 y287 y288 y289 y290 y291 y292 y293 y294 y295 y296 y297 y298 y299 y300 y301 y302 y303 y304 y305 y306 y307 y308 y309 y310 y311 y312 y313 y314 y315 y316 y317 y318 y319 y320 y321 y322 y323 y324 y325 y326 y327 y328 y329 y330 y331 y332 y333 y334 y335 y336 y337 y338 y339 y340 y341 y342 y343 y344 y345 y346 y347 y348 y349 y350 y351 y352 y353 y354 y355 y356 y357 y358 y359 y360 y361 y362 y363 y364 y365 y366 y367 y368 y369 y370 y371 y372 y373 y374 y375 y376 y377 y378 y379 y380 y381 y382 y383
      intro W hR kk
      obtain ⟨A2, c2, B, cb, ps2, on, hM, _⟩ := hR
      have HB := Lib.hid hM.bel
      clear hM
      simp only [Exit.inBlock, Exit.then]
      go_wp2_with fail
      refine (alive_any _).mono ?_
      rintro e w3 ⟨rfl, hb3⟩
      have HB3 := Lib.hid (below_thenB HB.out HB.out.size hb3)
      clear hb3
      go_wp2
      go_ret
      exact ⟨rfl, HB3.out⟩
end Go.Proofs.YtokaaniimakfjaaDoor
