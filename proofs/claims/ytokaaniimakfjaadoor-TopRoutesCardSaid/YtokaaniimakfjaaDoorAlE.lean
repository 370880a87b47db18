/- stuff: a step, and what may be; bits.Number; frame.Size. -/
import Derived.Test.YtokaaniimakfjaaDoorAlD
set_option linter.unusedSimpArgs false
set_option linter.unusedVariables false
set_option linter.unusedSectionVars false
namespace Go.Proofs.YtokaaniimakfjaaDoor
open Go.RowKit

set_option maxHeartbeats 400000 in
theorem sOther_any (b : Bool) (w : World) : Calls Tryd.prog 47 #[.int .u8 (bitN b)] w fun e w' => e = .returned (.int .u8 (bitN !b)) ∧ w = w' := by
  have h : bits BinOp.xor IntKind.u8 (bits BinOp.xor IntKind.u8 (bitN b) 48) 49 = bitN !b := by cases b <;> decide
  have H := Lib.hid h; clear h
  generalize bitN b = c at *
  go_enter Tryd.func47, Tryd.ntmps47
  go_wp2
  go_ret
  exact ⟨ret_int H.out, rfl⟩

set_option maxHeartbeats 400000 in
theorem sBit_any (b : Bool) (w : World) : Calls Tryd.prog 64 #[.int .u8 (bitN b)] w fun e w' => e = .returned (.bool true) ∧ w = w' := by
  cases b
  all_goals
    unfold bitN
    go_enter Tryd.func64, Tryd.ntmps64
    go_wp2
    go_ret
    exact ⟨rfl, rfl⟩

section
variable (g : Nat) (l n c : Int) (w : World) (h0 : w.cell? ⟨g, 0, none⟩ = some (.int .u8 l)) (h1 : w.cell? ⟨g, 1, none⟩ = some (.int .i64 n)) (f0 : w.frozen? ⟨g, 0, none⟩ = false) (f1 : w.frozen? ⟨g, 1, none⟩ = false) (hn : 0 ≤ n ∧ n ≤ 5)
include h0 h1
set_option maxHeartbeats 400000 in
theorem sstep_err (hn5 : n = 5) (hc : (c == l) = true) : Calls Tryd.prog 46 #[.pointer (some ⟨g, 0, none⟩), .int .u8 c] w fun e w' => e = .returned (.int .i64 3) ∧ w' = w := by
  subst hn5
  go_enter Tryd.func46, Tryd.ntmps46
  go_wp2
  go_ret
  exact ⟨rfl, rfl⟩
include f0 f1 in
set_option maxHeartbeats 400000 in
theorem sstep_stuff (hn5 : n = 5) (hc : (c == l) = false) : Calls Tryd.prog 46 #[.pointer (some ⟨g, 0, none⟩), .int .u8 c] w fun e w' => e = .returned (.int .i64 2) ∧ w' = (w.setCell ⟨g, 0, none⟩ (.int .u8 c)).setCell ⟨g, 1, none⟩ (.int .i64 1) := by
  subst hn5
  go_enter Tryd.func46, Tryd.ntmps46
  go_wp2
  go_ret
  exact ⟨rfl, rfl⟩
include f1 hn in
set_option maxHeartbeats 400000 in
theorem sstep_same (hn5 : (n == 5) = false) (hc : (c == l) = true) : Calls Tryd.prog 46 #[.pointer (some ⟨g, 0, none⟩), .int .u8 c] w fun e w' => e = .returned (.int .i64 1) ∧ w' = w.setCell ⟨g, 1, none⟩ (.int .i64 (n + 1)) := by
  obtain ⟨hn0, hn1⟩ := hn
  go_enter Tryd.func46, Tryd.ntmps46
  go_wp2
  go_ret
  exact ⟨rfl, rfl⟩
include f0 f1 in
set_option maxHeartbeats 400000 in
theorem sstep_other (hn5 : (n == 5) = false) (hc : (c == l) = false) : Calls Tryd.prog 46 #[.pointer (some ⟨g, 0, none⟩), .int .u8 c] w fun e w' => e = .returned (.int .i64 1) ∧ w' = (w.setCell ⟨g, 0, none⟩ (.int .u8 c)).setCell ⟨g, 1, none⟩ (.int .i64 1) := by
  go_enter Tryd.func46, Tryd.ntmps46
  go_wp2
  go_ret
  exact ⟨rfl, rfl⟩
end

theorem sstep_any (s : St) (c : Bool) (g : Nat) (w : World) (hs : StOk s) (hg : Blk w g 104 (stVals s)) :
    Calls Tryd.prog 46 #[.pointer (some ⟨g, 0, none⟩), .int .u8 (bitN c)] w fun e w' => e = .returned (.int .i64 (stStep s c).2) ∧ Blk w' g 104 (stVals (stStep s c).1) ∧ w.grownBy w' (some g) := by
  have G := World.grownBy.refl w (some g)
  have G1 : ∀ i u, w.grownBy (w.setCell ⟨g, i, none⟩ u) (some g) := fun i u => only_setCell G (.inl rfl) u
  have G2 : ∀ i u j v, w.grownBy ((w.setCell ⟨g, i, none⟩ u).setCell ⟨g, j, none⟩ v) (some g) := fun i u j v => only_setCell (G1 i u) (.inl rfl) v
  cases s with
  | none =>
    refine (sstep_other g 0 0 (bitN c) w (hg.cell 0) (hg.cell 1) (hg.frozen 0) (hg.frozen 1) rfl (by cases c <;> rfl)).mono ?_
    rintro e w' ⟨rfl, rfl⟩
    exact ⟨rfl, (hg.set_ 0 _).set_ 1 _, G2 _ _ _ _⟩
  | some p =>
    obtain ⟨b, n⟩ := p
    obtain ⟨hn1, hn5⟩ := hs
    by_cases h5 : n = 5 <;> by_cases hc : c = b
    · have e : stStep (some (b, n)) c = (some (b, n), 3) := by simp [stStep, h5, hc]
      rw [e]
      refine (sstep_err g (bitN b) n (bitN c) w (hg.cell 0) (hg.cell 1) (by omega) (by subst hc; cases c <;> rfl)).mono ?_
      rintro e w' ⟨rfl, rfl⟩
      exact ⟨rfl, hg, G⟩
    · have e : stStep (some (b, n)) c = (some (c, 1), 2) := by simp [stStep, h5, hc]
      rw [e]
      refine (sstep_stuff g (bitN b) n (bitN c) w (hg.cell 0) (hg.cell 1) (hg.frozen 0) (hg.frozen 1) (by omega) (by cases b <;> cases c <;> simp_all [bitN])).mono ?_
      rintro e w' ⟨rfl, rfl⟩
      exact ⟨rfl, (hg.set_ 0 _).set_ 1 _, G2 _ _ _ _⟩
    · have e : stStep (some (b, n)) c = (some (b, n + 1), 1) := by simp [stStep, h5, hc]
      rw [e]
      refine (sstep_same g (bitN b) n (bitN c) w (hg.cell 0) (hg.cell 1) (hg.frozen 1) (by omega) (beq_eq_false_iff_ne.2 (by omega)) (by subst hc; cases c <;> rfl)).mono ?_
      rintro e w' ⟨rfl, rfl⟩
      exact ⟨rfl, hg.set_ 1 _, G1 _ _⟩
    · have e : stStep (some (b, n)) c = (some (c, 1), 1) := by simp [stStep, h5, hc]
      rw [e]
      refine (sstep_other g (bitN b) n (bitN c) w (hg.cell 0) (hg.cell 1) (hg.frozen 0) (hg.frozen 1) (beq_eq_false_iff_ne.2 (by omega)) (by cases b <;> cases c <;> simp_all [bitN])).mono ?_
      rintro e w' ⟨rfl, rfl⟩
      exact ⟨rfl, (hg.set_ 0 _).set_ 1 _, G2 _ _ _ _⟩

set_option maxHeartbeats 400000 in
theorem sRight_any (s : St) (w : World) (hs : StOk s) : Calls Tryd.prog 63 #[.agg (stVals s)] w fun e w' => e = .returned (.bool true) ∧ w.alloc (.cells (stVals s) 102) = w' := by
  cases s with
  | none =>
    simp only [stVals, stLast, stN]
    go_enter Tryd.func63, Tryd.ntmps63
    go_wp2
    go_ret
    exact ⟨rfl, rfl⟩
  | some p =>
    obtain ⟨b, n⟩ := p
    obtain ⟨hn1, hn5⟩ := hs
    simp only [stVals, stLast, stN]
    have h0 : (bitN b == 0) = false := by cases b <;> rfl
    have hn : decide ((n : Int) ≤ 5) = true := by simp; omega
    have hb := fun w => sBit_any b w
    have Hb := Lib.hid hb; clear hb
    generalize bitN b = c at *
    go_enter Tryd.func63, Tryd.ntmps63
    go_wp2_with (go_at_call 64; refine (Hb.out _).mono ?_; rintro e w1 ⟨rfl, rfl⟩)
    go_ret
    exact ⟨rfl, rfl⟩

set_option maxHeartbeats 400000 in
theorem sStep_any (s : St) (c : Bool) (w : World) (hs : StOk s) : Calls Tryd.prog 50 #[.agg (stVals s), .int .u8 (bitN c)] w fun e w' => e = .returned (.tuple #[.agg (stVals (stStep s c).1), .int .i64 (stStep s c).2, .int .i64 0]) ∧ Below w.heap.size w w' := by
  have hR := fun w => sRight_any s w hs
  have hB := fun w => sBit_any c w
  have hS := fun g w => sstep_any s c g w hs
  generalize (stStep s c).1 = s' at *
  generalize (stStep s c).2 = k at *
  simp only [stVals] at hR hS ⊢
  generalize stLast s = x0 at *
  generalize stN s = x1 at *
  generalize stLast s' = y0 at *
  generalize stN s' = y1 at *
  have HR := Lib.hid hR; have HB := Lib.hid hB; have HS := Lib.hid hS
  clear hR hB hS
  go_enter Tryd.func50, Tryd.ntmps50
  go_wp2_with (first
    | (go_at_call 63; refine (HR.out _).mono ?_; rintro e w1 ⟨rfl, rfl⟩)
    | (go_at_call 64; refine (HB.out _).mono ?_; rintro e w2 ⟨rfl, rfl⟩)
    | (go_at_call 46; refine (HS.out _ _ (Blk.new' (by simp))).mono ?_; rintro e w3 ⟨rfl, hb3, hg3⟩; have b0 := hb3.cell 0; have b1 := hb3.cell 1; have hr := Blk.grown (((Blk.new' (by simp)).alloc _).alloc _) hg3 (show some (w.heap.size + 1) ≠ _ by simp); have r0 := hr.cell 0; have r1 := hr.cell 1; have q0 := hr.frozen 0; have q1 := hr.frozen 1))
  have hr2 := (hr.set_ 0 (.int .u8 y0)).set_ 1 (.int .i64 (y1 : Int))
  have hB := ((bOnly (bAlloc (bAlloc (bAlloc (bAlloc (Below.refl _ _) _) _) _) _) hg3 (by omega)).setCell (p := ⟨w.heap.size + 1, 0, none⟩) (by simp) (.int .u8 y0)).setCell (p := ⟨w.heap.size + 1, 1, none⟩) (by simp) (.int .i64 (y1 : Int))
  generalize (w3.setCell _ _).setCell _ _ = w4 at hr2 hB ⊢
  have c0 := hr2.cell 0
  have c1 := hr2.cell 1
  exact bodyPost_ret (v := .tuple #[.agg #[.int .u8 y0, .int .i64 y1], .int .i64 k, .int .i64 0]) (by simp [results, Tryd.results50, go_sem, c0, c1]) rfl ⟨rfl, hB⟩
end Go.Proofs.YtokaaniimakfjaaDoor
