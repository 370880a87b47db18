/- frame.Size; what frame.Read's closure reads. -/
import Derived.Test.YtokaaniimakfjaaDoorAlI
import Derived.Test.YtokaaniimakfjaaDoorPlB
set_option linter.unusedSimpArgs false
set_option linter.unusedVariables false
set_option linter.unusedSectionVars false
namespace Go.Proofs.YtokaaniimakfjaaDoor
open Go.RowKit

set_option maxHeartbeats 1000000 in
theorem fSize_any (l : List Bool) (w : World) (hl : l.length ≤ 4000) :
    Calls Tryd.prog 52 #[.string (bstr l)] w fun e w' => e = .returned (.tuple #[.int .i64 (sizeF l).1, .int .i64 (sizeF l).2]) ∧ Below w.heap.size w w' := by
  have hR := fun w => bRight_any l w hl
  have hsz : (bstr l).size = l.length := size_bstr l
  have hby := fun i h => bstr_at l i h
  have hex := fun i n => bstr_extract l i n
  have hfin : sizeF l = if l.length < 14 then (0, 3) else if l.length < (if bitAt l 13 then 39 else 19) then (0, 3) else if 8 < numOf (cut l ((if bitAt l 13 then 39 else 19) - 4) 4) then (0, 12) else if bitAt l (if bitAt l 13 then 32 else 12) then ((if bitAt l 13 then 39 else 19), 0) else ((if bitAt l 13 then 39 else 19) + 8 * numOf (cut l ((if bitAt l 13 then 39 else 19) - 4) 4), 0) := rfl
  have hN := fun i w (h : i + 4 ≤ l.length) => bNumber_any (cut l i 4) w (by rw [length_cut l i 4 h]; omega)
  have HR := Lib.hid hR; have HBY := Lib.hid hby; have HEX := Lib.hid hex; have HN := Lib.hid hN
  clear hR hby hex hN
  obtain ⟨t, ht⟩ : ∃ t, t = bstr l := ⟨_, rfl⟩
  rw [← ht] at hsz HR HBY HEX ⊢
  clear ht
  have hts : t.size ≤ 4000 := by omega
  have HSZ := Lib.hid hsz
  by_cases h14 : l.length < 14
  · rw [if_pos h14] at hfin
    rw [hfin]
    have h14' : t.size < 14 := by omega
    clear hfin hsz h14
    go_enter Tryd.func52, Tryd.ntmps52
    go_wp2_with (go_at_call 32; refine (HR.out _).mono ?_; rintro e w1 ⟨rfl, hb1⟩)
    go_ret2
    exact ⟨rfl, hb1⟩
  · rw [if_neg h14] at hfin
    have h13 : 13 < t.size := by omega
    have hb13 := HBY.out 13 h13
    cases h13b : bitAt l 13
    · rw [h13b] at hfin hb13
      simp only [Bool.false_eq_true, if_false, if_true] at hfin
      simp only [bitN, Bool.false_eq_true, if_false, if_true] at hb13
      have h14' : 14 ≤ t.size := by omega
      by_cases hF : l.length < 19
      · rw [if_pos hF] at hfin
        rw [hfin]
        have hF' : t.size < 19 := by omega
        clear hfin hsz h14
        go_enter Tryd.func52, Tryd.ntmps52
        go_wp2_with (go_at_call 32; refine (HR.out _).mono ?_; rintro e w1 ⟨rfl, hb1⟩)
        go_ret2
        exact ⟨rfl, hb1⟩
      · rw [if_neg hF] at hfin
        have hF' : 19 ≤ t.size := by omega
        have hE := HEX.out 15 4
        have HN' := Lib.hid (fun w => HN.out 15 w (by omega))
        have hA : 12 < t.size := by omega
        have hbA := HBY.out 12 hA
        have hlt := numOf_lt (cut l 15 4)
        rw [length_cut l 15 4 (by omega)] at hlt
        obtain ⟨n, hn⟩ : ∃ n, n = numOf (cut l 15 4) := ⟨_, rfl⟩
        simp only [Nat.reduceSub, Nat.reduceAdd, Nat.reducePow] at hfin hE hlt
        rw [← hn] at hfin HN' hlt
        have HE := Lib.hid hE
        have Hl := Lib.hid hl
        clear hn hsz hE hl h14 hF
        by_cases h8 : 8 < n
        · rw [if_pos h8] at hfin
          rw [hfin]
          clear hfin hbA
          go_enter Tryd.func52, Tryd.ntmps52
          go_wp2_with (first
            | (go_at_call 32; refine (HR.out _).mono ?_; rintro e w1 ⟨rfl, hb1⟩)
            | (go_at_call 54; rw [HE.out]; refine (HN'.out _).mono ?_; rintro e w2 ⟨rfl, hb2⟩))
          go_ret2
          exact ⟨rfl, below_then2 hb1 hb2⟩
        · rw [if_neg h8] at hfin
          cases hAb : bitAt l 12
          · rw [hAb] at hfin hbA
            simp only [Bool.false_eq_true, if_false, if_true] at hfin
            simp only [bitN, Bool.false_eq_true, if_false, if_true] at hbA
            rw [hfin]
            clear hfin
            go_enter Tryd.func52, Tryd.ntmps52
            go_wp2_with (first
              | (go_at_call 32; refine (HR.out _).mono ?_; rintro e w1 ⟨rfl, hb1⟩)
              | (go_at_call 54; rw [HE.out]; refine (HN'.out _).mono ?_; rintro e w2 ⟨rfl, hb2⟩))
            go_ret2
            exact ⟨by first | rfl | (simp; done) | (simp; omega), below_then2 hb1 hb2⟩
          · rw [hAb] at hfin hbA
            simp only [Bool.false_eq_true, if_false, if_true] at hfin
            simp only [bitN, Bool.false_eq_true, if_false, if_true] at hbA
            rw [hfin]
            clear hfin
            go_enter Tryd.func52, Tryd.ntmps52
            go_wp2_with (first
              | (go_at_call 32; refine (HR.out _).mono ?_; rintro e w1 ⟨rfl, hb1⟩)
              | (go_at_call 54; rw [HE.out]; refine (HN'.out _).mono ?_; rintro e w2 ⟨rfl, hb2⟩))
            go_ret2
            exact ⟨rfl, below_then2 hb1 hb2⟩
    · rw [h13b] at hfin hb13
      simp only [Bool.false_eq_true, if_false, if_true] at hfin
      simp only [bitN, Bool.false_eq_true, if_false, if_true] at hb13
      have h14' : 14 ≤ t.size := by omega
      by_cases hF : l.length < 39
      · rw [if_pos hF] at hfin
        rw [hfin]
        have hF' : t.size < 39 := by omega
        clear hfin hsz h14
        go_enter Tryd.func52, Tryd.ntmps52
        go_wp2_with (go_at_call 32; refine (HR.out _).mono ?_; rintro e w1 ⟨rfl, hb1⟩)
        go_ret2
        exact ⟨rfl, hb1⟩
      · rw [if_neg hF] at hfin
        have hF' : 39 ≤ t.size := by omega
        have hE := HEX.out 35 4
        have HN' := Lib.hid (fun w => HN.out 35 w (by omega))
        have hA : 32 < t.size := by omega
        have hbA := HBY.out 32 hA
        have hlt := numOf_lt (cut l 35 4)
        rw [length_cut l 35 4 (by omega)] at hlt
        obtain ⟨n, hn⟩ : ∃ n, n = numOf (cut l 35 4) := ⟨_, rfl⟩
        simp only [Nat.reduceSub, Nat.reduceAdd, Nat.reducePow] at hfin hE hlt
        rw [← hn] at hfin HN' hlt
        have HE := Lib.hid hE
        have Hl := Lib.hid hl
        clear hn hsz hE hl h14 hF
        by_cases h8 : 8 < n
        · rw [if_pos h8] at hfin
          rw [hfin]
          clear hfin hbA
          go_enter Tryd.func52, Tryd.ntmps52
          go_wp2_with (first
            | (go_at_call 32; refine (HR.out _).mono ?_; rintro e w1 ⟨rfl, hb1⟩)
            | (go_at_call 54; rw [HE.out]; refine (HN'.out _).mono ?_; rintro e w2 ⟨rfl, hb2⟩))
          go_ret2
          exact ⟨rfl, below_then2 hb1 hb2⟩
        · rw [if_neg h8] at hfin
          cases hAb : bitAt l 32
          · rw [hAb] at hfin hbA
            simp only [Bool.false_eq_true, if_false, if_true] at hfin
            simp only [bitN, Bool.false_eq_true, if_false, if_true] at hbA
            rw [hfin]
            clear hfin
            go_enter Tryd.func52, Tryd.ntmps52
            go_wp2_with (first
              | (go_at_call 32; refine (HR.out _).mono ?_; rintro e w1 ⟨rfl, hb1⟩)
              | (go_at_call 54; rw [HE.out]; refine (HN'.out _).mono ?_; rintro e w2 ⟨rfl, hb2⟩))
            go_ret2
            exact ⟨by first | rfl | (simp; done) | (simp; omega), below_then2 hb1 hb2⟩
          · rw [hAb] at hfin hbA
            simp only [Bool.false_eq_true, if_false, if_true] at hfin
            simp only [bitN, Bool.false_eq_true, if_false, if_true] at hbA
            rw [hfin]
            clear hfin
            go_enter Tryd.func52, Tryd.ntmps52
            go_wp2_with (first
              | (go_at_call 32; refine (HR.out _).mono ?_; rintro e w1 ⟨rfl, hb1⟩)
              | (go_at_call 54; rw [HE.out]; refine (HN'.out _).mono ?_; rintro e w2 ⟨rfl, hb2⟩))
            go_ret2
            exact ⟨rfl, below_then2 hb1 hb2⟩

end Go.Proofs.YtokaaniimakfjaaDoor
