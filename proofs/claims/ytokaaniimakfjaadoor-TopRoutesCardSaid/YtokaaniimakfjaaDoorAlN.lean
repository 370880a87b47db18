/- campaniletop.alive. -/
import Derived.Test.YtokaaniimakfjaaDoorAlM
set_option linter.unusedSimpArgs false
set_option linter.unusedVariables false
namespace Go.Proofs.YtokaaniimakfjaaDoor
open Go.RowKit

def f5 : Fr := ⟨5, false, false, 0, ⟨#[]⟩⟩
def n5 : Nat := (stuffedF (frBits f5)).2.1
def T5 : List Bool := (stuffedF (frBits f5)).1
def H5 : List Bool := cut T5 0 (T5.length - 15)

theorem f5_right : frRight f5 = true := by decide +kernel
theorem f5_len : (frBits f5).length ≤ 4000 := by decide +kernel
theorem f5_st : (stuffedF (frBits f5)).2.2 = 0 := by decide +kernel
theorem f5_tl : T5.length ≤ 4000 := by decide +kernel
theorem f5_n : n5 + 10 = (frBits f5).length := by decide +kernel
theorem f5_cut : cut (frBits f5) n5 10 = frTail := by decide +kernel
theorem f5_good : crcGood T5 = true := by decide +kernel
theorem f5_t15 : 15 ≤ T5.length := by decide +kernel
theorem f5_size : sizeF H5 = (H5.length, 0) := by decide +kernel
theorem f5_rr : frRight (readF H5) = true := by decide +kernel
theorem f5_hh : headBits (readF H5) = H5 := by decide +kernel
theorem f5_vals : frVals f5 = #[.int .u32 5, .bool false, .bool false, .int .i64 0, .string ⟨#[]⟩] := rfl
theorem f5_id : (readF H5).id = 5 := by decide +kernel

set_option maxHeartbeats 1000000 in
set_option maxRecDepth 100000 in
theorem alive_any (w : World) : Calls Tryd.prog 8 #[] w fun e w' => e = .returned (.bool true) ∧ Below w.heap.size w w' := by
  have hB := fun w => fBits_any f5 w f5_right
  rw [f5_vals] at hB
  have hP := fun w => fParse_any (frBits f5) T5 H5 n5 w f5_len (by rw [← f5_st]; rfl) f5_tl f5_n f5_cut f5_good rfl f5_t15 f5_size f5_rr f5_hh
  have hV : ∃ b c d e, frVals (readF H5) = #[.int .u32 5, .bool b, .bool c, .int .i64 d, .string e] := ⟨(readF H5).ext, (readF H5).remote, (readF H5).dlc, (readF H5).data, by unfold frVals; rw [f5_id]; rfl⟩
  obtain ⟨v1, v2, v3, v4, hV⟩ := hV
  rw [hV, f5_n] at hP
  clear hV
  have hz := size_bstr (frBits f5)
  generalize bstr (frBits f5) = s at *
  rw [← hz] at hP
  clear hz
  have HB := Lib.hid hB; have HP := Lib.hid hP
  clear hB hP
  go_enter Tryd.func8, Tryd.ntmps8
  go_wp2_with (first
    | (go_at_call 19; refine (HB.out _).mono ?_; rintro e w1 ⟨rfl, hb1⟩; have HB1 := Lib.hid hb1; clear hb1)
    | (go_at_call 20; refine (HP.out _).mono ?_; rintro e w2 ⟨rfl, hb2⟩; have HB2 := Lib.hid (bAlloc (below_then2 HB1.out hb2) (.cells #[.int .u32 5, .bool v1, .bool v2, .int .i64 v3, .string v4] 61)); clear hb2))
  go_ret
  exact ⟨rfl, HB2.out⟩
end Go.Proofs.YtokaaniimakfjaaDoor
