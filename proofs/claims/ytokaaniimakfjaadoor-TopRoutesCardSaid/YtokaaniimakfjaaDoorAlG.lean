/- bits.Number; frame.Right; the writer's words; frame.head; frame.Bits. -/
import Derived.Test.YtokaaniimakfjaaDoorAlF
import Derived.Test.YtokaaniimakfjaaDoorAlB
set_option linter.unusedSimpArgs false
set_option linter.unusedVariables false
set_option linter.unusedSectionVars false
namespace Go.Proofs.YtokaaniimakfjaaDoor
open Go.RowKit

theorem numStep (n : Nat) (b : Bool) (h : n < 9223372036854775808) : bits BinOp.or IntKind.u64 ((n : Int) * 2) ((bitN b - 48) % 256) = ((n * 2 + b.toNat : Nat) : Int) := by
  have e1 : ((n : Int) * 2) = ((n * 2 : Nat) : Int) := by omega
  have e2 : (bitN b - 48) % 256 = ((b.toNat : Nat) : Int) := by cases b <;> rfl
  have hb : b.toNat < 2 := by cases b <;> decide
  rw [e1, e2, u64_or_nat _ _ (by omega) (by omega), nat_join 1 _ _ (by omega) (by omega)]

set_option maxHeartbeats 400000 in
theorem bNumber_any (l : List Bool) (w : World) (hl : l.length ≤ 64) :
    Calls Tryd.prog 54 #[.string (bstr l)] w fun e w' => e = .returned (.tuple #[.int .u64 (numOf l : Nat), .int .i64 0]) ∧ Below w.heap.size w w' := by
  have hR := fun w => bRight_any l w (by omega)
  have HR := Lib.hid hR; clear hR
  have hsz : (bstr l).size = l.length := size_bstr l
  have hby := fun k h h' => bstr_get l k h h'
  generalize ht : bstr l = t at *
  have Hsz := Lib.hid hsz; have Hby := Lib.hid hby
  have hts : (t.size : Int) ≤ 64 := by omega
  clear hsz hby ht
  go_enter Tryd.func54, Tryd.ntmps54
  go_wp2_with (go_at_call 32; refine (HR.out _).mono ?_; rintro e w1 ⟨rfl, hb1⟩)
  go_loop [4, 16] (fun n i => ∃ k : Nat, k ≤ t.size ∧ i = .int .i64 k ∧ n = .int .u64 (numOf (l.take k) : Nat)) (fun _ i => t.size - (intOf i).toNat)
  case atStart => exact ⟨0, Nat.zero_le _, rfl, rfl⟩
  case round =>
    obtain ⟨k, hk, rfl, rfl⟩ := hrel
    by_cases hlt : k < t.size
    · have hkl : k < l.length := by rw [← Hsz.out]; exact hlt
      have HB := Lib.hid (Hby.out k hlt hkl)
      have hlt2 := numOf_take_lt l k hl hkl
      have hst := Lib.hid (numStep (numOf (l.take k)) l[k] hlt2)
      have hnx := numOf_take l k hkl
      generalize numOf (l.take k) = n at *
      generalize l[k] = c at *
      have hnx := Lib.hid hnx
      obtain ⟨n', hn'⟩ : ∃ n', n' = numOf (l.take (k + 1)) := ⟨_, rfl⟩
      have Hn' := Lib.hid hn'.symm; rw [← hn'] at hnx; clear hn'
      go_wp2
      go_round
      case rel => exact ⟨k + 1, by omega, by go_num, by rw [HB.out, hst.out, Hn'.out, hnx.out]⟩
      case measure => simp [intOf]; omega
    · have hkl : l.take k = l := List.take_of_length_le (by rw [← Hsz.out]; omega)
      rw [hkl]
      clear hkl
      go_wp2
      go_ret2
      exact ⟨rfl, hb1⟩

set_option maxHeartbeats 400000 in
theorem fRight_any (f : Fr) (w : World) : Calls Tryd.prog 28 #[.agg (frVals f)] w fun e w' => e = .returned (.bool (frRight f)) ∧ Below w.heap.size w w' := by
  obtain ⟨id, ext, remote, dlc, data⟩ := f
  simp only [frVals]
  cases ext <;> cases remote
  all_goals
    go_enter Tryd.func28, Tryd.ntmps28
    go_wp2
    go_quiet (fail)
    go_wp2
    all_goals
      go_ret
      refine ⟨ret_bool ?_, below_drewN (bAlloc (Below.refl _ _) _) _⟩
      rw [Bool.eq_iff_iff]
      simp [frRight, frWidth, frNeed, *]
      try omega
end Go.Proofs.YtokaaniimakfjaaDoor
