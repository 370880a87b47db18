/- bits.Right at a row of bits. -/
import Derived.Test.YtokaaniimakfjaaDoorAlPl
import Derived.Test.YtokaaniimakfjaaDoorShelf
import Derived.Test.YtokaaniimakfjaaDoorProg
import Derived.WalkKit
import Derived.WalkSpells
import Derived.WalkLawsBesides
import Derived.KernelRfl
import Derived.Lib.Hide
set_option linter.unusedSimpArgs false
set_option linter.unusedVariables false
set_option linter.unusedSectionVars false
namespace Go.Proofs.YtokaaniimakfjaaDoor
open Go.RowKit

theorem Tryd.infoSet : (Tryd.prog.info? 123).map (fun i => (i.zero, i.size)) = some (some (.agg (Array.replicate 256 (.bool false))), 256) := by kernel_rfl
def zeroOne : ByteArray := ⟨#[48, 49]⟩
theorem dropBits (l : List Bool) : Lib.trimLeftS (bstr l).data.toList zeroOne.data.toList = [] := by
  unfold Lib.trimLeftS
  rw [bstr_data]
  induction l with
  | nil => rfl
  | cons b l ih => rw [List.map_cons, List.dropWhile_cons_of_pos (by cases b <;> decide)]; exact ih
theorem trimLeft_bits (l : List Bool) (w : World) :
    Calls Tryd.prog 48 #[.string (bstr l), .string zeroOne] w fun e w' => e = .returned (.string ⟨#[]⟩) ∧ Below w.heap.size w w' := by
  have h := Any.strings_TrimLeft_laid Tryd.lays161 Tryd.infoSet (bstr l) zeroOne w (by decide) (by
    intro j b hj
    match j with
    | 0 => simp [zeroOne] at hj; subst hj; decide
    | 1 => simp [zeroOne] at hj; subst hj; decide
    | j + 2 => simp [zeroOne] at hj)
  rw [dropBits] at h
  exact h

set_option maxHeartbeats 400000 in
theorem bRight_any (l : List Bool) (w : World) (hl : l.length ≤ 4000) :
    Calls Tryd.prog 32 #[.string (bstr l)] w fun e w' => e = .returned (.bool true) ∧ Below w.heap.size w w' := by
  have hs : ((bstr l).size : Int) ≤ 4000 := by rw [size_bstr]; omega
  go_enter Tryd.func32, Tryd.ntmps32
  go_wp2_with (go_at_call 48; refine (trimLeft_bits l _).mono ?_; rintro e w1 ⟨rfl, hb⟩)
  go_ret
  exact ⟨rfl, hb⟩
end Go.Proofs.YtokaaniimakfjaaDoor
