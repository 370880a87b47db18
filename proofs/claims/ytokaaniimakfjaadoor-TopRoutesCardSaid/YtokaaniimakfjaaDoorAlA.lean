import Derived.Test.YtokaaniimakfjaaDoorProg
import Derived.WalkKit
import Derived.WalkSpells
import Derived.WalkLawsBesides
import Derived.Deep.QuietTactic
import Derived.BigQuiet
import Derived.KernelRfl
import Derived.Lib.Hide
import Derived.Deep.OwnRows
import Derived.Deep.DeepFit
import Derived.Test.YtokaaniimakfjaaDoorAlPl
set_option linter.unusedSimpArgs false
set_option linter.unusedVariables false
set_option linter.unusedSectionVars false
namespace Go.Proofs.YtokaaniimakfjaaDoor
open Go.RowKit

theorem Tryd.infoU8 : (Tryd.prog.info? 5).map (fun i => (i.zero, i.size, i.bytes)) = some (some (.int .u8 0), 1, 1) := by kernel_rfl




def bitCell (n m k j : Nat) : Value := if j < k then .int .u8 (bitN (n.testBit (m - 1 - j))) else .int .u8 0
theorem bitCell_step (n m k : Nat) (hn : n < 18446744073709551616) : (48 + bits BinOp.and IntKind.u64 ((n : Int) / 2 ^ (m - 1 - k)) 1) % 256 = bitN (n.testBit (m - 1 - k)) := by
  have h2 : ((n : Int) / 2 ^ (m - 1 - k)) = ((n / 2 ^ (m - 1 - k) : Nat) : Int) := by simp
  have h3 : n / 2 ^ (m - 1 - k) ≤ n := Nat.div_le_self _ _
  rw [h2, testBit_bitN]
  generalize n / 2 ^ (m - 1 - k) = d at *
  rw [and_one_u64 _ (by omega) (by omega)]
  omega

set_option maxHeartbeats 400000 in
theorem bOf_any (n : Int) (m : Nat) (w : World) (hm : m < 64) (hn0 : 0 ≤ n) (hn : n < 2 ^ m) :
    Calls Tryd.prog 40 #[.int .u64 n, .int .i64 m] w fun e w' => e = .returned (.tuple #[.string (bstr (numB m n.toNat)), .int .i64 0]) ∧ Below w.heap.size w w' := by
  obtain ⟨N, rfl⟩ := Int.eq_ofNat_of_zero_le hn0
  rw [Int.toNat_natCast]
  have hN : N < 2 ^ m := by exact_mod_cast hn
  have hN64 : N < 18446744073709551616 := Nat.lt_of_lt_of_le hN (by have := Nat.pow_le_pow_right (n := 2) (by omega) (show m ≤ 64 by omega); simpa using this)
  have hmk := run_make_row' (P := Tryd.prog) 87 5 (.int .u8 0) 1 Tryd.underlying87 Tryd.infoU8 rfl .i64 .i64 m (by omega) (by omega)
  have hz : ((N : Int) / 2 ^ m != 0) = false := by
    have : (N : Int) / 2 ^ m = 0 := Int.ediv_eq_zero_of_lt hn0 hn
    simp [this]
  have hrow := World.rowIs_made w (.int .u8 0) m 5
  have Hn := Lib.hid hn
  have HN := Lib.hid hN
  have HN64 := Lib.hid hN64
  clear hn hN hN64
  go_enter Tryd.func40, Tryd.ntmps40
  go_wp2
  clear hmk
  go_loopw [28] (fun i wr => ∃ k : Nat, k ≤ m ∧ i = .int .i64 k ∧ wr.rowIs w.heap.size 5 m (bitCell N m k) ∧ Below w.heap.size w wr) (fun i _ => m - (intOf i).toNat)
  case atStart => exact ⟨0, Nat.zero_le _, rfl, hrow.congr (fun j hj => by simp [bitCell]), (Below.refl _ _).alloc (Nat.le_refl _) _⟩
  case round =>
    clear hrow
    obtain ⟨k, hk, rfl, hrw, hb⟩ := hrel
    by_cases hlt : k < m
    · have hc : wr.cell? ⟨w.heap.size, k, none⟩ = some (.int .u8 0) := by rw [hrw.cell hlt, bitCell, if_neg (by omega)]
      have hf := hrw.frozen k
      have Hrw := Lib.hid hrw; have Hb := Lib.hid hb; clear hrw hb
      have HS := Lib.hid (bitCell_step N m k HN64.out)
      go_wp2
      go_roundw
      case rel => exact ⟨k + 1, by omega, by go_num, (Hrw.out.set k _).congr (fun j hj => by
          by_cases h : j = k
          · subst h; simp [bitCell, HS.out]
          · simp only [if_neg h, bitCell]; by_cases h2 : j < k
            · rw [if_pos h2, if_pos (by omega)]
            · rw [if_neg h2, if_neg (by omega)]), Hb.out.setCell (by simp) _⟩
      case measure => simp [intOf]; omega
    · have hkm : k = m := by omega
      have hcv := run_convert_bytes_arg (P := Tryd.prog) wr 87 5 Tryd.underlying87 Tryd.underlying5 w.heap.size 0 m m ((numB m N).map bitN) (by simp [length_numB])
        (fun i hi => by rw [Nat.zero_add, hrw.cell hi, bitCell, if_pos (by omega)]; simp [numB, hi]) 9 Tryd.underlying9
      have Hrw := Lib.hid hrw; have Hb := Lib.hid hb; clear hrw hb
      have Hk := Lib.hid hkm
      clear hkm
      go_wp2
      go_ret2
      exact ⟨rfl, Hb.out⟩

end Go.Proofs.YtokaaniimakfjaaDoor
