/- crc: sums of rows of bits. -/
import Derived.Test.YtokaaniimakfjaaDoorAlA
import Derived.Test.YtokaaniimakfjaaDoorAlC
import Derived.Test.YtokaaniimakfjaaDoorAlBase
import Derived.Deep.AppendLies
import Derived.Deep.Draws
set_option linter.unusedSimpArgs false
set_option linter.unusedVariables false
set_option linter.unusedSectionVars false
namespace Go.Proofs.YtokaaniimakfjaaDoor
open Go.RowKit

theorem crcTop (s : Nat) (b : Bool) (hs : s < 32768) : (!(bits BinOp.and IntKind.u32 ((s : Int) / 16384) 1 == 1) == (bitN b == 49)) = ((s / 16384 % 2 == 1) != b) := by
  have h2 : ((s : Int) / 16384) = ((s / 16384 : Nat) : Int) := by omega
  rw [h2, bitN_is1, show (1 : Int) = ((1 : Nat) : Int) from rfl, u32_and_nat _ 1 (by omega) (by omega), nat_mask1]
  have h3 : (((s / 16384 % 2 : Nat) : Int) == ((1 : Nat) : Int)) = (s / 16384 % 2 == 1) := by
    rw [Bool.eq_iff_iff]; simp; omega
  rw [h3]
  cases (s / 16384 % 2 == 1) <;> cases b <;> rfl
theorem crcLow (s : Nat) (hs : s < 32768) : bits BinOp.and IntKind.u32 ((s : Int) * 2) 32767 = ((s * 2 % 32768 : Nat) : Int) := by
  have h2 : ((s : Int) * 2) = ((s * 2 : Nat) : Int) := by omega
  rw [h2, show (32767 : Int) = ((32767 : Nat) : Int) from rfl, u32_and_nat _ 32767 (by omega) (by omega)]
  congr 1
  exact Nat.and_two_pow_sub_one_eq_mod (s * 2) 15
theorem crcXor (s : Nat) (hs : s < 32768) : bits BinOp.xor IntKind.u32 (s : Int) 17817 = ((s ^^^ 17817 : Nat) : Int) := by
  rw [show (17817 : Int) = ((17817 : Nat) : Int) from rfl, u32_xor_nat _ 17817 (by omega) (by omega)]

set_option maxHeartbeats 400000 in
theorem cStep_any (s : Nat) (b : Bool) (w : World) (hs : s < 32768) :
    Calls Tryd.prog 57 #[.int .u32 s, .int .u8 (bitN b)] w fun e w' => e = .returned (.int .u32 (crcStep s b : Nat)) ∧ w = w' := by
  have HT := Lib.hid (crcTop s b hs)
  have HL := Lib.hid (crcLow s hs)
  have HX := Lib.hid (crcXor (s * 2 % 32768) (by omega))
  cases ht : ((s / 16384 % 2 == 1) != b)
  · have hfin : crcStep s b = s * 2 % 32768 := by unfold crcStep; rw [ht]; rfl
    have h1 : (!(bits BinOp.and IntKind.u32 ((s : Int) / 16384) 1 == 1) == (bitN b == 49)) = false := HT.out.trans ht
    have Hf := Lib.hid hfin; clear hfin ht
    generalize bitN b = c at *
    go_enter Tryd.func57, Tryd.ntmps57
    go_wp2
    go_ret
    rw [Hf.out, HL.out]; exact ⟨rfl, rfl⟩
  · have hfin : crcStep s b = (s * 2 % 32768) ^^^ 17817 := by unfold crcStep; rw [ht]; rfl
    have h1 : (!(bits BinOp.and IntKind.u32 ((s : Int) / 16384) 1 == 1) == (bitN b == 49)) = true := HT.out.trans ht
    have Hf := Lib.hid hfin; clear hfin ht
    generalize bitN b = c at *
    go_enter Tryd.func57, Tryd.ntmps57
    go_wp2
    go_ret
    rw [Hf.out, HL.out, HX.out]; exact ⟨rfl, rfl⟩

set_option maxHeartbeats 400000 in
theorem cOf1_any (s : Nat) (b : Bool) (g : Nat) (w : World) (hs : s < 32768) (hg : Blk w g 59 #[.int .u32 s]) :
    Calls Tryd.prog 56 #[.int .u8 (bitN b), .pointer (some ⟨g, 0, none⟩)] w fun e w' => e = .returned (.tuple #[]) ∧ w' = w.setCell ⟨g, 0, none⟩ (.int .u32 (crcStep s b : Nat)) := by
  have hc := hg.cell 0
  have hf := hg.frozen 0
  have Hg := Lib.hid hg; clear hg
  generalize hb : bitN b = c
  go_enter Tryd.func56, Tryd.ntmps56
  subst hb
  go_wp2_with (go_at_call 57; refine (cStep_any s b _ hs).mono ?_; rintro e w1 ⟨rfl, rfl⟩)
  go_end0
  exact ⟨rfl, rfl⟩

set_option maxHeartbeats 400000 in
theorem cEach_any (l : List Bool) (g : Nat) (w : World) (hl : l.length ≤ 4000) (hg : Blk w g 59 #[.int .u32 (0 : Nat)]) :
    Calls Tryd.prog 55 #[.string (bstr l), .func (.func 56) #[] #[.pointer (some ⟨g, 0, none⟩)]] w fun e w' => e = .returned (.tuple #[]) ∧ Blk w' g 59 #[.int .u32 (crcOf l : Nat)] ∧ w.grownBy w' (some g) := by
  have hsz : (bstr l).size = l.length := size_bstr l
  have hs : ((bstr l).size : Int) ≤ 4000 := by rw [hsz]; omega
  have Hsz := Lib.hid hsz; clear hsz
  generalize ht : bstr l = t at *
  have Ht := Lib.hid ht; clear ht
  go_enter Tryd.func55, Tryd.ntmps55
  go_wp2
  go_loopw [7] (fun i wr => ∃ k : Nat, k ≤ t.size ∧ i = .int .i64 k ∧ Blk wr g 59 #[.int .u32 (crcOf (l.take k) : Nat)] ∧ w.grownBy wr (some g)) (fun i _ => t.size - (intOf i).toNat)
  case atStart => exact ⟨0, Nat.zero_le _, rfl, hg, World.grownBy.refl _ _⟩
  case round =>
    obtain ⟨k, hk, rfl, ho, hgr⟩ := hrel
    by_cases hlt : k < t.size
    · have hkl : k < l.length := by rw [← Hsz.out]; exact hlt
      have hby : ((t[k]'hlt).toNat : Int) = bitN l[k] := by
        have := Ht.out; subst this; exact bstr_get l k hlt hkl
      have Hby := Lib.hid hby; clear hby
      have hcr := crcOf_lt (l.take k)
      have Ho := Lib.hid ho; have Hgr := Lib.hid hgr; clear ho hgr
      go_wp2_with (go_at_call 56; rw [Hby.out]; refine (cOf1_any _ _ g _ hcr Ho.out).mono ?_; rintro e w1 ⟨rfl, rfl⟩)
      go_roundw
      case rel => exact ⟨k + 1, by omega, by go_num, by rw [crcOf_take l k hkl]; exact Ho.out.set_ 0 _, only_setCell Hgr.out (.inl rfl) _⟩
      case measure => simp [intOf]; omega
    · have hkl : l.take k = l := List.take_of_length_le (by rw [← Hsz.out]; omega)
      have Hkl := Lib.hid hkl; clear hkl
      have Ho := Lib.hid ho; have Hgr := Lib.hid hgr; clear ho hgr
      go_wp2
      go_end0
      refine ⟨rfl, ?_, Hgr.out⟩
      have := Ho.out
      rwa [Hkl.out] at this

set_option maxHeartbeats 400000 in
theorem cOf_any (l : List Bool) (w : World) (hl : l.length ≤ 4000) :
    Calls Tryd.prog 39 #[.string (bstr l)] w fun e w' => e = .returned (.tuple #[.int .u32 (crcOf l : Nat), .int .i64 0]) ∧ Below w.heap.size w w' := by
  go_enter Tryd.func39, Tryd.ntmps39
  go_wp2_with (go_at_call 32; refine (bRight_any l _ hl).mono ?_; rintro e w1 ⟨rfl, hb⟩)
  have hb1 : Below w.heap.size w w1 := hb
  go_wp2_with (go_at_call 55; refine (cEach_any l _ _ hl (Blk.new _ _ _)).mono ?_; rintro e w2 ⟨rfl, ho, hg⟩; have hc := ho.cell 0)
  go_ret2
  exact ⟨rfl, (hb1.alloc hb1.size _).grown hg (by have := hb1.size; simp; omega) (by intro k hk; cases hk; exact hb1.size)⟩


set_option maxHeartbeats 400000 in
theorem cFrame_any (l : List Bool) (w : World) (hl : l.length ≤ 3985) :
    Calls Tryd.prog 29 #[.string (bstr l)] w fun e w' => e = .returned (.tuple #[.string (bstr (l ++ numB 15 (crcOf l))), .int .i64 0]) ∧ Below w.heap.size w w' := by
  have hs : (bstr l).size ≤ 3985 := by rw [size_bstr]; omega
  have hs2 : (bstr (numB 15 (crcOf l))).size ≤ 15 := by rw [size_bstr, length_numB]; omega
  have hc := crcOf_lt l
  have hap := Lib.hid (bstr_append l (numB 15 (crcOf l)))
  go_enter Tryd.func29, Tryd.ntmps29
  go_wp2_with (first
    | (go_at_call 39; refine (cOf_any l _ (by omega)).mono ?_; rintro e w1 ⟨rfl, hb⟩)
    | (go_at_call 40; refine (bOf_any _ 15 _ (by omega) (by omega) (by omega)).mono ?_; rintro e w2 ⟨rfl, hb2⟩))
  go_ret2
  refine ⟨?_, below_then2 hb hb2⟩
  exact congrArg (fun x => Ending.returned (.tuple #[.string x, .int .i64 0])) hap.out

set_option maxHeartbeats 400000 in
theorem cCheck_any (l : List Bool) (w : World) (hl : l.length ≤ 4000) :
    Calls Tryd.prog 35 #[.string (bstr l)] w fun e w' => e = .returned (.bool (crcGood l)) ∧ Below w.heap.size w w' := by
  have hs : (bstr l).size = l.length := size_bstr l
  by_cases h15 : 15 ≤ l.length
  · have HG := Lib.hid (crcGood_long h15)
    go_enter Tryd.func35, Tryd.ntmps35
    go_wp2_with (go_at_call 39; refine (cOf_any l _ (by omega)).mono ?_; rintro e w1 ⟨rfl, hb⟩)
    go_ret
    exact ⟨ret_bool HG.out.symm, hb⟩
  · have HG := Lib.hid (crcGood_short (l := l) (by omega))
    go_enter Tryd.func35, Tryd.ntmps35
    go_wp2_with (go_at_call 39; refine (cOf_any l _ (by omega)).mono ?_; rintro e w1 ⟨rfl, hb⟩)
    go_ret
    exact ⟨ret_bool HG.out.symm, hb⟩

end Go.Proofs.YtokaaniimakfjaaDoor
