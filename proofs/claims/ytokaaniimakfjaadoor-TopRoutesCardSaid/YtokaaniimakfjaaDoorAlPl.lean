/- Plain words on rows of bits: no program in sight. -/
import Derived.Laws.BytesArg
import Derived.Laws.Bits64
import Derived.Laws.BitsAllLaws
import Derived.WalkSmall
import Derived.RowKit
set_option linter.unusedSimpArgs false
set_option linter.unusedVariables false
set_option linter.unusedSectionVars false
namespace Go.Proofs.YtokaaniimakfjaaDoor
open Go.RowKit

def bitN (b : Bool) : Int := if b then 49 else 48
def bstr (l : List Bool) : ByteArray := strOfNums (l.map bitN)
theorem size_bstr (l : List Bool) : (bstr l).size = l.length := by simp [bstr, strOfNums_size]
theorem bstr_data (l : List Bool) : (bstr l).data.toList = l.map fun b => UInt8.ofNat (bitN b).toNat := by
  unfold bstr; rw [strOfNums_data, List.map_map]; rfl
theorem bitN_pos (b : Bool) : 48 ≤ bitN b ∧ bitN b ≤ 49 := by cases b <;> decide
theorem bstr_get (l : List Bool) (i : Nat) (h : i < (bstr l).size) (h' : i < l.length) : (((bstr l)[i]'h).toNat : Int) = bitN l[i] := by
  have e : ((bstr l)[i]'h) = (bstr l).data.toList[i]'(by rw [Array.length_toList]; exact h) := rfl
  rw [e]
  simp only [bstr_data, List.getElem_map]
  cases l[i] <;> rfl
theorem bstr_append (a b : List Bool) : bstr a ++ bstr b = bstr (a ++ b) := by
  apply ByteArray.ext
  apply Array.ext'
  rw [ByteArray.data_append, Array.toList_append, bstr_data, bstr_data, bstr_data, List.map_append]
theorem bstr_nil : bstr [] = ⟨#[]⟩ := rfl
theorem strOfNums_bits (l : List Bool) : strOfNums (l.map bitN) = bstr l := rfl

def numB (m n : Nat) : List Bool := (List.range m).map fun j => n.testBit (m - 1 - j)
theorem length_numB (m n : Nat) : (numB m n).length = m := by simp [numB]

theorem testBit_bitN (n i : Nat) : bitN (n.testBit i) = 48 + ((n / 2 ^ i % 2 : Nat) : Int) := by
  rw [Nat.testBit_eq_decide_div_mod_eq]
  unfold bitN
  have : n / 2 ^ i % 2 = 0 ∨ n / 2 ^ i % 2 = 1 := by omega
  rcases this with h | h <;> simp [h]

/-! ### sums -/
def crcStep (s : Nat) (b : Bool) : Nat := if (s / 16384 % 2 == 1) != b then (s * 2 % 32768) ^^^ 17817 else s * 2 % 32768
def crcOf (l : List Bool) : Nat := l.foldl crcStep 0
theorem crcStep_lt (s : Nat) (b : Bool) : crcStep s b < 32768 := by
  unfold crcStep
  split
  · exact Nat.xor_lt_two_pow (n := 15) (by omega) (by omega)
  · omega
theorem crcFold_lt (l : List Bool) : ∀ s, s < 32768 → l.foldl crcStep s < 32768 := by
  induction l with
  | nil => intro s h; exact h
  | cons b l ih => intro s _; exact ih _ (crcStep_lt s b)
theorem crcOf_lt (l : List Bool) : crcOf l < 32768 := crcFold_lt l 0 (by omega)
theorem crcOf_snoc (l : List Bool) (b : Bool) : crcOf (l ++ [b]) = crcStep (crcOf l) b := by simp [crcOf]
theorem crcOf_take (l : List Bool) (k : Nat) (h : k < l.length) : crcOf (l.take (k + 1)) = crcStep (crcOf (l.take k)) l[k] := by
  rw [List.take_succ_eq_append_getElem h, crcOf_snoc]

/-- a bit's test as the walk writes it -/
theorem bitN_is1 (b : Bool) : (bitN b == 49) = b := by cases b <;> rfl
theorem bitN_is0 (b : Bool) : (bitN b == 48) = !b := by cases b <;> rfl

def crcGood (l : List Bool) : Bool := decide (15 ≤ l.length) && (crcOf l == 0)
theorem crcGood_short {l : List Bool} (h : l.length < 15) : crcGood l = false := by
  have : decide (15 ≤ l.length) = false := decide_eq_false (by omega)
  simp [crcGood, this]
theorem crcGood_long {l : List Bool} (h : 15 ≤ l.length) : crcGood l = (((crcOf l : Nat) : Int) == 0) := by
  rw [Bool.eq_iff_iff]; simp [crcGood, h]

/-! ### stuffing: what is known (none: nothing yet; the last bit and how many are equal), a step: what is known then, and the kind (1 data, 2 stuffed, 3 error) -/
abbrev St : Type := Option (Bool × Nat)
def stLast : St → Int
  | none => 0
  | some (b, _) => bitN b
def stN : St → Nat
  | none => 0
  | some (_, n) => n
def StOk : St → Prop
  | none => True
  | some (_, n) => 1 ≤ n ∧ n ≤ 5
def stStep : St → Bool → St × Nat
  | none, c => (some (c, 1), 1)
  | some (b, n), c => if n = 5 then (if c = b then (some (b, n), 3) else (some (c, 1), 2)) else if c = b then (some (b, n + 1), 1) else (some (c, 1), 1)
theorem stStep_ok (s : St) (c : Bool) (h : StOk s) : StOk (stStep s c).1 := by
  cases s with
  | none => exact ⟨by decide, by decide⟩
  | some p =>
    obtain ⟨b, n⟩ := p
    obtain ⟨h1, h2⟩ := h
    unfold stStep
    by_cases h5 : n = 5 <;> by_cases hc : c = b <;> simp [h5, hc, StOk] <;> omega
def stVals (s : St) : Array Value := #[.int .u8 (stLast s), .int .i64 (stN s)]

/-- a number out of bits, the highest first -/
def numOf (l : List Bool) : Nat := l.foldl (fun n b => n * 2 + b.toNat) 0
theorem numOf_snoc (l : List Bool) (b : Bool) : numOf (l ++ [b]) = numOf l * 2 + b.toNat := by simp [numOf]
theorem numFold_lt (l : List Bool) : ∀ m, l.foldl (fun n b => n * 2 + b.toNat) m < (m + 1) * 2 ^ l.length := by
  induction l with
  | nil => intro m; simp
  | cons b l ih =>
    intro m
    have h1 := ih (m * 2 + b.toNat)
    have hb : b.toNat ≤ 1 := by cases b <;> decide
    have h2 : (m * 2 + b.toNat + 1) * 2 ^ l.length ≤ ((m + 1) * 2) * 2 ^ l.length := Nat.mul_le_mul_right _ (by omega)
    rw [List.foldl_cons, List.length_cons, Nat.pow_succ, Nat.mul_comm (2 ^ l.length) 2, ← Nat.mul_assoc]
    omega
theorem numOf_lt (l : List Bool) : numOf l < 2 ^ l.length := by
  have := numFold_lt l 0
  unfold numOf
  omega
theorem numOf_take (l : List Bool) (k : Nat) (h : k < l.length) : numOf (l.take (k + 1)) = numOf (l.take k) * 2 + l[k].toNat := by
  rw [List.take_succ_eq_append_getElem h, numOf_snoc]
theorem numOf_take_lt (l : List Bool) (k : Nat) (hl : l.length ≤ 64) (h : k < l.length) : numOf (l.take k) < 9223372036854775808 := by
  have h1 := numOf_lt (l.take k)
  have h2 : (l.take k).length ≤ 63 := by rw [List.length_take]; omega
  have h3 : 2 ^ (l.take k).length ≤ 2 ^ 63 := Nat.pow_le_pow_right (by omega) h2
  omega

/-! ### Stuff -/
def stuffAcc (p : St × List Bool) (c : Bool) : St × List Bool :=
  if stN (stStep p.1 c).1 = 5 then ((stStep (stStep p.1 c).1 !c).1, p.2 ++ [c] ++ [!c]) else ((stStep p.1 c).1, p.2 ++ [c])
def stuffF (l : List Bool) : St × List Bool := l.foldl stuffAcc (none, [])
theorem stuffF_take (l : List Bool) (k : Nat) (h : k < l.length) : stuffF (l.take (k + 1)) = stuffAcc (stuffF (l.take k)) l[k] := by
  unfold stuffF; rw [List.take_succ_eq_append_getElem h, List.foldl_append]; rfl
theorem stuffAcc_ok (p : St × List Bool) (c : Bool) (h : StOk p.1) : StOk (stuffAcc p c).1 := by
  unfold stuffAcc
  split
  · exact stStep_ok _ _ (stStep_ok _ _ h)
  · exact stStep_ok _ _ h
theorem stuffAcc_len (p : St × List Bool) (c : Bool) : (stuffAcc p c).2.length ≤ p.2.length + 2 := by
  unfold stuffAcc
  split <;> simp
theorem stuffF_ok (l : List Bool) : ∀ k, StOk (stuffF (l.take k)).1 ∧ (stuffF (l.take k)).2.length ≤ 2 * k := by
  intro k
  induction k with
  | zero => exact ⟨trivial, by simp [stuffF]⟩
  | succ k ih =>
    by_cases h : k < l.length
    · rw [stuffF_take l k h]
      have := stuffAcc_len (stuffF (l.take k)) l[k]
      exact ⟨stuffAcc_ok _ _ ih.1, by omega⟩
    · rw [List.take_of_length_le (by omega)]
      rw [List.take_of_length_le (by omega)] at ih
      exact ⟨ih.1, by omega⟩
theorem stuffF_okAll (l : List Bool) : StOk (stuffF l).1 ∧ (stuffF l).2.length ≤ 2 * l.length := by
  have := stuffF_ok l l.length
  rwa [List.take_length] at this

/-! ### frames -/
structure Fr where
  id : Nat
  ext : Bool
  remote : Bool
  dlc : Int
  data : ByteArray
def frVals (f : Fr) : Array Value := #[.int .u32 f.id, .bool f.ext, .bool f.remote, .int .i64 f.dlc, .string f.data]
def frWidth (f : Fr) : Nat := if f.ext then 29 else 11
def frNeed (f : Fr) : Int := if f.remote then 0 else f.dlc
def frRight (f : Fr) : Bool := ((f.id : Int) / 2 ^ frWidth f == 0) && decide (0 ≤ f.dlc) && decide (f.dlc ≤ 8) && ((f.data.size : Int) == frNeed f)
theorem frRight_parts {f : Fr} (h : frRight f = true) : f.id < 2 ^ frWidth f ∧ 0 ≤ f.dlc ∧ f.dlc ≤ 8 ∧ (f.data.size : Int) = frNeed f := by
  simp only [frRight, Bool.and_eq_true, beq_iff_eq, decide_eq_true_eq] at h
  obtain ⟨⟨⟨h1, h2⟩, h3⟩, h4⟩ := h
  refine ⟨?_, h2, h3, h4⟩
  have hp : 0 < 2 ^ frWidth f := Nat.pow_pos (by omega)
  have h5 : f.id / 2 ^ frWidth f = 0 := by
    have e : ((f.id / 2 ^ frWidth f : Nat) : Int) = 0 := by rw [← h1]; simp
    omega
  exact (Nat.div_eq_zero_iff.1 h5).resolve_left (by omega)

/-! ### a frame's head -/
def byteBits (s : ByteArray) : List Bool := s.data.toList.flatMap fun b => numB 8 b.toNat
def frIdBits (f : Fr) : List Bool := if f.ext then numB 11 (f.id / 262144) ++ [true, true] ++ numB 18 (f.id % 262144) else numB 11 f.id
def headPre (f : Fr) : List Bool := [false] ++ frIdBits f ++ [f.remote] ++ [false, false] ++ numB 4 f.dlc.toNat
def headBits (f : Fr) : List Bool := headPre f ++ byteBits f.data
def headTake (f : Fr) (k : Nat) : List Bool := headPre f ++ (f.data.data.toList.take k).flatMap fun b => numB 8 b.toNat
theorem headTake_zero (f : Fr) : headTake f 0 = headPre f := by simp [headTake]
theorem headTake_all (f : Fr) (k : Nat) (h : f.data.data.toList.length ≤ k) : headTake f k = headBits f := by
  unfold headTake headBits byteBits; rw [List.take_of_length_le h]
theorem headTake_succ (f : Fr) (k : Nat) (h : k < f.data.data.toList.length) : headTake f (k + 1) = headTake f k ++ numB 8 (f.data.data.toList[k]).toNat := by
  unfold headTake; rw [List.take_succ_eq_append_getElem h, List.flatMap_append]; simp [List.append_assoc]
theorem length_byteBits (s : List UInt8) : (s.flatMap fun b => numB 8 b.toNat).length = 8 * s.length := by
  induction s with
  | nil => rfl
  | cons b s ih => simp [List.flatMap_cons, ih, length_numB]; omega
theorem length_headPre (f : Fr) : (headPre f).length = if f.ext then 39 else 19 := by
  unfold headPre frIdBits
  cases f.ext <;> simp [length_numB]
theorem length_headTake (f : Fr) (k : Nat) : (headTake f k).length ≤ 39 + 8 * k := by
  unfold headTake
  have h1 := length_byteBits (f.data.data.toList.take k)
  have h2 : (f.data.data.toList.take k).length ≤ k := List.length_take_le _ _
  have h3 := length_headPre f
  rw [List.length_append, h1, h3]
  split <;> omega

end Go.Proofs.YtokaaniimakfjaaDoor
