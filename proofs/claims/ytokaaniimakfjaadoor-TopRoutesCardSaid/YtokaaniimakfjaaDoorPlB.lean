/- Plain words on heads: how long one is, and what it says. -/
import Derived.Test.YtokaaniimakfjaaDoorAlPl
set_option linter.unusedSimpArgs false
set_option linter.unusedVariables false
set_option linter.unusedSectionVars false
namespace Go.Proofs.YtokaaniimakfjaaDoor

def bitAt (l : List Bool) (i : Nat) : Bool := l.getD i false
def cut (l : List Bool) (i n : Nat) : List Bool := (l.drop i).take n
theorem length_cut (l : List Bool) (i n : Nat) (h : i + n ≤ l.length) : (cut l i n).length = n := by
  unfold cut; rw [List.length_take, List.length_drop]; omega

/-- how many bits a head has (or the error) -/
def sizeF (l : List Bool) : Nat × Nat :=
  if l.length < 14 then (0, 3) else
  let fixed := if bitAt l 13 then 39 else 19
  let asks := if bitAt l 13 then 32 else 12
  if l.length < fixed then (0, 3) else
  let n := numOf (cut l (fixed - 4) 4)
  if 8 < n then (0, 12) else
  if bitAt l asks then (fixed, 0) else (fixed + 8 * n, 0)

theorem bstr_extract (l : List Bool) (i n : Nat) : (bstr l).extract i (i + n) = bstr (cut l i n) := by
  apply ByteArray.ext
  apply Array.ext'
  rw [ByteArray.data_extract, Array.toList_extract, bstr_data, bstr_data]
  unfold cut
  rw [List.extract_eq_take_drop, List.map_take, List.map_drop, Nat.add_sub_cancel_left]
theorem bstr_at (l : List Bool) (i : Nat) (h : i < (bstr l).size) : (((bstr l)[i]'h).toNat : Int) = bitN (bitAt l i) := by
  have h' : i < l.length := by rw [← size_bstr]; exact h
  rw [bstr_get l i h h']
  unfold bitAt
  rw [List.getD_eq_getElem?_getD, List.getElem?_eq_getElem h']; rfl
def rdAt (l : List Bool) : Nat := if bitAt l 13 then 32 else 12
def rdId (l : List Bool) : Nat := if bitAt l 13 then numOf (cut l 1 11) * 262144 + numOf (cut l 14 18) else numOf (cut l 1 11)
def rdBytes (l : List Bool) (a n : Nat) : List Int := (List.range n).map fun k => (numOf (cut l (a + 8 * k) 8) : Int)
def rdCount (l : List Bool) : Nat := (l.length - (rdAt l + 7)) / 8
def readF (l : List Bool) : Fr :=
  { id := rdId l, ext := bitAt l 13, remote := bitAt l (rdAt l), dlc := numOf (cut l (rdAt l + 3) 4), data := Go.strOfNums (rdBytes l (rdAt l + 7) (rdCount l)) }
/-- the size fits -/
theorem sizeF_fits {l : List Bool} (h : sizeF l = (l.length, 0)) : 19 ≤ l.length ∧ (bitAt l 13 = true → 39 ≤ l.length) ∧ rdAt l + 7 + 8 * rdCount l = l.length ∧ rdCount l ≤ 8 := by
  unfold sizeF at h
  unfold rdCount rdAt
  split at h
  · simp at h
  · rename_i h14
    cases h13 : bitAt l 13 <;> simp only [h13, Bool.false_eq_true, if_false, if_true, Nat.reduceSub] at h ⊢
    · split at h
      · simp at h
      · split at h
        · simp at h
        · split at h
          · simp only [Prod.mk.injEq] at h
            refine ⟨by omega, by simp, ?_⟩; omega
          · simp only [Prod.mk.injEq] at h
            refine ⟨by omega, by simp, ?_⟩; omega
    · split at h
      · simp at h
      · split at h
        · simp at h
        · split at h
          · simp only [Prod.mk.injEq] at h
            refine ⟨by omega, by simp; omega, ?_⟩; omega
          · simp only [Prod.mk.injEq] at h
            refine ⟨by omega, by simp; omega, ?_⟩; omega
theorem rdBytes_snoc (l : List Bool) (a n : Nat) : rdBytes l a (n + 1) = rdBytes l a n ++ [(numOf (cut l (a + 8 * n) 8) : Int)] := by
  simp [rdBytes, List.range_succ]
theorem length_rdBytes (l : List Bool) (a n : Nat) : (rdBytes l a n).length = n := by simp [rdBytes]
theorem rdAt_short {l : List Bool} (h : bitAt l 13 = false) : rdAt l = 12 ∧ rdId l = numOf (cut l 1 11) := by simp [rdAt, rdId, h]
theorem rdAt_long {l : List Bool} (h : bitAt l 13 = true) : rdAt l = 32 ∧ rdId l = numOf (cut l 1 11) * 262144 + numOf (cut l 14 18) := by simp [rdAt, rdId, h]
end Go.Proofs.YtokaaniimakfjaaDoor
