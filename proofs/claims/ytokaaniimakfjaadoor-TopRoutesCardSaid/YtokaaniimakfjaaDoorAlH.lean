/- the writer's words; frame.head; frame.Bits. -/
import Derived.Test.YtokaaniimakfjaaDoorAlG
set_option linter.unusedSimpArgs false
set_option linter.unusedVariables false
set_option linter.unusedSectionVars false
namespace Go.Proofs.YtokaaniimakfjaaDoor
open Go.RowKit

theorem strCells_bstr (l : List Bool) : Lib.strCells (bstr l) = bitCells l := by
  unfold Lib.strCells bitCells
  rw [bstr_data, List.map_map]
  apply List.map_congr_left
  intro b _
  cases b <;> rfl
theorem byteCells_bstr (l : List Bool) : Lib.byteCells (l.map fun b => UInt8.ofNat (bitN b).toNat) = bitCells l := by
  unfold Lib.byteCells bitCells
  rw [List.map_map]
  apply List.map_congr_left
  intro b _
  cases b <;> rfl
theorem bitCells_append (a b : List Bool) : bitCells (a ++ b) = bitCells a ++ bitCells b := by simp [bitCells]

/-- the writer at block b holds these bits -/
def Wr (T : TypeId) (B b : Nat) (l : List Bool) (w : World) : Prop := Bld T B b (bitCells l) w
theorem Wr.ge {T : TypeId} {B b : Nat} {l : List Bool} {w : World} (h : Wr T B b l w) : B ≤ b := by
  rcases h with h | h <;> exact h.1
theorem Wr.lt {T : TypeId} {B b : Nat} {l : List Bool} {w : World} (h : Wr T B b l w) : b < w.heap.size := by
  rcases h with h | h <;> exact h.lt
theorem ownsRowF_below {w w' : World} {B : Nat} {e : TypeId} {v : Value} {n : Nat} {xs : List Value} (h : w.ownsRowF B e 1 v n xs) (hb : Below w.heap.size w w') : w'.ownsRowF B e 1 v n xs :=
  h.kept (only_of_below hb none) (by cases v.ownBlock <;> simp)
theorem bldAt_below {T : TypeId} {B b : Nat} {p : Value} {bs : List Value} {w w' : World} (h : BldAt T B b p bs w) (hb : Below w.heap.size w w') : BldAt T B b p bs w' := by
  have hlt := h.lt
  obtain ⟨h1, v, h2, h3, h4⟩ := h
  exact ⟨h1, v, (hb.block b hlt).trans h2, ownsRowF_below h3 hb, h4⟩
theorem Wr.below {T : TypeId} {B b : Nat} {l : List Bool} {w w' : World} (h : Wr T B b l w) (hb : Below w.heap.size w w') : Wr T B b l w' := by
  rcases h with h | h
  · exact .inl (bldAt_below h hb)
  · exact .inr (bldAt_below h hb)
theorem Wr.new (T : TypeId) (B : Nat) (w : World) (hB : B ≤ w.heap.size) : Wr T B w.heap.size [] (w.alloc (.cells #[.pointer none, .slice none 0 0] T)) :=
  .inl ⟨hB, .slice none 0 0, heap_alloc_new w _, World.ownsRowF_nil _ _ _ _, by simp [Value.ownBlock]⟩

theorem wrWrite_any (T : TypeId) (hT : LiesB T) (B b : Nat) (l x : List Bool) (w : World) (h : Wr T B b l w) (hl : l.length + x.length ≤ 100000) (hB : B ≤ w.heap.size) :
    Calls Tryd.prog 43 #[.pointer (some ⟨b, 0, none⟩), .string (bstr x)] w fun e w' => e = .returned (.tuple #[.int .i64 x.length, .nilIface]) ∧ Wr T B b (l ++ x) w' ∧ Below B w w' ∧ Oth b w w' := by
  refine (sbWriteString_any T hT B b (bitCells l) (bstr x) w h (by rw [bitCells_length, size_bstr]; omega) hB).mono ?_
  rintro e w' ⟨rfl, h1, h2, h3⟩
  rw [strCells_bstr, ← bitCells_append] at h1
  exact ⟨by rw [size_bstr], .inr h1, h2, h3⟩

theorem wrString_any (T : TypeId) (B b : Nat) (l : List Bool) (w : World) (h : Wr T B b l w) (h0 : l ≠ []) :
    Calls Tryd.prog 44 #[.pointer (some ⟨b, 0, none⟩)] w fun e w' => e = .returned (.string (bstr l)) ∧ Wr T B b l w' ∧ Below B w w' ∧ Oth b w w' := by
  have h1 : Bld T B b (Lib.byteCells (l.map fun b => UInt8.ofNat (bitN b).toNat)) w := by rw [byteCells_bstr]; exact h
  refine (sbString_any T B b _ w h1 (by simpa using h0)).mono ?_
  rintro e w' ⟨rfl, h2, h3, h4⟩
  rw [byteCells_bstr] at h2
  refine ⟨ret_string ?_, h2, h3, h4⟩
  apply ByteArray.ext
  apply Array.ext'
  rw [bstr_data]

theorem one_true : (⟨#[49]⟩ : ByteArray) = bstr [true] := rfl
theorem one_false : (⟨#[48]⟩ : ByteArray) = bstr [false] := rfl
theorem two_true : (⟨#[49, 49]⟩ : ByteArray) = bstr [true, true] := rfl
theorem two_false : (⟨#[48, 48]⟩ : ByteArray) = bstr [false, false] := rfl

set_option maxHeartbeats 400000 in
theorem wTruth_any (B b : Nat) (l : List Bool) (x : Bool) (w : World) (h : Wr 91 B b l w) (hl : l.length ≤ 1000) (hB : B ≤ w.heap.size) :
    Calls Tryd.prog 41 #[.pointer (some ⟨b, 0, none⟩), .bool x] w fun e w' => e = .returned (.tuple #[]) ∧ Wr 91 B b (l ++ [x]) w' ∧ Below B w w' ∧ Oth b w w' := by
  cases x
  · go_enter Tryd.func41, Tryd.ntmps41
    go_wp2_with (go_at_call 43; rw [one_false]; refine (wrWrite_any _ liesB_writer B b l [false] _ h (by simp; omega) hB).mono ?_; rintro e w1 ⟨rfl, h1, h2, h3⟩)
    go_end0
    exact ⟨rfl, h1, h2, h3⟩
  · go_enter Tryd.func41, Tryd.ntmps41
    go_wp2_with (go_at_call 43; rw [one_true]; refine (wrWrite_any _ liesB_writer B b l [true] _ h (by simp; omega) hB).mono ?_; rintro e w1 ⟨rfl, h1, h2, h3⟩)
    go_end0
    exact ⟨rfl, h1, h2, h3⟩

set_option maxHeartbeats 400000 in
theorem wNumber_any (B b : Nat) (l : List Bool) (n : Int) (m : Int) (w : World) (h : Wr 91 B b l w) (hl : l.length ≤ 1000) (hB : B ≤ w.heap.size) (hm0 : 0 ≤ m) (hm : m < 64) (hn0 : 0 ≤ n) (hn : n < 2 ^ m.toNat) :
    Calls Tryd.prog 42 #[.pointer (some ⟨b, 0, none⟩), .int .u64 n, .int .i64 m] w fun e w' => e = .returned (.tuple #[]) ∧ Wr 91 B b (l ++ numB m.toNat n.toNat) w' ∧ Below B w w' ∧ Oth b w w' := by
  obtain ⟨m, rfl⟩ := Int.eq_ofNat_of_zero_le hm0
  rw [Int.toNat_natCast] at hn ⊢
  have hO := fun w => bOf_any n m w (by omega) hn0 hn
  have HO := Lib.hid hO
  clear hO hn
  go_enter Tryd.func42, Tryd.ntmps42
  go_wp2_with (first
    | (go_at_call 40; refine (HO.out _).mono ?_; rintro e w1 ⟨rfl, hb1⟩)
    | (go_at_call 43; refine (wrWrite_any _ liesB_writer B b l (numB m n.toNat) _ (h.below hb1) (by rw [length_numB]; omega) (by have := hb1.size; omega)).mono ?_; rintro e w2 ⟨rfl, h1, h2, h3⟩))
  go_end0
  have h4 : Below B w w1 := ⟨hb1.os, hb1.tape, hb1.output, hb1.size, fun i hi => hb1.block i (by omega)⟩
  refine ⟨rfl, h1, h4.trans h2, ?_⟩
  intro k o hk hb ho
  exact h3 k o ((hb1.block k (Array.getElem?_eq_some_iff.1 hk).1).trans hk) hb ho
end Go.Proofs.YtokaaniimakfjaaDoor
