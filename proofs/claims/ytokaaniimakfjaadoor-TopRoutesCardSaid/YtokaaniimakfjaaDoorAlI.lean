/- frame.head. -/
import Derived.Test.YtokaaniimakfjaaDoorAlH
set_option linter.unusedSimpArgs false
set_option linter.unusedVariables false
set_option linter.unusedSectionVars false
namespace Go.Proofs.YtokaaniimakfjaaDoor
open Go.RowKit

structure HInv (w0 : World) (f : Fr) (l : List Bool) (W : World) : Prop where
  box : Blk W w0.heap.size 61 (frVals f)
  wr : Wr 91 w0.heap.size (w0.heap.size + 1) l W
  below : Below w0.heap.size w0 W
theorem HInv.step {w0 : World} {f : Fr} {l l' : List Bool} {W W' : World} (h : HInv w0 f l W) (h1 : Wr 91 w0.heap.size (w0.heap.size + 1) l' W') (h2 : Below w0.heap.size W W') (h3 : Oth (w0.heap.size + 1) W W') : HInv w0 f l' W' :=
  ⟨h.box.oth h3 (by omega) (by decide), h1, h.below.trans h2⟩
theorem HInv.size {w0 : World} {f : Fr} {l : List Bool} {W : World} (h : HInv w0 f l W) : w0.heap.size ≤ W.heap.size := h.below.size

theorem idLow (id : Nat) (h : id < 536870912) : bits BinOp.and IntKind.u32 (id : Int) 262143 = ((id % 262144 : Nat) : Int) := by
  rw [show (262143 : Int) = ((262143 : Nat) : Int) from rfl, u32_and_nat _ 262143 (by omega) (by omega)]
  congr 1
  exact Nat.and_two_pow_sub_one_eq_mod id 18

set_option maxHeartbeats 2000000 in
set_option maxRecDepth 100000 in
theorem fHead_any (f : Fr) (w : World) (hf : frRight f = true) : Calls Tryd.prog 30 #[.agg (frVals f)] w fun e w' => e = .returned (.string (bstr (headBits f))) ∧ Below w.heap.size w w' := by
  obtain ⟨hid, hd0, hd8, hdata⟩ := frRight_parts hf
  clear hf
  have hdl : f.data.size ≤ 8 := by
    unfold frNeed at hdata; split at hdata <;> omega
  clear hdata
  have HHT := Lib.hid (fun k h => headTake_succ f k h)
  have HHA := Lib.hid (headTake_all f f.data.size (by rw [Array.length_toList]; exact Nat.le_refl _))
  have HHZ := Lib.hid (headTake_zero f)
  have HHL := Lib.hid (fun k => length_headTake f k)
  have hpre : headPre f = [false] ++ frIdBits f ++ [f.remote] ++ [false, false] ++ numB 4 f.dlc.toNat := rfl
  have hidb : frIdBits f = if f.ext then numB 11 (f.id / 262144) ++ [true, true] ++ numB 18 (f.id % 262144) else numB 11 f.id := rfl
  have hw : frWidth f = if f.ext then 29 else 11 := rfl
  have HPRE := Lib.hid hpre; have HIDB := Lib.hid hidb
  have hV : frVals f = #[.int .u32 f.id, .bool f.ext, .bool f.remote, .int .i64 f.dlc, .string f.data] := rfl
  have HV := Lib.hid hV
  clear hpre hidb hV
  have hI0 : HInv w f [] ((w.alloc (.cells (frVals f) 61)).alloc (.cells #[.pointer none, .slice none 0 0] 91)) :=
    ⟨(Blk.new' rfl).alloc _, by have := Wr.new 91 w.heap.size (w.alloc (.cells (frVals f) 61)) (by simp); simpa using this, bAlloc (bAlloc (Below.refl _ _) _) _⟩
  rw [HV.out] at hI0
  rw [HV.out]
  have HI := Lib.hid hI0
  clear hI0
  cases hext : f.ext
  all_goals
    rw [hext] at HI HIDB hw
    have hid29 : f.id < 536870912 := by rw [hw] at hid; first | exact hid | exact Nat.lt_trans hid (by decide)
    have hid11 : f.ext = false → f.id < 2048 := by intro h; rw [hw] at hid; first | exact hid | (rw [hext] at h; cases h)
    first | (replace hid11 := hid11 hext) | skip
    clear hid hw
    have hlow := idLow f.id hid29
    go_enter Tryd.func30, Tryd.ntmps30
    go_wp2_with (first
      | (go_at_call 41; refine (wTruth_any _ _ _ _ _ HI.out.wr (by simp [length_numB]) HI.out.size).mono ?_; rintro e w1 ⟨rfl, h1, h2, h3⟩; replace HI := Lib.hid (HI.out.step h1 h2 h3); (try clear c0 c1 c2 c3 c4); have c0 := HI.out.box.cell 0; have c1 := HI.out.box.cell 1; have c2 := HI.out.box.cell 2; have c3 := HI.out.box.cell 3; have c4 := HI.out.box.cell 4; rw [HV.out] at c0 c1 c2 c3 c4; clear h1 h2 h3)
      | (go_at_call 43; rw [two_true]; refine (wrWrite_any _ liesB_writer _ _ _ _ _ HI.out.wr (by simp [length_numB]) HI.out.size).mono ?_; rintro e w1 ⟨rfl, h1, h2, h3⟩; replace HI := Lib.hid (HI.out.step h1 h2 h3); (try clear c0 c1 c2 c3 c4); have c0 := HI.out.box.cell 0; have c1 := HI.out.box.cell 1; have c2 := HI.out.box.cell 2; have c3 := HI.out.box.cell 3; have c4 := HI.out.box.cell 4; rw [HV.out] at c0 c1 c2 c3 c4; clear h1 h2 h3)
      | (go_at_call 43; rw [two_false]; refine (wrWrite_any _ liesB_writer _ _ _ _ _ HI.out.wr (by simp [length_numB]) HI.out.size).mono ?_; rintro e w1 ⟨rfl, h1, h2, h3⟩; replace HI := Lib.hid (HI.out.step h1 h2 h3); (try clear c0 c1 c2 c3 c4); have c0 := HI.out.box.cell 0; have c1 := HI.out.box.cell 1; have c2 := HI.out.box.cell 2; have c3 := HI.out.box.cell 3; have c4 := HI.out.box.cell 4; rw [HV.out] at c0 c1 c2 c3 c4; clear h1 h2 h3)
      | (go_at_call 42; refine (wNumber_any _ _ _ _ _ _ HI.out.wr (by simp [length_numB]) HI.out.size (by omega) (by omega) (by omega) (by simp; omega)).mono ?_; rintro e w1 ⟨rfl, h1, h2, h3⟩; replace HI := Lib.hid (HI.out.step h1 h2 h3); (try clear c0 c1 c2 c3 c4); have c0 := HI.out.box.cell 0; have c1 := HI.out.box.cell 1; have c2 := HI.out.box.cell 2; have c3 := HI.out.box.cell 3; have c4 := HI.out.box.cell 4; rw [HV.out] at c0 c1 c2 c3 c4; clear h1 h2 h3))
    replace HI : Hid (HInv w f (headTake f 0) w1) := by
      have h := HI.out
      refine Lib.hid ?_
      rw [HHZ.out, HPRE.out, HIDB.out]
      have e1 : ((f.id : Int) / 262144).toNat = f.id / 262144 := by omega
      have e2 : ((f.id : Int) % 262144).toNat = f.id % 262144 := by omega
      simpa [e1, e2, List.append_assoc] using h
    have hin := HI.out.size
    go_loopw [48] (fun i wr => ∃ k : Nat, k ≤ f.data.size ∧ i = .int .i64 k ∧ HInv w f (headTake f k) wr) (fun i _ => f.data.size - (intOf i).toNat)
    case atStart => exact ⟨0, Nat.zero_le _, rfl, HI.out⟩
    case round =>
      clear HI c0 c1 c2 c3 c4 hin
      obtain ⟨k, hk, rfl, hi⟩ := hrel
      have hin := hi.size
      have c4 := hi.box.cell 4
      rw [HV.out] at c4
      have hlen := HHL.out k
      by_cases hlt : k < f.data.size
      · have hby : ((f.data[k]'hlt).toNat : Int) < 256 := by have := UInt8.toNat_lt (f.data[k]'hlt); omega
        have HS := Lib.hid (HHT.out k (by rw [Array.length_toList]; exact hlt))
        have He : Hid (f.data.data.toList[k]'(by rw [Array.length_toList]; exact hlt) = f.data[k]'hlt) := rfl
        have HI := Lib.hid hi; clear hi
        go_wp2_with (go_at_call 42; refine (wNumber_any _ _ _ _ _ _ HI.out.wr (by omega) hin (by omega) (by omega) (by omega) (by simp; omega)).mono ?_; rintro e w2 ⟨rfl, h1, h2, h3⟩; replace HI := Lib.hid (HI.out.step h1 h2 h3); clear h1 h2 h3)
        go_roundw
        case rel => exact ⟨k + 1, by omega, by go_num, by rw [HS.out, He.out]; exact HI.out⟩
        case measure => simp [intOf]; omega
      · have hkk : k = f.data.size := by omega
        have hne : headBits f ≠ [] := by unfold headBits headPre; simp
        have HI : Hid (HInv w f (headBits f) wr) := by
          refine Lib.hid ?_
          rw [← HHA.out, ← hkk]; exact hi
        clear hi hkk
        have Hne := Lib.hid hne; clear hne
        go_wp2_with (go_at_call 44; refine (wrString_any _ _ _ _ _ HI.out.wr Hne.out).mono ?_; rintro e w2 ⟨rfl, h1, h2, h3⟩)
        go_ret
        exact ⟨rfl, HI.out.below.trans h2⟩

theorem length_headBits (f : Fr) (h : f.data.size ≤ 8) : (headBits f).length ≤ 103 := by
  rw [← headTake_all f 8 (by rw [Array.length_toList]; exact h)]
  exact length_headTake f 8
def frBody (f : Fr) : List Bool := headBits f ++ numB 15 (crcOf (headBits f))
def frTail : List Bool := List.replicate 10 true
def frBits (f : Fr) : List Bool := (stuffF (frBody f)).2 ++ frTail
theorem frData_le {f : Fr} (hf : frRight f = true) : f.data.size ≤ 8 := by
  obtain ⟨_, hd0, hd8, hdata⟩ := frRight_parts hf
  unfold frNeed at hdata; split at hdata <;> omega
theorem length_frBody {f : Fr} (hf : frRight f = true) : (frBody f).length ≤ 118 := by
  have := length_headBits f (frData_le hf)
  unfold frBody
  rw [List.length_append, length_numB]
  omega

set_option maxHeartbeats 1000000 in
theorem fBits_any (f : Fr) (w : World) (hf : frRight f = true) : Calls Tryd.prog 19 #[.agg (frVals f)] w fun e w' => e = .returned (.tuple #[.string (bstr (frBits f)), .int .i64 0]) ∧ Below w.heap.size w w' := by
  have hR := fun w => fRight_any f w
  have hH := fun w => fHead_any f w hf
  have hL := length_headBits f (frData_le hf)
  have hC := fun w => cFrame_any (headBits f) w (by omega)
  have hB := length_frBody hf
  have hS := fun w => sStuff_any (frBody f) w (by omega)
  have hS2 := (stuffF_okAll (frBody f)).2
  have hsz : (bstr (stuffF (frBody f)).2).size ≤ 1000 := by rw [size_bstr]; omega
  have hA : bstr (stuffF (frBody f)).2 ++ ⟨#[49, 49, 49, 49, 49, 49, 49, 49, 49, 49]⟩ = bstr (frBits f) := by
    rw [show (⟨#[49, 49, 49, 49, 49, 49, 49, 49, 49, 49]⟩ : ByteArray) = bstr frTail from rfl, bstr_append]; rfl
  have hb : headBits f ++ numB 15 (crcOf (headBits f)) = frBody f := rfl
  rw [hb] at hC
  rw [hf] at hR
  have HR := Lib.hid hR; have HH := Lib.hid hH; have HC := Lib.hid hC; have HS := Lib.hid hS; have HA := Lib.hid hA
  clear hR hH hC hS hA hb hf hL hB hS2
  generalize (frBits f) = z at *
  generalize (stuffF (frBody f)).2 = y at *
  generalize headBits f = x at *
  generalize frBody f = u at *
  have hV : ∃ a b c d e, frVals f = #[.int .u32 a, .bool b, .bool c, .int .i64 d, .string e] := ⟨_, _, _, _, _, rfl⟩
  obtain ⟨a, b, c, d, e, hV⟩ := hV
  rw [hV] at HR HH ⊢
  clear hV
  go_enter Tryd.func19, Tryd.ntmps19
  go_wp2_with (first
    | (go_at_call 28; refine (HR.out _).mono ?_; rintro e w1 ⟨rfl, hb1⟩; have hk := (Blk.new' rfl : Blk (w.alloc (.cells #[.int .u32 a, .bool b, .bool c, .int .i64 d, .string e] 61)) w.heap.size 61 _).belowS hb1; have c0 := hk.cell 0; have c1 := hk.cell 1; have c2 := hk.cell 2; have c3 := hk.cell 3; have c4 := hk.cell 4)
    | (go_at_call 30; refine (HH.out _).mono ?_; rintro e w2 ⟨rfl, hb2⟩)
    | (go_at_call 29; refine (HC.out _).mono ?_; rintro e w3 ⟨rfl, hb3⟩)
    | (go_at_call 31; refine (HS.out _).mono ?_; rintro e w4 ⟨rfl, hb4⟩))
  go_ret2
  exact ⟨congrArg (fun x => Ending.returned (.tuple #[.string x, .int .i64 0])) HA.out, below_then2 (below_then2 (below_then2 (below_then2 (bAlloc (Below.refl _ _) _) hb1) hb2) hb3) hb4⟩

set_option maxHeartbeats 1000000 in
theorem fBits_bad (f : Fr) (w : World) (hf : frRight f = false) : Calls Tryd.prog 19 #[.agg (frVals f)] w fun e w' => e = .returned (.tuple #[.string ⟨#[]⟩, .int .i64 1]) ∧ Below w.heap.size w w' := by
  have hR := fun w => fRight_any f w
  rw [hf] at hR
  have HR := Lib.hid hR
  clear hR hf
  have hV : ∃ a b c d e, frVals f = #[.int .u32 a, .bool b, .bool c, .int .i64 d, .string e] := ⟨_, _, _, _, _, rfl⟩
  obtain ⟨a, b, c, d, e, hV⟩ := hV
  rw [hV] at HR ⊢
  clear hV
  go_enter Tryd.func19, Tryd.ntmps19
  go_wp2_with (go_at_call 28; refine (HR.out _).mono ?_; rintro e w1 ⟨rfl, hb1⟩)
  go_ret2
  exact ⟨rfl, below_then2 (bAlloc (Below.refl _ _) _) hb1⟩
end Go.Proofs.YtokaaniimakfjaaDoor
