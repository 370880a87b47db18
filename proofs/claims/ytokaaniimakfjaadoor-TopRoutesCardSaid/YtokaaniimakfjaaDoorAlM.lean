/- frame.Parse at a row that is a frame's. -/
import Derived.Test.YtokaaniimakfjaaDoorAlL
set_option linter.unusedSimpArgs false
set_option linter.unusedVariables false
namespace Go.Proofs.YtokaaniimakfjaaDoor
open Go.RowKit

set_option maxHeartbeats 1000000 in
set_option maxRecDepth 100000 in
theorem fParse_any (S T H : List Bool) (n : Nat) (w : World) (hl : S.length ≤ 4000) (hS : stuffedF S = (T, n, 0)) (hT : T.length ≤ 4000) (hn : n + 10 = S.length) (htl : cut S n 10 = frTail) (hg : crcGood T = true) (hH : cut T 0 (T.length - 15) = H) (hT15 : 15 ≤ T.length)
    (hz : sizeF H = (H.length, 0)) (hr : frRight (readF H) = true) (hh : headBits (readF H) = H) :
    Calls Tryd.prog 20 #[.string (bstr S)] w fun e w' => e = .returned (.tuple #[.agg (frVals (readF H)), .int .i64 (n + 10 : Nat), .int .i64 0]) ∧ Below w.heap.size w w' := by
  have hR := fun w => bRight_any S w hl
  have hSt := fun w => fStuffed_any S w hl
  rw [hS] at hSt
  have hC := fun w => cCheck_any T w hT
  rw [hg] at hC
  have hHl : H.length ≤ 4000 := by rw [← hH]; unfold cut; simp; omega
  have hRd := fun w => fRead_any H w hHl hz hr hh
  have hb : ∀ i, i < 10 → ∀ h : n + i < (bstr S).size, (((bstr S)[n + i]'h).toNat : Int) = 49 := by
    intro i hi h
    rw [bstr_at S (n + i) h]
    have h1 : (cut S n 10).getD i false = frTail.getD i false := by rw [htl]
    have h2 : (cut S n 10).getD i false = bitAt S (n + i) := by
      unfold cut bitAt
      rw [List.getD_eq_getElem?_getD, List.getD_eq_getElem?_getD, List.getElem?_take_of_lt hi, List.getElem?_drop]
    have h3 : frTail.getD i false = true := by
      unfold frTail
      rw [List.getD_eq_getElem?_getD, List.getElem?_replicate, if_pos hi]; rfl
    rw [← h2, h1, h3]; rfl
  have hex := bstr_extract T 0 (T.length - 15)
  rw [hH, Nat.zero_add] at hex
  have hsS : (bstr S).size = S.length := size_bstr S
  have hsT : (bstr T).size = T.length := size_bstr T
  have HR := Lib.hid hR; have HSt := Lib.hid hSt; have HC := Lib.hid hC; have HRd := Lib.hid hRd; have HB := Lib.hid hb; have HEX := Lib.hid hex
  clear hR hSt hC hRd hb hex hS hz hr hh htl hg hH
  have hV : ∃ a b c d e, frVals (readF H) = #[.int .u32 a, .bool b, .bool c, .int .i64 d, .string e] := ⟨_, _, _, _, _, rfl⟩
  obtain ⟨v0, v1, v2, v3, v4, hV⟩ := hV
  rw [hV] at HRd ⊢
  clear hV
  generalize hs : bstr S = s at *
  generalize ht : bstr T = t at *
  have hns : n + 10 = s.size := by omega
  have hts : T.length - 15 = t.size - 15 := by omega
  rw [hts] at HEX
  have ht15 : 15 ≤ t.size := by omega
  have ht4 : t.size ≤ 4000 := by omega
  have hs4 : s.size ≤ 4000 := by omega
  have hn10 : n + 10 ≤ s.size := by omega
  have HNS := Lib.hid hns
  clear hs ht hsS hsT hns hts hn hl hT hT15 hHl
  simp only at HSt
  go_enter Tryd.func20, Tryd.ntmps20
  go_wp2_with (first
    | (go_at_call 32; refine (HR.out _).mono ?_; rintro e w1 ⟨rfl, hb1⟩; have hr1 := Lib.hid ((Blk.new' rfl : Blk (w.alloc (.cells zFr 61)) w.heap.size 61 zFr).belowS hb1))
    | (go_at_call 34; refine (HSt.out _).mono ?_; rintro e w2 ⟨rfl, hb2⟩; have hr2 := Lib.hid (hr1.out.belowS hb2))
    | (go_at_call 35; refine (HC.out _).mono ?_; rintro e w3 ⟨rfl, hb3⟩; have hr3 := Lib.hid (hr2.out.belowS hb3)))
  have hB3 := below_then2 (below_then2 (below_then2 (bAlloc (Below.refl _ w) (.cells zFr 61)) hb1) hb2) hb3
  have HB3 := Lib.hid hB3
  clear hB3 hb1 hb2 hb3 hr1 hr2 HR HSt HC
  go_loopw [39] (fun s39 wr => ∃ k : Nat, k ≤ 10 ∧ s39 = .int .i64 (k : Nat) ∧ Below w.heap.size w wr ∧ Blk wr w.heap.size 61 zFr) (fun s39 _ => 10 - (intOf s39).toNat)
  case atStart => exact ⟨0, by omega, rfl, HB3.out, hr3.out⟩
  case round =>
    clear HB3 hr3
    obtain ⟨k, hk, rfl, hbk, hrk⟩ := hrel
    have HBk := Lib.hid hbk
    have HRk := Lib.hid hrk
    clear hbk hrk
    by_cases hlt : k < 10
    · have hnk : n + k < s.size := by omega
      have hbk := HB.out k hlt hnk
      have hbk' : s[n + k].toNat = 49 := by omega
      have h49 : ∀ i, i < 10 → ∀ h : i < (⟨#[49, 49, 49, 49, 49, 49, 49, 49, 49, 49]⟩ : ByteArray).size, (((⟨#[49, 49, 49, 49, 49, 49, 49, 49, 49, 49]⟩ : ByteArray)[i]'h).toNat : Int) = 49 := by decide
      have h49k := h49 k hlt hlt
      have hz10 : (⟨#[49, 49, 49, 49, 49, 49, 49, 49, 49, 49]⟩ : ByteArray).size = 10 := rfl
      clear h49
      have hlk : (0 : Int) ≤ (n : Int) + (k : Int) := by omega
      have hw1 : IntKind.i64.wrap ((n : Int) + (k : Int)) = ((n + k : Nat) : Int) := by rw [IntWalk.i64_in] <;> omega
      by_cases h1 : k = 1
      · subst h1
        go_wp2
        go_quiet (fail)
        go_wp2
        go_roundw
        case rel => exact ⟨2, by omega, by go_num, below_drewN HBk.out _, HRk.out.drewN _⟩
        case measure => simp [intOf]
      · have h1b : ((k : Int) == 1) = false := by simp; omega
        have h1c : ¬ ((k : Int) = 1) := by omega
        have hk0 : (0 : Int) ≤ (k : Int) := by omega
        have hk10 : (k : Int) < 10 := by omega
        have hnkI : (n : Int) + (k : Int) < s.size := by omega
        have hnkT : ((n : Int) + (k : Int)).toNat = n + k := by omega
        have hbkB : (((s[((n : Int) + (k : Int)).toNat]'(by omega)).toNat : Int) != 49) = false := by
          simp only [hnkT, hbk]; rfl
        go_wp2
        go_quiet (fail)
        go_wp2
        go_roundw
        case rel => exact ⟨k + 1, by omega, by go_num, below_drewN HBk.out _, HRk.out.drewN _⟩
        case measure => simp [intOf]; omega
    · have hk10 : k = 10 := by omega
      subst hk10
      have hlt0 : (0 : Int) ≤ (t.size : Int) - 15 := by omega
      have hlt1 : ((t.size : Int) - 15).toNat = t.size - 15 := by omega
      have hlt2 : (t.size : Int) - 15 ≤ (t.size : Int) := by omega
      have hwt : IntKind.i64.wrap ((t.size : Int) - 15) = (t.size : Int) - 15 := by rw [IntWalk.i64_in] <;> omega
      have hwn : IntKind.i64.wrap ((n : Int) + 10) = ((n + 10 : Nat) : Int) := by rw [IntWalk.i64_in] <;> omega
      go_wp2_with (first
        | (go_at_call 36; rw [HEX.out]; refine (HRd.out _).mono ?_; rintro e w4 ⟨rfl, hb4⟩; have HB4 := Lib.hid (bAlloc (below_then2 HBk.out hb4) (.cells #[.int .u32 v0, .bool v1, .bool v2, .int .i64 v3, .string v4] 61)); have HR4 := Lib.hid ((HRk.out.belowS hb4).alloc (.cells #[.int .u32 v0, .bool v1, .bool v2, .int .i64 v3, .string v4] 61)); have p0 := HR4.out.cell 0; have p1 := HR4.out.cell 1; have p2 := HR4.out.cell 2; have p3 := HR4.out.cell 3; have p4 := HR4.out.cell 4; have q0 := HR4.out.frozen 0; have q1 := HR4.out.frozen 1; have q2 := HR4.out.frozen 2; have q3 := HR4.out.frozen 3; have q4 := HR4.out.frozen 4; clear hb4))
      have hres := Lib.hid (((((HR4.out.set_ 0 (.int .u32 v0)).set_ 1 (.bool v1)).set_ 2 (.bool v2)).set_ 3 (.int .i64 v3)).set_ 4 (.string v4))
      have hbel := Lib.hid (((((HB4.out.setCell (p := ⟨w.heap.size, 0, none⟩) (by simp) (.int .u32 v0)).setCell (p := ⟨w.heap.size, 1, none⟩) (by simp) (.bool v1)).setCell (p := ⟨w.heap.size, 2, none⟩) (by simp) (.bool v2)).setCell (p := ⟨w.heap.size, 3, none⟩) (by simp) (.int .i64 v3)).setCell (p := ⟨w.heap.size, 4, none⟩) (by simp) (.string v4))
      generalize (((((w4.alloc _).setCell _ _).setCell _ _).setCell _ _).setCell _ _).setCell _ _ = w9 at hres hbel ⊢
      have c0 := hres.out.cell 0
      have c1 := hres.out.cell 1
      have c2 := hres.out.cell 2
      have c3 := hres.out.cell 3
      have c4 := hres.out.cell 4
      exact bodyPost_ret (v := .tuple #[.agg #[.int .u32 v0, .bool v1, .bool v2, .int .i64 v3, .string v4], .int .i64 (n + 10 : Nat), .int .i64 0]) (by simp [results, Tryd.results20, go_sem, c0, c1, c2, c3, c4]) rfl ⟨rfl, hbel.out⟩
end Go.Proofs.YtokaaniimakfjaaDoor
