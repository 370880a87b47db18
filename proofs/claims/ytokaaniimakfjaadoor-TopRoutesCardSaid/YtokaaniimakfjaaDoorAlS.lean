/- pdur.Right. -/
import Derived.Test.YtokaaniimakfjaaDoorAlR
set_option linter.unusedSimpArgs false
set_option linter.unusedVariables false
set_option linter.unusedSectionVars false
namespace Go.Proofs.YtokaaniimakfjaaDoor
open Go.RowKit

/-- what a router's paths are, wherever the law's router is. -/
structure PsOk (ps : List Pth) : Prop where
  len : ps.length ≤ 6
  ok : ∀ p ∈ ps, p.ok
  apart : ∀ i j (hi : i < ps.length) (hj : j < ps.length), i < j → (ps[i].fr == ps[j].fr && ps[i].to == ps[j].to) = false

/-- the box of a router, in a call. -/
structure RBox (w0 : World) (cs : Array Value) (W : World) : Prop where
  box : Blk W w0.heap.size 26 cs
  below : Below w0.heap.size w0 W
theorem RBox.step {w0 W W' : World} {cs : Array Value} (h : RBox w0 cs W) (hb : Below W.heap.size W W') : RBox w0 cs W' := ⟨h.box.belowS hb, below_then2 h.below hb⟩
theorem RBox.alloc {w0 W : World} {cs : Array Value} (h : RBox w0 cs W) (o : Obj) : RBox w0 cs (W.alloc o) := h.step (bAlloc (Below.refl _ _) o)

set_option maxHeartbeats 4000000 in
set_option maxRecDepth 100000 in
theorem pRight_any (w : World) (A B : Option Addr) (n c cb : Nat) (ps : List Pth) (hP : PathsAt w A ps) (hl : ps.length = n) (hok : PsOk ps) (hcn : n ≤ c) :
    Calls Tryd.prog 9 #[.agg #[.slice A n c, .slice B 3 cb]] w fun e w' => e = .returned (.bool true) ∧ Below w.heap.size w w' := by
  obtain ⟨ivs, hP⟩ := hP
  have HP := Lib.hid hP
  have HL := Lib.hid hl
  have hn : n ≤ 6 := by rw [← hl]; exact hok.len
  have HOK := Lib.hid hok
  have hI : RBox w #[.slice A n c, .slice B 3 cb] (w.alloc (.cells #[.slice A n c, .slice B 3 cb] 26)) := ⟨Blk.new' rfl, bAlloc (Below.refl _ _) _⟩
  have HI := Lib.hid hI
  have hnI : (n : Int) ≤ 16 := by omega
  clear hP hl hok hI
  go_enter Tryd.func9, Tryd.ntmps9
  go_wp2
  go_loopw [26] (fun s wr => ∃ k : Nat, k ≤ n ∧ s = .int .i64 (k : Nat) ∧ RBox w #[.slice A n c, .slice B 3 cb] wr) (fun s _ => n - (intOf s).toNat)
  case atStart => exact ⟨0, by omega, rfl, HI.out⟩
  case round =>
    clear HI
    obtain ⟨k, hk, rfl, hI⟩ := hrel
    have HI := Lib.hid hI
    have HBk := Lib.hid hI.below
    clear hI
    by_cases hlt : k < n
    · have hkl : k < ps.length := by rw [HL.out]; exact hlt
      obtain ⟨g1, o1, hA⟩ := HP.out.isSome k hkl
      subst hA
      have hP' := HP.out.keeps (keeps_below HBk.out) (keeps_below HBk.out)
      have hok1 := HOK.out.ok _ (List.getElem_mem hkl)
      have hit := hP'.item k hkl (by rw [hP'.len]; exact hkl)
      have hno : ∀ q ∈ ps.take k, (q.fr == ps[k].fr && q.to == ps[k].to) = false := by
        intro q hq
        obtain ⟨j, hj, rfl⟩ := List.mem_iff_getElem.1 hq
        rw [List.length_take] at hj
        rw [List.getElem_take]
        exact HOK.out.apart j k (by omega) hkl (by omega)
      have e0 := hP'.cell k 0 hkl (by decide)
      have e1 := hP'.cell k 1 hkl (by decide)
      have e2 := hP'.cell k 2 hkl (by decide)
      have e3 := hP'.cell k 3 hkl (by decide)
      have e4 := hP'.cell k 4 hkl (by decide)
      have e5 := hP'.cell k 5 hkl (by decide)
      rw [Nat.add_zero] at e0
      have hkI : (k : Int) < n := by omega
      have hk0 : (0 : Int) ≤ k := by omega
      have hkc : (k : Int) ≤ c := by omega
      have HTK := Lib.hid (hP'.take_ k)
      have hlk : (ps.take k).length = k := by rw [List.length_take]; omega
      generalize (ivs[k]'(by rw [HP.out.len]; exact hkl)) = iv at e0 e1 e2 e3 e4 e5 hit
      generalize ps[k] = q at e0 e1 e2 e3 e4 e5 hok1 hno hit
      obtain ⟨qf, qt, qs, qi, qc, qb⟩ := q
      obtain ⟨o1f, o1t, o1s, oc1, oc3, ol, osz⟩ := hok1
      simp only at o1f o1t o1s oc1 oc3 ol osz hno hit
      simp only [pcells] at e0 e1 e2 e3 e4 e5
      have j0 : (0 : Int) ≤ qf := by omega
      have j1 : (qf : Int) ≤ 1000000 := by omega
      have j2 : (0 : Int) ≤ qt := by omega
      have j3 : (qt : Int) ≤ 1000000 := by omega
      have j4 : (0 : Int) ≤ qs := by omega
      have j5 : (qs : Int) < 3 := by omega
      have HG := Lib.hid (fun w => rgRight_any w iv.1 qi.length iv.2 qc qb oc1 (by omega) ol)
      have HF := Lib.hid (fun w h => cfStrs_any w iv.1 iv.2 qi h (by omega) osz)
      have HC := Lib.hid (fun w h h0 h1 => cfPaths_any w (some ⟨g1, o1, none⟩) k c wr.heap.size qf qt (ps.take k) h hlk (by omega) h0 h1 hno)
      have HIT := Lib.hid hit.2
      have HBX := Lib.hid (Blk.new wr 33 #[.int .i64 qf, .int .i64 qt, .int .i64 qs, .slice iv.1 qi.length iv.2, .int .i64 qc, .bool qb])
      have HI1 := Lib.hid (HI.out.alloc (.cells #[.int .i64 qf, .int .i64 qt, .int .i64 qs, .slice iv.1 qi.length iv.2, .int .i64 qc, .bool qb] 33))
      have HBA := Lib.hid (bAlloc (Below.refl _ wr) (.cells #[.int .i64 qf, .int .i64 qt, .int .i64 qs, .slice iv.1 qi.length iv.2, .int .i64 qc, .bool qb] 33))
      have b0 := HI1.out.box.cell 0
      have b1 := HI1.out.box.cell 1
      have r0 := HI.out.box.cell 0
      have r1 := HI.out.box.cell 1
      clear hno hit hkl hlk hP' osz o1f o1t o1s oc1 oc3 ol HI HOK
      go_wp2_with (first
        | (go_at_call 23; refine (HG.out _).mono ?_; rintro e w1 ⟨rfl, hb1⟩; replace HI1 := Lib.hid (HI1.out.step hb1); replace HBX := Lib.hid (HBX.out.belowS hb1); replace HBA := Lib.hid (below_then2 HBA.out hb1); clear hb1 b0 b1; have b0 := HI1.out.box.cell 0; have b1 := HI1.out.box.cell 1; have x0 := HBX.out.cell 0; have x1 := HBX.out.cell 1; have x2 := HBX.out.cell 2; have x3 := HBX.out.cell 3; have x4 := HBX.out.cell 4; have x5 := HBX.out.cell 5)
        | (go_at_call 24; refine (HF.out _ (HIT.out.below HBA.out)).mono ?_; rintro e w2 ⟨rfl, hb2⟩; replace HI1 := Lib.hid (HI1.out.step hb2); replace HBX := Lib.hid (HBX.out.belowS hb2); replace HBA := Lib.hid (below_then2 HBA.out hb2); clear hb2 b0 b1 x0 x1 x2 x3 x4 x5; have b0 := HI1.out.box.cell 0; have b1 := HI1.out.box.cell 1)
        | (go_at_call 25; refine (HC.out _ (HTK.out.below HBA.out) (HBX.out.cell 0) (HBX.out.cell 1)).mono ?_; rintro e w3 ⟨rfl, hb3⟩; replace HI1 := Lib.hid (HI1.out.step hb3); clear hb3 b0 b1))
      go_roundw
      case rel => exact ⟨k + 1, by omega, by go_num, HI1.out⟩
      case measure => simp [intOf]; omega
    · have hk1 : k = n := by omega
      subst hk1
      go_wp2
      go_ret
      exact ⟨rfl, HBk.out⟩
end Go.Proofs.YtokaaniimakfjaaDoor
