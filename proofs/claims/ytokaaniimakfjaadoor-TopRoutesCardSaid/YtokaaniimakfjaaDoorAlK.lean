/- frame.Read. -/
import Derived.Test.YtokaaniimakfjaaDoorAlJ
import Derived.Deep.RegionHeld3
import Derived.Deep.DeepCutAuto
set_option linter.unusedSimpArgs false
set_option linter.unusedVariables false
namespace Go.Proofs.YtokaaniimakfjaaDoor
open Go.RowKit

set_option maxHeartbeats 400000 in
theorem fRead1_any (l : List Bool) (i m : Int) (g : Nat) (w : World) (hg : Blk w g 9 #[.string (bstr l)]) (h0 : 0 ≤ i) (hm0 : 0 ≤ m) (hm : m ≤ 64) (hi : i + m ≤ l.length) (hl : l.length ≤ 4000) :
    Calls Tryd.prog 53 #[.int .i64 i, .int .i64 m, .pointer (some ⟨g, 0, none⟩)] w fun e w' => e = .returned (.int .u64 (numOf (cut l i.toNat m.toNat) : Nat)) ∧ Blk w' g 9 #[.string (bstr l)] ∧ Below w.heap.size w w' := by
  obtain ⟨i, rfl⟩ := Int.eq_ofNat_of_zero_le h0
  obtain ⟨m, rfl⟩ := Int.eq_ofNat_of_zero_le hm0
  simp only [Int.toNat_natCast]
  have hsz : (bstr l).size = l.length := size_bstr l
  have hN := fun w => bNumber_any (cut l i m) w (by rw [length_cut l i m (by omega)]; omega)
  have hE := bstr_extract l i m
  have HN := Lib.hid hN; have HE := Lib.hid hE
  clear hN hE
  have hc := hg.cell 0
  have Hg := Lib.hid hg
  clear hg
  obtain ⟨t, ht⟩ : ∃ t, t = bstr l := ⟨_, rfl⟩
  rw [← ht] at hsz HE hc Hg ⊢
  clear ht
  generalize numOf (cut l i m) = n at *
  have hts : i + m ≤ t.size := by omega
  have hts2 : t.size ≤ 4000 := by omega
  clear hsz
  go_enter Tryd.func53, Tryd.ntmps53
  go_wp2_with (go_at_call 54; rw [HE.out]; refine (HN.out _).mono ?_; rintro e w2 ⟨rfl, hb2⟩)
  go_ret
  exact ⟨rfl, Hg.out.belowS hb2, hb2⟩

structure RInv (w0 : World) (t : ByteArray) (b : Nat) (fr : Array Value) (W : World) : Prop where
  box : Blk W w0.heap.size 9 #[.string t]
  res : Blk W (w0.heap.size + 1) 61 #[.int .u32 0, .bool false, .bool false, .int .i64 0, .string ⟨#[]⟩]
  fb : Blk W b 61 fr
  ge : w0.heap.size + 2 ≤ b
  below : Below w0.heap.size w0 W

abbrev zFr : Array Value := #[.int .u32 0, .bool false, .bool false, .int .i64 0, .string ⟨#[]⟩]
theorem rinv_new {w0 w1 w2 : World} {t : ByteArray} {fr : Array Value} (hb : Below w0.heap.size w0 w1) (hz : w0.heap.size + 2 ≤ w1.heap.size) (h1 : Blk w1 w0.heap.size 9 #[.string t]) (h2 : Blk w1 (w0.heap.size + 1) 61 zFr) (h3 : Below w1.drew.heap.size w1.drew w2) :
    RInv w0 t w2.heap.size fr (w2.alloc (.cells fr 61)) := by
  have h4 := below_of_drew h3
  exact ⟨(h1.belowS h4).alloc _, (h2.belowS h4).alloc _, Blk.new' rfl, Nat.le_trans hz h4.size, bAlloc (below_then2 hb h4) _⟩
theorem rinv_set {w0 w1 w2 : World} {t : ByteArray} {a0 a1 a2 a3 a4 b0 b1 b2 b3 b4 : Value} (hb : Below w0.heap.size w0 w1) (hz : w0.heap.size + 2 ≤ w1.heap.size) (h1 : Blk w1 w0.heap.size 9 #[.string t]) (h2 : Blk w1 (w0.heap.size + 1) 61 zFr)
    (h3 : Below (w1.alloc (.cells #[b0, b1, b2, b3, b4] 61)).drew.heap.size (w1.alloc (.cells #[b0, b1, b2, b3, b4] 61)).drew w2) :
    RInv w0 t w1.heap.size #[a0, a1, a2, a3, a4] (((((w2.setCell ⟨w1.heap.size, 0, none⟩ a0).setCell ⟨w1.heap.size, 1, none⟩ a1).setCell ⟨w1.heap.size, 2, none⟩ a2).setCell ⟨w1.heap.size, 3, none⟩ a3).setCell ⟨w1.heap.size, 4, none⟩ a4) := by
  have h4 := below_of_drew h3
  have e1 : w0.heap.size ≠ w1.heap.size := by omega
  have e2 : w0.heap.size + 1 ≠ w1.heap.size := by omega
  have hn := (Blk.new' rfl : Blk (w1.alloc (.cells #[b0, b1, b2, b3, b4] 61)) w1.heap.size 61 _).belowS h4
  have k1 := (h1.alloc (.cells #[b0, b1, b2, b3, b4] 61)).belowS h4
  have k2 := (h2.alloc (.cells #[b0, b1, b2, b3, b4] 61)).belowS h4
  have k3 := below_then2 (bAlloc hb (.cells #[b0, b1, b2, b3, b4] 61)) h4
  exact ⟨((((k1.far (p := ⟨w1.heap.size, 0, none⟩) e1 a0).far (p := ⟨w1.heap.size, 1, none⟩) e1 a1).far (p := ⟨w1.heap.size, 2, none⟩) e1 a2).far (p := ⟨w1.heap.size, 3, none⟩) e1 a3).far (p := ⟨w1.heap.size, 4, none⟩) e1 a4,
    ((((k2.far (p := ⟨w1.heap.size, 0, none⟩) e2 a0).far (p := ⟨w1.heap.size, 1, none⟩) e2 a1).far (p := ⟨w1.heap.size, 2, none⟩) e2 a2).far (p := ⟨w1.heap.size, 3, none⟩) e2 a3).far (p := ⟨w1.heap.size, 4, none⟩) e2 a4,
    ((((hn.set_ 0 a0).set_ 1 a1).set_ 2 a2).set_ 3 a3).set_ 4 a4, hz,
    ((((k3.setCell (p := ⟨w1.heap.size, 0, none⟩) hb.size a0).setCell (p := ⟨w1.heap.size, 1, none⟩) hb.size a1).setCell (p := ⟨w1.heap.size, 2, none⟩) hb.size a2).setCell (p := ⟨w1.heap.size, 3, none⟩) hb.size a3).setCell (p := ⟨w1.heap.size, 4, none⟩) hb.size a4⟩
theorem RInv.step {w0 w1 w2 : World} {t : ByteArray} {b : Nat} {fr : Array Value} (h : RInv w0 t b fr w1) (h2 : Below w1.heap.size w1 w2) : RInv w0 t b fr w2 :=
  ⟨h.box.belowS h2, h.res.belowS h2, h.fb.belowS h2, h.ge, below_then2 h.below h2⟩
theorem RInv.drew {w0 w1 : World} {t : ByteArray} {b : Nat} {fr : Array Value} (h : RInv w0 t b fr w1) : RInv w0 t b fr w1.drew :=
  ⟨h.box, h.res, h.fb, h.ge, h.below.drew⟩
theorem RInv.put {w0 w1 : World} {t : ByteArray} {b : Nat} {fr : Array Value} (h : RInv w0 t b fr w1) (i : Nat) (v : Value) : RInv w0 t b (fr.setIfInBounds i v) (w1.setCell ⟨b, i, none⟩ v) := by
  have hg := h.ge
  exact ⟨h.box.far (p := ⟨b, i, none⟩) (by simp; omega) v, h.res.far (p := ⟨b, i, none⟩) (by simp; omega) v, h.fb.set_ i v, hg, h.below.setCell (p := ⟨b, i, none⟩) (by simp; omega) v⟩
theorem RInv.grown {w0 w1 w2 : World} {t : ByteArray} {b : Nat} {fr : Array Value} {v : Value} {B n : Nat} {xs : List Value} (h : RInv w0 t b fr w1) (ho : w1.ownsRow B 5 1 v n xs) (hB : w0.heap.size ≤ B) (hg : w1.grownBy w2 v.ownBlock) : RInv w0 t b fr w2 :=
  ⟨h.box.grown hg (fun e => own_blk_ne ho h.box (by decide) e.symm), h.res.grown hg (fun e => own_blk_ne ho h.res (by decide) e.symm), h.fb.grown hg (fun e => own_blk_ne ho h.fb (by decide) e.symm), h.ge,
    h.below.grown hg h.below.size (fun k hk => Nat.le_trans hB (ho.lt k hk).1)⟩
theorem RInv.alloc {w0 w1 : World} {t : ByteArray} {b : Nat} {fr : Array Value} (h : RInv w0 t b fr w1) (o : Obj) : RInv w0 t b fr (w1.alloc o) := h.step (bAlloc (Below.refl _ _) o)
theorem hsz2 {w : World} {o1 o2 : Obj} {n : Nat} (h : ((w.alloc o1).alloc o2).heap.size ≤ n) : w.heap.size + 2 ≤ n := by simp at h; omega
set_option maxHeartbeats 1000000 in
set_option maxRecDepth 100000 in
theorem fRead_any (l : List Bool) (w : World) (hl : l.length ≤ 4000) (hs : sizeF l = (l.length, 0)) (hr : frRight (readF l) = true) (hh : headBits (readF l) = l) :
    Calls Tryd.prog 36 #[.string (bstr l)] w fun e w' => e = .returned (.tuple #[.agg (frVals (readF l)), .int .i64 0]) ∧ Below w.heap.size w w' := by
  have hRI := fun w => fRight_any (readF l) w
  have hHD := fun w => fHead_any (readF l) w hr
  rw [hr] at hRI
  rw [hh] at hHD
  have HRI := Lib.hid hRI; have HHD := Lib.hid hHD
  clear hRI hHD hr hh
  have hS := fun w => fSize_any l w hl
  rw [hs] at hS
  obtain ⟨s1, s2, s3, s4⟩ := sizeF_fits hs
  have hR1 := fun i m g w hg h0 hm0 hm hi => fRead1_any l i m g w hg h0 hm0 hm hi hl
  have HS := Lib.hid hS; have HR1 := Lib.hid hR1
  have Hs := Lib.hid hs
  clear hS hR1 hs
  have hb := fun i h => bstr_at l i h
  have hsz : (bstr l).size = l.length := size_bstr l
  have hbx : Blk (w.alloc (.cells #[.string (bstr l)] 9)) w.heap.size 9 #[.string (bstr l)] := Blk.new' rfl
  have HBX := Lib.hid hbx
  clear hbx
  obtain ⟨t, ht⟩ : ∃ t, t = bstr l := ⟨_, rfl⟩
  rw [← ht] at hsz hb HS HBX HR1 HHD ⊢
  have HT := Lib.hid ht
  clear ht
  have h13 : 13 < t.size := by omega
  have hb13 := hb 13 h13
  simp only at HS
  have hSZ := Lib.hid hsz
  have hls : ((t.size : Int) != t.size) = false := by simp
  obtain ⟨e13, he13⟩ : ∃ e, e = bitAt l 13 := ⟨_, rfl⟩
  have hE : (bitN e13 == 49) = e13 := bitN_is1 _
  rw [← he13] at hb13
  rw [show ((l.length : Nat) : Int) = (t.size : Int) by rw [hsz]] at HS
  have HB := Lib.hid hb
  have HE13 := Lib.hid he13
  clear hb he13
  have hn11 := numOf_lt (cut l 1 11)
  rw [length_cut l 1 11 (by omega)] at hn11
  have hwr : IntKind.u32.wrap ((numOf (cut l 1 11) : Nat) : Int) = ((numOf (cut l 1 11) : Nat) : Int) := by rw [IntKind.wrap_u32']; omega
  have h13i : (13 : Int) < (t.size : Int) := by omega
  have k1 : (0 : Int) ≤ 1 := by omega
  have k2 : (0 : Int) ≤ 11 := by omega
  have k3 : (11 : Int) ≤ 64 := by omega
  have k4 : (1 : Int) + 11 ≤ l.length := by omega
  go_enter Tryd.func36, Tryd.ntmps36
  go_upto_region 5 with (go_at_call 52; refine (HS.out _).mono ?_; rintro e w1 ⟨rfl, hb1⟩; have hk := ((HBX.out.alloc (.cells #[.int .u32 0, .bool false, .bool false, .int .i64 0, .string ⟨#[]⟩] 61)).belowS hb1); have c0 := hk.cell 0; have HK := Lib.hid hk; clear hk; have hs1 : w.heap.size + 2 ≤ w1.heap.size := hsz2 hb1.size; have hne1 : ¬ (w.heap.size = w1.heap.size) := (by omega); have hne2 : ¬ (w1.heap.size = w.heap.size) := (by omega); have hne3 : w.heap.size + 1 ≠ w1.heap.size := (by omega); have HB1 := Lib.hid (below_then2 (bAlloc (bAlloc (Below.refl _ _) _) _) hb1); have HRES := Lib.hid ((Blk.new' (by simp) : Blk ((w.alloc (.cells #[.string t] 9)).alloc (.cells #[.int .u32 0, .bool false, .bool false, .int .i64 0, .string ⟨#[]⟩] 61)) (w.heap.size + 1) 61 _).belowS hb1))
  go_cut [7] (fun s7 wx => ∃ b : Nat, s7 = .pointer (some ⟨b, 0, none⟩) ∧ RInv w t b #[.int .u32 (numOf (cut l 1 11) : Nat), .bool e13, .bool false, .int .i64 0, .string ⟨#[]⟩] wx)
  case first =>
    -- SEG
    go_region_held3 (fun w' => w'.cell? ⟨w.heap.size, 0, none⟩ = some (.string t)) (first | (with_reducible exact c0) | (with_reducible exact c1) | go_keep)
      (first
        | (go_at_call 53; (with_reducible refine (HR1.out 1 11 w.heap.size w1.drew (Blk.drew HK.out) k1 k2 k3 k4).mono ?_); rintro e w2 ⟨rfl, hk2, hb2⟩; have c1 := hk2.cell 0)
        | (go_at_call 53; (with_reducible refine (HR1.out 1 11 w.heap.size (w1.alloc (.cells #[.int .u32 0, .bool false, .bool false, .int .i64 0, .string ⟨#[]⟩] 61)).drew (Blk.drew (Blk.alloc HK.out _)) k1 k2 k3 k4).mono ?_); rintro e w2 ⟨rfl, hk2, hb2⟩; have c1 := hk2.cell 0; have hn := Blk.belowS (Blk.drew (Blk.new' (w := w1) (t := 61) (cs := #[.int .u32 0, .bool false, .bool false, .int .i64 0, .string ⟨#[]⟩]) rfl)) hb2; have n0 := hn.cell 0; have n1 := hn.cell 1; have n2 := hn.cell 2; have n3 := hn.cell 3; have n4 := hn.cell 4; have q0 := hn.frozen 0; have q1 := hn.frozen 1; have q2 := hn.frozen 2; have q3 := hn.frozen 3; have q4 := hn.frozen 4))
    all_goals
      go_wp2_with fail
      go_meet
      first
        | (with_reducible exact ⟨_, rfl, rinv_new HB1.out hs1 HK.out HRES.out hb2⟩)
        | exact ⟨w1.heap.size, rfl, rinv_set HB1.out hs1 HK.out HRES.out hb2⟩
    -- ENDSEG
  case rest =>
    obtain ⟨b, rfl, hR⟩ := hcut
    have f0 := hR.fb.cell 0
    have f1 := hR.fb.cell 1
    have q0 := hR.fb.frozen 0
    have cb := hR.box.cell 0
    have hge := hR.ge
    have HR := Lib.hid hR
    clear hR
    have hnb1 : ¬ (w.heap.size = b) := by omega
    have hnb2 : ¬ (b = w.heap.size) := by omega
    go_upto_if 33 with (fail)
    go_cut [8] (fun s8 wx => s8 = .int .i64 (rdAt l : Nat) ∧ RInv w t b #[.int .u32 (rdId l : Nat), .bool e13, .bool false, .int .i64 0, .string ⟨#[]⟩] wx)
    case first =>
      -- SEG
      cases he : e13
      · obtain ⟨hA, hI⟩ := rdAt_short (l := l) (by rw [← HE13.out, he])
        have HA := Lib.hid hA; have HI := Lib.hid hI; have HE := Lib.hid he
        clear hA hI he
        go_wp2
        go_meet
        rw [HA.out, HI.out]
        exact ⟨rfl, HR.out⟩
      · have hl13 : bitAt l 13 = true := by rw [← HE13.out, he]
        obtain ⟨hA, hI⟩ := rdAt_long hl13
        have h39 := s2 hl13
        have m1 : (0 : Int) ≤ 14 := by omega
        have m2 : (0 : Int) ≤ 18 := by omega
        have m3 : (18 : Int) ≤ 64 := by omega
        have m4 : (14 : Int) + 18 ≤ l.length := by omega
        have hn18 := numOf_lt (cut l 14 18)
        rw [length_cut l 14 18 (by omega)] at hn18
        have hw2 : IntKind.u32.wrap ((numOf (cut l 14 18) : Nat) : Int) = ((numOf (cut l 14 18) : Nat) : Int) := by rw [IntKind.wrap_u32']; omega
        have hw3 : IntKind.u32.wrap (((numOf (cut l 1 11) : Nat) : Int) * 262144) = ((numOf (cut l 1 11) : Nat) : Int) * 262144 := by rw [IntKind.wrap_u32']; omega
        have hor : bits BinOp.or IntKind.u32 (((numOf (cut l 1 11) : Nat) : Int) * 262144) ((numOf (cut l 14 18) : Nat) : Int) = ((rdId l : Nat) : Int) := by
          rw [hI, show (((numOf (cut l 1 11) : Nat) : Int) * 262144) = ((numOf (cut l 1 11) * 262144 : Nat) : Int) by simp, u32_or_nat _ _ (by omega) (by omega), nat_join 18 _ _ (by omega) (by omega)]
        have HI := Lib.hid hI
        have HA := Lib.hid hA
        clear hI hA
        go_wp2
        go_region_with (first | (go_at_call 53; (with_reducible refine (HR1.out 14 18 w.heap.size wc.drew (Blk.drew HR.out.box) m1 m2 m3 m4).mono ?_); rintro e w2 ⟨rfl, hk2, hb2⟩; have c1 := hk2.cell 0; have hfb := Blk.belowS (Blk.drew HR.out.fb) hb2; have n0 := hfb.cell 0; have r0 := hfb.frozen 0))
        all_goals
          go_wp2
          go_meet
          rw [HA.out]
          exact ⟨rfl, (HR.out.step (below_of_drew hb2)).put 0 _⟩
      -- ENDSEG
    case rest =>
      obtain ⟨rfl, hR2⟩ := hcut
      clear f0 f1 q0 cb hge HR hwr hn11 c0 HBX HRES HK HB1 hb1 hs1 hne1 hne2 hne3 k1 k2 k3 k4
      have hA12 : rdAt l = 12 ∨ rdAt l = 32 := by unfold rdAt; split <;> simp
      have hAl : rdAt l + 7 ≤ l.length := by omega
      have hAt : rdAt l < t.size := by omega
      have hbA := HB.out (rdAt l) hAt
      generalize hA : rdAt l = A at *
      have HA := Lib.hid hA
      clear hA
      have hE2 : (bitN (bitAt l A) == 49) = bitAt l A := bitN_is1 _
      have cb := hR2.box.cell 0
      have g2 := hR2.fb.cell 2
      have g3 := hR2.fb.cell 3
      have q2 := hR2.fb.frozen 2
      have q3 := hR2.fb.frozen 3
      have HR := Lib.hid hR2
      clear hR2
      have m1 : (0 : Int) ≤ (A : Int) + 3 := by omega
      have m2 : (0 : Int) ≤ 4 := by omega
      have m3 : (4 : Int) ≤ 64 := by omega
      have m4 : (A : Int) + 3 + 4 ≤ l.length := by omega
      have hAi : (A : Int) < (t.size : Int) := by omega
      have hwA : IntKind.i64.wrap ((A : Int) + 3) = (A : Int) + 3 := IntWalk.i64_in _ (by omega)
      obtain ⟨D, hD⟩ : ∃ D, D = numOf (cut l (A + 3) 4) := ⟨_, rfl⟩
      have hDlt := numOf_lt (cut l (A + 3) 4)
      rw [length_cut l (A + 3) 4 (by omega), ← hD] at hDlt
      have hwD : IntKind.i64.wrap (D : Int) = (D : Int) := IntWalk.i64_in _ (by omega)
      have HD := Lib.hid hD
      clear hD
      have hRA : ∀ w', Blk w' w.heap.size 9 #[.string t] → Calls Tryd.prog 53 #[.int .i64 ((A : Int) + 3), .int .i64 4, .pointer (some ⟨w.heap.size, 0, none⟩)] w' fun e w'' => e = .returned (.int .u64 (D : Nat)) ∧ Blk w'' w.heap.size 9 #[.string t] ∧ Below w'.heap.size w' w'' := fun w' hg => by
        have h := HR1.out ((A : Int) + 3) 4 w.heap.size w' hg m1 m2 m3 m4
        have e1 : ((A : Int) + 3).toNat = A + 3 := by omega
        rw [e1, show Int.toNat 4 = 4 from rfl, ← HD.out] at h
        exact h
      have HRA := Lib.hid hRA
      clear hRA m1 m2 m3 m4
      go_upto_region 10 with fail
      go_cut [] (fun wx => RInv w t b #[.int .u32 (rdId l : Nat), .bool e13, .bool (bitAt l A), .int .i64 D, .string ⟨#[]⟩] wx)
      case first =>
        -- SEG
        go_region_held3 (fun w' => w'.cell? ⟨w.heap.size, 0, none⟩ = some (.string t)) (first | (with_reducible exact cb) | (with_reducible exact c1) | go_keep)
          (first | (go_at_call 53; (with_reducible refine (HRA.out wc.drew (Blk.drew HR.out.box)).mono ?_); rintro e w2 ⟨rfl, hk2, hb2⟩; have c1 := hk2.cell 0; have hfb := Blk.belowS (Blk.drew HR.out.fb) hb2; have n2 := hfb.cell 2; have n3 := hfb.cell 3; have r2 := hfb.frozen 2; have r3 := hfb.frozen 3))
        all_goals
          go_wp2
          go_meet
          exact ((HR.out.drew.step hb2).put 2 _).put 3 _
        -- ENDSEG
      case rest =>
        clear g2 g3 q2 q3 cb HR HRA
        have hR3 := hcut
        have HR3 := Lib.hid hR3
        clear hR3 hcut
        go_wp2
        go_loopw [8, 9] (fun s8 s9 wr => ∃ k : Nat, k ≤ rdCount l ∧ s8 = .int .i64 ((A + 7 + 8 * k : Nat) : Int) ∧ wr.ownsRow w.heap.size 5 1 s9 k ((rdBytes l (A + 7) k).map (Value.int .u8)) ∧ RInv w t b #[.int .u32 (rdId l : Nat), .bool e13, .bool (bitAt l A), .int .i64 D, .string ⟨#[]⟩] wr) (fun s8 _ _ => t.size + 8 - (intOf s8).toNat)
        case atStart => exact ⟨0, Nat.zero_le _, by simp, World.ownsRow_nil _ _ _ _, HR3.out⟩
        case round =>
          clear HR3
          obtain ⟨k, hk, rfl, hown, hR⟩ := hrel
          have hzr : w.heap.size ≤ wr.heap.size := hR.below.size
          have cb := hR.box.cell 0
          by_cases hlt : k < rdCount l
          · obtain ⟨N, hN⟩ : ∃ N, N = numOf (cut l (A + 7 + 8 * k) 8) := ⟨_, rfl⟩
            have hNlt := numOf_lt (cut l (A + 7 + 8 * k) 8)
            rw [length_cut l (A + 7 + 8 * k) 8 (by omega), ← hN] at hNlt
            have hRN : Calls Tryd.prog 53 #[.int .i64 ((A + 7 + 8 * k : Nat) : Int), .int .i64 8, .pointer (some ⟨w.heap.size, 0, none⟩)] wr fun e w'' => e = .returned (.int .u64 (N : Nat)) ∧ Blk w'' w.heap.size 9 #[.string t] ∧ Below wr.heap.size wr w'' := by
              have h := HR1.out ((A + 7 + 8 * k : Nat) : Int) 8 w.heap.size wr hR.box (by omega) (by omega) (by omega) (by omega)
              rw [Int.toNat_natCast, show Int.toNat 8 = 8 from rfl, ← hN] at h
              exact h
            have HRN := Lib.hid hRN
            have hsn := rdBytes_snoc l (A + 7) k
            rw [← hN] at hsn
            have HSN := Lib.hid hsn
            obtain ⟨P, hP⟩ : ∃ P, P = A + 7 + 8 * k := ⟨_, rfl⟩
            have hP1 : P + 8 ≤ t.size := by omega
            have hP2 : P + 8 = A + 7 + 8 * (k + 1) := by omega
            have HP := Lib.hid hP; have HP2 := Lib.hid hP2
            rw [← hP] at HRN ⊢
            have hlen := length_rdBytes l (A + 7) k
            have HR := Lib.hid hR; have Hown := Lib.hid hown; have Hlen := Lib.hid hlen
            have hk8 : k ≤ 8 := by omega
            have ht4 : t.size ≤ 4000 := by omega
            clear hR hown hlen hRN hsn hN hP hP2 hsz s3
            obtain ⟨i0, hi0, hz0, hz1, hz2⟩ := info_parts Tryd.infoU8
            go_wp2_with (first
              | (go_at_call 53; refine HRN.out.mono ?_; rintro e w2 ⟨rfl, hk2, hb2⟩; have Hown2 := Lib.hid (Hown.out.kept (only_of_below hb2 none) (by cases u9.ownBlock <;> simp)); have Hb2 := Lib.hid hb2; have hz2w := hb2.size; clear hk2 hb2)
              | (at_builtin; refine wpList_append_own _ rfl (.tmp 61) (.tmp 66) 87 rfl w.heap.size 5 i0 (.int .u8 0) 1 1 Tryd.underlying87 hi0 hz0 hz1 hz2 rfl (by decide) u9 k _ rfl (Hown2.out.alloc _) ⟨w2.heap.size, 0, none⟩ 1 1 [.int .u8 N] rfl rfl ?c1 ?c2 ?c3 ?c4 ?c5 ?_))
            case c1 => exact cell_one_new _ _ _
            case c2 => intro u hu; simp at hu; subst hu; rfl
            case c3 => unfold maxLen; omega
            case c4 => omega
            case c5 => simp; omega
            · intro v' w3 hown3 hgrow _
              have HR3 := Lib.hid (((HR.out.step Hb2.out).alloc (.cells #[.int .u8 N] 5)).grown (Hown2.out.alloc _) (Nat.le_refl _) hgrow)
              have Hown3 := Lib.hid hown3
              clear hown3 hgrow
              go_wp2
              go_roundw
              case rel => exact ⟨k + 1, by omega, by rw [← HP2.out]; go_num, by rw [HSN.out, List.map_append]; exact Hown3.out, HR3.out⟩
              case measure => simp [intOf]; omega
          · have hkk : k = rdCount l := by omega
            have hP : A + 7 + 8 * k = t.size := by omega
            rw [hP]
            rw [hkk] at hown
            have hcv := own_string hown
            have Hown := Lib.hid hown
            have f4 := hR.fb.cell 4
            have q4 := hR.fb.frozen 4
            have HR := Lib.hid hR
            clear hown hR hkk hP hlt hk s3 hsz
            go_upto_region 17 with fail
            have HR6 := HR.out.put 4 (.string (strOfNums (rdBytes l (A + 7) (rdCount l))))
            have hV : (#[.int .u32 (rdId l : Nat), .bool e13, .bool (bitAt l A), .int .i64 (D : Nat), .string ⟨#[]⟩] : Array Value).setIfInBounds 4 (.string (strOfNums (rdBytes l (A + 7) (rdCount l)))) = frVals (readF l) := by
              rw [HE13.out, HD.out, ← HA.out]; rfl
            rw [hV] at HR6
            clear hV
            have hV : ∃ a b c d e, frVals (readF l) = #[.int .u32 a, .bool b, .bool c, .int .i64 d, .string e] := ⟨_, _, _, _, _, rfl⟩
            obtain ⟨v0, v1, v2, v3, v4, hV⟩ := hV
            rw [hV] at HRI HHD HR6
            have HV := Lib.hid hV
            clear hV hcv HR cb f4 q4
            generalize wr.setCell ⟨b, 4, none⟩ (.string (strOfNums (rdBytes l (A + 7) (rdCount l)))) = w5 at HR6 ⊢
            have e0 := HR6.fb.cell 0
            have e1 := HR6.fb.cell 1
            have e2 := HR6.fb.cell 2
            have e3 := HR6.fb.cell 3
            have e4 := HR6.fb.cell 4
            have cb := HR6.box.cell 0
            have HR7 := Lib.hid HR6
            clear HR6
            go_cut [79] (fun s79 wx => s79 = .bool false ∧ RInv w t b #[.int .u32 v0, .bool v1, .bool v2, .int .i64 v3, .string v4] wx)
            case first =>
              -- SEG
              go_region_with (first
                | (go_at_call 28; (with_reducible refine (HRI.out _).mono ?_); rintro e w6 ⟨rfl, hb6⟩; have HR8 := Lib.hid (HR7.out.step (below_of_drew hb6)); have d0 := HR8.out.fb.cell 0; have d1 := HR8.out.fb.cell 1; have d2 := HR8.out.fb.cell 2; have d3 := HR8.out.fb.cell 3; have d4 := HR8.out.fb.cell 4; have db := HR8.out.box.cell 0; clear hb6)
                | (go_at_call 30; (with_reducible refine (HHD.out _).mono ?_); rintro e w7 ⟨rfl, hb7⟩; have HR9 := Lib.hid (HR8.out.step hb7); have kb := HR9.out.box.cell 0; clear hb7))
              all_goals
                go_wp2
                go_meet
                exact ⟨by first | rfl | simp, HR9.out⟩
              -- ENDSEG
            case rest =>
              obtain ⟨rfl, hR5⟩ := hcut
              clear e0 e1 e2 e3 e4 cb HR7
              have e0 := hR5.fb.cell 0
              have e1 := hR5.fb.cell 1
              have e2 := hR5.fb.cell 2
              have e3 := hR5.fb.cell 3
              have e4 := hR5.fb.cell 4
              have p0 := hR5.res.cell 0
              have p1 := hR5.res.cell 1
              have p2 := hR5.res.cell 2
              have p3 := hR5.res.cell 3
              have p4 := hR5.res.cell 4
              have q0 := hR5.res.frozen 0
              have q1 := hR5.res.frozen 1
              have q2 := hR5.res.frozen 2
              have q3 := hR5.res.frozen 3
              have q4 := hR5.res.frozen 4
              have hres := Lib.hid (((((hR5.res.set_ 0 (.int .u32 v0)).set_ 1 (.bool v1)).set_ 2 (.bool v2)).set_ 3 (.int .i64 v3)).set_ 4 (.string v4))
              have hbel := Lib.hid (((((hR5.below.setCell (p := ⟨w.heap.size + 1, 0, none⟩) (by simp) (.int .u32 v0)).setCell (p := ⟨w.heap.size + 1, 1, none⟩) (by simp) (.bool v1)).setCell (p := ⟨w.heap.size + 1, 2, none⟩) (by simp) (.bool v2)).setCell (p := ⟨w.heap.size + 1, 3, none⟩) (by simp) (.int .i64 v3)).setCell (p := ⟨w.heap.size + 1, 4, none⟩) (by simp) (.string v4))
              clear hR5
              go_wp2
              rw [HV.out]
              generalize ((((wc.setCell _ _).setCell _ _).setCell _ _).setCell _ _).setCell _ _ = w9 at hres hbel ⊢
              have c0 := hres.out.cell 0
              have c1 := hres.out.cell 1
              have c2 := hres.out.cell 2
              have c3 := hres.out.cell 3
              have c4 := hres.out.cell 4
              exact bodyPost_ret (v := .tuple #[.agg #[.int .u32 v0, .bool v1, .bool v2, .int .i64 v3, .string v4], .int .i64 0]) (by simp [results, Tryd.results36, go_sem, c0, c1, c2, c3, c4]) rfl ⟨rfl, hbel.out⟩
end Go.Proofs.YtokaaniimakfjaaDoor
