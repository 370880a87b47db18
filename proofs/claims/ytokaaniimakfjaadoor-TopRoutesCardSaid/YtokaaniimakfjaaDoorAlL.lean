/- frame.stuffed. -/
import Derived.Test.YtokaaniimakfjaaDoorAlK
import Derived.Test.YtokaaniimakfjaaDoorPlC
set_option linter.unusedSimpArgs false
set_option linter.unusedVariables false
namespace Go.Proofs.YtokaaniimakfjaaDoor
open Go.RowKit

/-- what the loop of frame.stuffed holds: x's block, the builder -/
structure TInv (w0 : World) (x : St) (out : List Bool) (W : World) : Prop where
  xb : Blk W w0.heap.size 102 (stVals x)
  ob : Wr 89 w0.heap.size (w0.heap.size + 1) out W
  below : Below w0.heap.size w0 W
theorem TInv.step {w0 w1 w2 : World} {x : St} {out : List Bool} (h : TInv w0 x out w1) (h2 : Below w1.heap.size w1 w2) : TInv w0 x out w2 :=
  ⟨h.xb.belowS h2, h.ob.below h2, below_then2 h.below h2⟩
theorem TInv.drew {w0 w1 : World} {x : St} {out : List Bool} (h : TInv w0 x out w1) : TInv w0 x out w1.drew := h.step ((Below.refl _ _).drew)
theorem TInv.alloc {w0 w1 : World} {x : St} {out : List Bool} (h : TInv w0 x out w1) (o : Obj) : TInv w0 x out (w1.alloc o) := h.step (bAlloc (Below.refl _ _) o)
theorem TInv.wrote {w0 w1 w2 : World} {x : St} {out out' : List Bool} (h : TInv w0 x out w1) (h1 : Wr 89 w0.heap.size (w0.heap.size + 1) out' w2) (h2 : Below w0.heap.size w1 w2) (h3 : Oth (w0.heap.size + 1) w1 w2) : TInv w0 x out' w2 :=
  ⟨h.xb.oth h3 (by omega) (by decide), h1, h.below.trans h2⟩

theorem bldAt_grown {T T' : TypeId} {B b g : Nat} {p : Value} {bs : List Value} {cs : Array Value} {w w' : World} (h : BldAt T B b p bs w) (hx : Blk w g T' cs) (hT : T' ≠ 5) (hg : b ≠ g) (G : w.grownBy w' (some g)) : BldAt T B b p bs w' := by
  have hlt := h.lt
  obtain ⟨h1, v, h2, h3, h4⟩ := h
  refine ⟨h1, v, (G.block b hlt (by intro e; exact hg (Option.some.inj e))).trans h2, h3.kept G ?_, h4⟩
  right
  intro e
  obtain ⟨c, fz, hc⟩ := Lib.ownsRowF_kind h3 _ e
  have hx' := hx.symm.trans hc
  injection hx' with hx'
  injection hx' with _ ht
  exact hT ht
theorem Wr.grown {T T' : TypeId} {B b g : Nat} {l : List Bool} {cs : Array Value} {w w' : World} (h : Wr T B b l w) (hx : Blk w g T' cs) (hT : T' ≠ 5) (hg : b ≠ g) (G : w.grownBy w' (some g)) : Wr T B b l w' := by
  rcases h with h | h
  · exact .inl (bldAt_grown h hx hT hg G)
  · exact .inr (bldAt_grown h hx hT hg G)
theorem TInv.putx {w0 w1 : World} {x y : St} {out : List Bool} (h : TInv w0 x out w1) : TInv w0 y out ((w1.setCell ⟨w0.heap.size, 0, none⟩ (.int .u8 (stLast y))).setCell ⟨w0.heap.size, 1, none⟩ (.int .i64 (stN y))) := by
  have G1 : w1.grownBy (w1.setCell ⟨w0.heap.size, 0, none⟩ (.int .u8 (stLast y))) (some w0.heap.size) := only_setCell (World.grownBy.refl w1 (some w0.heap.size)) (.inl rfl) _
  have G2 := only_setCell G1 (p := ⟨w0.heap.size, 1, none⟩) (.inl rfl) (.int .i64 (stN y))
  have hb := (h.below.setCell (p := ⟨w0.heap.size, 0, none⟩) (Nat.le_refl _) (.int .u8 (stLast y))).setCell (p := ⟨w0.heap.size, 1, none⟩) (Nat.le_refl _) (.int .i64 (stN y))
  have hx := (h.xb.set_ 0 (.int .u8 (stLast y))).set_ 1 (.int .i64 (stN y))
  have ho := h.ob.grown h.xb (by decide) (by omega) G2
  generalize (w1.setCell _ _).setCell _ _ = w2 at *
  exact ⟨hx, ho, hb⟩
theorem tinv_new {w0 w1 w2 : World} {x : St} {out : List Bool} {v0 v1 : Value} (h : TInv w0 x out w1) (h3 : Below w1.drew.heap.size w1.drew w2) :
    Blk (w2.alloc (.cells #[v0, v1] 102)) w2.heap.size 102 #[v0, v1] ∧ TInv w0 x out (w2.alloc (.cells #[v0, v1] 102)) ∧ w0.heap.size < w2.heap.size :=
  ⟨Blk.new' rfl, (h.step (below_of_drew h3)).alloc _, Nat.lt_of_lt_of_le h.xb.lt h3.size⟩
theorem tinv_set {w0 w1 w2 : World} {x : St} {out : List Bool} {v0 v1 b0 b1 : Value} (h : TInv w0 x out w1) (h3 : Below (w1.alloc (.cells #[b0, b1] 102)).drew.heap.size (w1.alloc (.cells #[b0, b1] 102)).drew w2) :
    Blk ((w2.setCell ⟨w1.heap.size, 0, none⟩ v0).setCell ⟨w1.heap.size, 1, none⟩ v1) w1.heap.size 102 #[v0, v1] ∧ TInv w0 x out ((w2.setCell ⟨w1.heap.size, 0, none⟩ v0).setCell ⟨w1.heap.size, 1, none⟩ v1) ∧ w0.heap.size < w1.heap.size := by
  have h4 := below_of_drew h3
  have hn := (Blk.new' rfl : Blk (w1.alloc (.cells #[b0, b1] 102)) w1.heap.size 102 _).belowS h4
  have h5 := (h.alloc (.cells #[b0, b1] 102)).step h4
  have hlt := h.xb.lt
  have hst : Below w1.heap.size w1 ((w2.setCell ⟨w1.heap.size, 0, none⟩ v0).setCell ⟨w1.heap.size, 1, none⟩ v1) :=
    ((below_then2 (bAlloc (Below.refl _ _) _) h4).setCell (p := ⟨w1.heap.size, 0, none⟩) (Nat.le_refl _) v0).setCell (p := ⟨w1.heap.size, 1, none⟩) (Nat.le_refl _) v1
  exact ⟨(hn.set_ 0 v0).set_ 1 v1, h.step hst, hlt⟩
theorem bstr_is1 (l : List Bool) : (bstr l).toList = [49] ↔ l = [true] := by
  rw [Lib.toList_data, bstr_data]
  constructor
  · intro h
    cases l with
    | nil => simp at h
    | cons b l =>
      cases l with
      | nil =>
        cases b
        · exact absurd h (by decide)
        · rfl
      | cons d l => simp at h
  · rintro rfl; rfl
theorem wrByte_any (T : TypeId) (hT : LiesB T) (B b : Nat) (l : List Bool) (c : Bool) (w : World) (h : Wr T B b l w) (hl : l.length ≤ 100000) (hB : B ≤ w.heap.size) :
    Calls Tryd.prog 51 #[.pointer (some ⟨b, 0, none⟩), .int .u8 (bitN c)] w fun e w' => e = .returned .nilIface ∧ Wr T B b (l ++ [c]) w' ∧ Below B w w' ∧ Oth b w w' := by
  refine (sbWriteByte_any T hT B b (bitCells l) (bitN c) w h (by rw [bitCells_length]; omega) hB).mono ?_
  rintro e w' ⟨rfl, h1, h2, h3⟩
  rw [← bitCells_snoc] at h1
  exact ⟨rfl, .inr h1, h2, h3⟩
theorem wrLen_any (T : TypeId) (B b : Nat) (l : List Bool) (w : World) (h : Wr T B b l w) :
    Calls Tryd.prog 49 #[.pointer (some ⟨b, 0, none⟩)] w fun e w' => e = .returned (.int .i64 l.length) ∧ w = w' := by
  refine (sbLen_any T B b (bitCells l) w h).mono ?_
  rintro e w' ⟨rfl, rfl⟩
  exact ⟨by rw [bitCells_length], rfl⟩

set_option maxHeartbeats 1000000 in
set_option maxRecDepth 100000 in
theorem fStuffed_any (s : List Bool) (w : World) (hl : s.length ≤ 4000) :
    Calls Tryd.prog 34 #[.string (bstr s)] w fun e w' => e = .returned (.tuple #[.string (bstr (stuffedF s).1), .int .i64 (stuffedF s).2.1, .int .i64 (stuffedF s).2.2]) ∧ Below w.heap.size w w' := by
  have hb := fun i h => bstr_get s i h
  have hsz : (bstr s).size = s.length := size_bstr s
  obtain ⟨t, ht⟩ : ∃ t, t = bstr s := ⟨_, rfl⟩
  rw [← ht] at hsz hb ⊢
  have HB := Lib.hid hb; have HSZ := Lib.hid hsz
  have hts : t.size ≤ 4000 := by omega
  have HT := Lib.hid ht
  clear hb hsz ht
  have hI : TInv w none [] ((w.alloc (.cells #[.int .u8 0, .int .i64 0] 102)).alloc (.cells #[.pointer none, .slice none 0 0] 89)) :=
    ⟨(Blk.new' rfl).alloc _, by have := Wr.new 89 w.heap.size (w.alloc (.cells #[.int .u8 0, .int .i64 0] 102)) (by simp); simpa using this, bAlloc (bAlloc (Below.refl _ _) _) _⟩
  have HI := Lib.hid hI
  clear hI
  go_enter Tryd.func34, Tryd.ntmps34
  go_wp2
  go_loopw [7, 16] (fun s7 s16 wr => ∃ (k : Nat) (x : St) (out : List Bool) (e : Option Nat), k ≤ t.size ∧ s7 = .int .i64 (endInt e) ∧ s16 = .int .i64 k ∧ TInv w x out wr ∧ StOk x ∧ out.length ≤ k ∧ EndOk e ∧ Hid (stGo (s.drop k) k x out e = stuffedF s)) (fun _ i _ => t.size - (intOf i).toNat)
  case atStart => exact ⟨0, none, [], none, Nat.zero_le _, rfl, rfl, HI.out, trivial, by simp, trivial, rfl⟩
  case round =>
    clear HI
    obtain ⟨k, x, out, e, hk, rfl, rfl, hI, hx, hout, he, HG⟩ := hrel
    by_cases hlt : k < t.size
    · have hks : k < s.length := by rw [← HSZ.out]; exact hlt
      obtain ⟨c, hc⟩ : ∃ c, c = s[k] := ⟨_, rfl⟩
      have hdr : s.drop k = c :: s.drop (k + 1) := by rw [hc]; exact List.drop_eq_getElem_cons hks
      rw [hdr] at HG
      have hby := HB.out k hlt hks
      rw [← hc] at hby
      have HBY := Lib.hid hby
      have hE := endIs_int e out.length
      have hki : (k : Int) < (t.size : Int) := by omega
      have x1 := hI.xb.cell 1
      have x0 := hI.xb.cell 0
      simp only [stVals] at x0 x1
      have hIs := hI.below.size
      have HI := Lib.hid hI
      clear hI hdr hby hc
      go_upto_region 7 with fail
      go_cut [26] (fun s26 wx => s26 = .bool (endIs e out.length && decide (stN x < 5)) ∧ wx = wr)
      case first =>
        -- SEG
        cases hg : endIs e out.length
        · rw [hg] at hE
          have Hg := Lib.hid hg
          clear hg
          go_wp2_with (go_at_call 49; refine (wrLen_any _ _ _ out _ HI.out.ob).mono ?_; rintro e1 w1 ⟨rfl, rfl⟩)
          go_meet
          rw [Hg.out]
          exact ⟨rfl, rfl⟩
        · rw [hg] at hE
          have Hg := Lib.hid hg
          clear hg
          go_wp2_with (go_at_call 49; refine (wrLen_any _ _ _ out _ HI.out.ob).mono ?_; rintro e1 w1 ⟨rfl, rfl⟩)
          all_goals
            go_meet
            rw [Hg.out]
            exact ⟨by simp; omega, rfl⟩
        -- ENDSEG
      case rest =>
        obtain ⟨rfl, rfl⟩ := hcut
        cases hG : (endIs e out.length && decide (stN x < 5))
        · have HGF := Lib.hid hG
          clear hG hE x1 x0
          have hSt := fun w => sStep_any x c w hx
          have hyo := stStep_ok x c hx
          have hkd := stStep_kind x c
          obtain ⟨y, hy⟩ : ∃ y, y = (stStep x c).1 := ⟨_, rfl⟩
          obtain ⟨kd, hk0⟩ : ∃ kd, kd = (stStep x c).2 := ⟨_, rfl⟩
          rw [← hy, ← hk0] at hSt
          rw [← hy] at hyo
          rw [← hk0] at hkd
          have HY := Lib.hid hy; have HKD := Lib.hid hk0
          clear hy hk0
          simp only [stVals] at hSt
          have HSt := Lib.hid hSt
          clear hSt
          have x0 := HI.out.xb.cell 0
          have x1 := HI.out.xb.cell 1
          simp only [stVals] at x0 x1
          have hlx := HI.out.xb.lt
          have hne1 : ¬ (w.heap.size = wc.heap.size) := by omega
          have hne2 : ¬ (wc.heap.size = w.heap.size) := by omega
          have hkd' := Lib.hid hkd
          clear hkd
          go_upto_region 9 with fail
          go_cut [9, 10] (fun s9 s10 wx => ∃ b9 : Nat, s9 = .pointer (some ⟨b9, 0, none⟩) ∧ s10 = .int .i64 kd ∧ Blk wx b9 102 #[.int .u8 (stLast y), .int .i64 (stN y)] ∧ TInv w x out wx ∧ w.heap.size < b9)
          case first =>
            -- SEG
            go_region_held3 (fun w' => w'.cell? ⟨w.heap.size, 0, none⟩ = some (.int .u8 (stLast x)) ∧ w'.cell? ⟨w.heap.size, 1, none⟩ = some (.int .i64 (stN x))) (first | (with_reducible exact ⟨x0, x1⟩) | (with_reducible exact ⟨z0, z1⟩) | go_keep)
              (first
                | (go_at_call 50; rw [HBY.out]; (with_reducible refine (HSt.out wc.drew).mono ?_); rintro e2 w2 ⟨rfl, hb2⟩; have hx2 := (Blk.drew HI.out.xb).belowS hb2; have z0 := hx2.cell 0; have z1 := hx2.cell 1; simp only [stVals] at z0 z1)
                | (go_at_call 50; rw [HBY.out]; (with_reducible refine (HSt.out (wc.alloc (.cells #[.int .u8 0, .int .i64 0] 102)).drew).mono ?_); rintro e2 w2 ⟨rfl, hb2⟩; have hx2 := (Blk.drew (HI.out.xb.alloc _)).belowS hb2; have z0 := hx2.cell 0; have z1 := hx2.cell 1; simp only [stVals] at z0 z1; have hn := (Blk.drew (Blk.new' (w := wc) (t := 102) (cs := #[.int .u8 0, .int .i64 0]) rfl)).belowS hb2; have n0 := hn.cell 0; have n1 := hn.cell 1; have q0 := hn.frozen 0; have q1 := hn.frozen 1))
            all_goals
              go_wp2
              go_meet
              first
                | (with_reducible exact ⟨_, rfl, rfl, tinv_new HI.out hb2⟩)
                | exact ⟨wc.heap.size, rfl, rfl, tinv_set HI.out hb2⟩
            -- ENDSEG
          case rest =>
            obtain ⟨b9, rfl, rfl, hb9, hI9, hlt9⟩ := hcut
            clear x0 x1 HI hlx hne1 hne2
            have d0 := hb9.cell 0
            have d1 := hb9.cell 1
            have x0 := hI9.xb.cell 0
            have x1 := hI9.xb.cell 1
            have f0 := hI9.xb.frozen 0
            have f1 := hI9.xb.frozen 1
            simp only [stVals] at x0 x1
            have hne1 : ¬ (w.heap.size = b9) := by omega
            have hne2 : ¬ (b9 = w.heap.size) := by omega
            have HI := Lib.hid (hI9.putx (y := y))
            clear hI9 hb9
            rcases hkd'.out with hkd | hkd | hkd
            · subst hkd
              have hwn : w.heap.size ≤ ((wc.setCell ⟨w.heap.size, 0, none⟩ (.int .u8 (stLast y))).setCell ⟨w.heap.size, 1, none⟩ (.int .i64 (stN y))).heap.size := HI.out.below.size
              have HWN := Lib.hid hwn
              clear hwn
              cases e with
              | some m =>
                have HG2 : Hid (stGo (s.drop (k + 1)) (k + 1) y (out ++ [c]) (some m) = stuffedF s) := by
                  have := HG
                  rw [stGo_some HGF.out HKD.out.symm, ← HY.out] at this
                  exact this
                have hen : endInt (some m) = (m : Int) := rfl
                go_wp2_with (go_at_call 51; rw [HBY.out]; refine (wrByte_any _ liesB_builder _ _ out c _ HI.out.ob (by omega) HWN.out).mono ?_; rintro e3 w3 ⟨rfl, h1, h2, h3⟩; replace HI := Lib.hid (HI.out.wrote h1 h2 h3); clear h1 h2 h3)
                go_roundw
                case rel => exact ⟨k + 1, y, out ++ [c], some m, by omega, rfl, by go_num, HI.out, hyo, by simp; omega, he, HG2⟩
                case measure => simp [intOf]; omega
              | none =>
                have hen : endInt none = -1 := rfl
                have hSz := fun w => fSize_any (out ++ [c]) w (by simp; omega)
                have HS1 := Lib.hid (bstr_is1 (out ++ [c]))
                have HG2 := HG
                rw [stGo_none HKD.out.symm, ← HY.out] at HG2
                have hz1 := sizeF_le (out ++ [c])
                have hz2 : (sizeF (out ++ [c])).2 = 0 → 4 ≤ (sizeF (out ++ [c])).1 := sizeF_pos (out ++ [c])
                obtain ⟨z1, hz1e⟩ : ∃ z, z = (sizeF (out ++ [c])).1 := ⟨_, rfl⟩
                obtain ⟨z2, hz2e⟩ : ∃ z, z = (sizeF (out ++ [c])).2 := ⟨_, rfl⟩
                rw [← hz1e] at HG2 hSz hz1 hz2
                rw [← hz2e] at HG2 hSz hz2
                have HZ2 := Lib.hid hz2
                clear hz1e hz2e hz2
                have HSz := Lib.hid hSz
                clear hSz
                go_wp2_with (first
                  | (go_at_call 51; rw [HBY.out]; refine (wrByte_any _ liesB_builder _ _ out c _ HI.out.ob (by omega) HWN.out).mono ?_; rintro e3 w3 ⟨rfl, h1, h2, h3⟩; replace HI := Lib.hid (HI.out.wrote h1 h2 h3); clear h1 h2 h3)
                  | (go_at_call 44; refine (wrString_any _ _ _ (out ++ [c]) _ HI.out.ob (by simp)).mono ?_; rintro e4 w4 ⟨rfl, h1, h2, h3⟩; replace HI := Lib.hid (HI.out.wrote h1 h2 h3); clear h1 h2 h3)
                  | (go_at_call 52; refine (HSz.out _).mono ?_; rintro e5 w5 ⟨rfl, h1⟩; replace HI := Lib.hid (HI.out.step h1); clear h1))
                · have t1 : (bstr (out ++ [c])).toList = [49] := by assumption
                  have hg := HG2
                  rw [if_pos (.inl (HS1.out.1 t1))] at hg
                  go_ret3
                  rw [← hg.out]
                  exact ⟨rfl, HI.out.below⟩
                · have t1 : ((bstr (out ++ [c])).toList == [49]) = true ∨ ((z2 : Int) == 12) = true := by assumption
                  have hg := HG2
                  rw [if_pos (t1.elim (fun h => .inl (HS1.out.1 (eq_of_beq h))) (fun h => .inr (by have := eq_of_beq h; omega)))] at hg
                  go_ret3
                  rw [← hg.out]
                  exact ⟨rfl, HI.out.below⟩
                · have t0 : ¬ (bstr (out ++ [c])).toList = [49] := by assumption
                  have t1 : ((bstr (out ++ [c])).toList == [49]) = false ∧ ((z2 : Int) == 12) = false := by assumption
                  have t2 : ((z2 : Int) == 0) = true := by assumption
                  have hz0 : z2 = 0 := by have := eq_of_beq t2; omega
                  have hg := HG2
                  rw [if_neg (fun h => h.elim (fun h => t0 (HS1.out.2 h)) (fun h => by omega)), if_pos hz0] at hg
                  have h4 := HZ2.out hz0
                  go_roundw
                  case rel => exact ⟨k + 1, y, out ++ [c], some (z1 + 15), by omega, by show _ = Value.int .i64 ((z1 + 15 : Nat) : Int); go_num, by go_num, HI.out, hyo, by simp; omega, ⟨by omega, by omega⟩, hg⟩
                  case measure => simp [intOf]; omega
                · have t0 : ¬ (bstr (out ++ [c])).toList = [49] := by assumption
                  have t1 : ((bstr (out ++ [c])).toList == [49]) = false ∧ ((z2 : Int) == 12) = false := by assumption
                  have t2 : ((z2 : Int) == 0) = false := by assumption
                  have hz0 : z2 ≠ 0 := by have := beq_eq_false_iff_ne.1 t2; omega
                  have hz12 : z2 ≠ 12 := by have := beq_eq_false_iff_ne.1 t1.2; omega
                  have hg := HG2
                  rw [if_neg (fun h => h.elim (fun h => t0 (HS1.out.2 h)) (fun h => hz12 h)), if_neg hz0] at hg
                  go_roundw
                  case rel => exact ⟨k + 1, y, out ++ [c], none, by omega, rfl, by go_num, HI.out, hyo, by simp; omega, trivial, hg⟩
                  case measure => simp [intOf]; omega
            · subst hkd
              have HG2 : Hid (stGo (s.drop (k + 1)) (k + 1) y out e = stuffedF s) := by
                have := HG
                rw [stGo_stuff HGF.out HKD.out.symm, ← HY.out] at this
                exact this
              go_wp2
              go_roundw
              case rel => exact ⟨k + 1, y, out, e, by omega, rfl, by go_num, HI.out, hyo, by omega, he, HG2⟩
              case measure => simp [intOf]; omega
            · subst hkd
              have HG2 : Hid (([], 0, 10) = stuffedF s) := by
                have := HG
                rw [stGo_err HGF.out HKD.out.symm] at this
                exact this
              go_wp2
              go_ret3
              rw [← HG2.out]
              exact ⟨rfl, HI.out.below⟩
        · have HG2 : Hid ((out, k, 0) = stuffedF s) := by
            have := HG
            rw [stGo_stop hG] at this
            exact this
          have h15 : 15 ≤ out.length := by
            rw [Bool.and_eq_true] at hG
            exact endIs_pos he hG.1
          have hne : out ≠ [] := by intro h; rw [h] at h15; simp at h15
          have HNE := Lib.hid hne
          clear hne hG
          go_wp2_with (go_at_call 44; refine (wrString_any _ _ _ out _ HI.out.ob HNE.out).mono ?_; rintro e4 w4 ⟨rfl, h1, h2, h3⟩; replace HI := Lib.hid (HI.out.wrote h1 h2 h3); clear h1 h2 h3)
          go_ret3
          rw [← HG2.out]
          exact ⟨rfl, HI.out.below⟩
    · have hkk : k = s.length := by rw [← HSZ.out]; omega
      have hdr : s.drop k = [] := List.drop_of_length_le (by omega)
      rw [hdr] at HG
      have hE := endIs_int e out.length
      have x0 := hI.xb.cell 0
      have x1 := hI.xb.cell 1
      simp only [stVals] at x0 x1
      have HI := Lib.hid hI
      have HKK := Lib.hid (show k = t.size by omega)
      clear hI hdr hkk
      cases hG : (endIs e out.length && decide (stN x < 5))
      · have HG2 : Hid (([], 0, 3) = stuffedF s) := by
          have := HG
          unfold stGo at this
          rw [if_neg (by rw [hG]; decide)] at this
          exact this
        cases hg : endIs e out.length
        · rw [hg] at hE
          clear hG hg
          go_wp2_with (go_at_call 49; refine (wrLen_any _ _ _ out _ HI.out.ob).mono ?_; rintro e1 w1 ⟨rfl, rfl⟩)
          go_ret3
          rw [← HG2.out]
          exact ⟨rfl, HI.out.below⟩
        · rw [hg] at hE hG
          have h5 : ¬ stN x < 5 := by simpa using hG
          have h5' : ¬ (stN x : Int) < 5 := by omega
          clear hG hg h5
          go_wp2_with (go_at_call 49; refine (wrLen_any _ _ _ out _ HI.out.ob).mono ?_; rintro e1 w1 ⟨rfl, rfl⟩)
          go_ret3
          rw [← HG2.out]
          exact ⟨rfl, HI.out.below⟩
      · have HG2 : Hid ((out, k, 0) = stuffedF s) := by
          have := HG
          unfold stGo at this
          rw [if_pos hG] at this
          exact this
        rw [Bool.and_eq_true] at hG
        have h15 := endIs_pos he hG.1
        have hne : out ≠ [] := by intro h; rw [h] at h15; simp at h15
        have HNE := Lib.hid hne
        rw [hG.1] at hE
        have h5 : stN x < 5 := by simpa using hG.2
        have h5' : (stN x : Int) < 5 := by omega
        clear hG h5 hne
        go_wp2_with (first
          | (go_at_call 49; refine (wrLen_any _ _ _ out _ HI.out.ob).mono ?_; rintro e1 w1 ⟨rfl, rfl⟩)
          | (go_at_call 44; refine (wrString_any _ _ _ out _ HI.out.ob HNE.out).mono ?_; rintro e4 w4 ⟨rfl, h1, h2, h3⟩; replace HI := Lib.hid (HI.out.wrote h1 h2 h3); clear h1 h2 h3))
        go_ret3
        rw [← HG2.out]
        exact ⟨by first | rfl | (rw [HKK.out]; done) | (rw [HKK.out]; rfl), HI.out.below⟩
end Go.Proofs.YtokaaniimakfjaaDoor
