/- slices.IndexFunc over paths. -/
import Derived.Test.YtokaaniimakfjaaDoorAlQ
set_option linter.unusedSimpArgs false
set_option linter.unusedVariables false
set_option linter.unusedSectionVars false
namespace Go.Proofs.YtokaaniimakfjaaDoor
open Go.RowKit

/-- i is the first place where pred holds, or -1. -/
def IdxP (pred : Pth → Bool) (ps : List Pth) (i : Int) : Prop :=
  (∃ k : Nat, i = (k : Int) ∧ ∃ h : k < ps.length, pred ps[k] = true ∧ ∀ j (h : j < ps.length), j < k → pred ps[j] = false) ∨ (i = -1 ∧ ∀ j (h : j < ps.length), pred ps[j] = false)
theorem idx_none {pred : Pth → Bool} {ps : List Pth} {i : Int} (h : IdxP pred ps i) (hn : ∀ q ∈ ps, pred q = false) : i = -1 := by
  rcases h with ⟨k, _, hk, ht, _⟩ | ⟨h, _⟩
  · rw [hn _ (List.getElem_mem hk)] at ht; cases ht
  · exact h
theorem cell_below {w w' : World} {p : Addr} {v : Value} (hb : Below w.heap.size w w') (h : w.cell? p = some v) : w'.cell? p = w.cell? p :=
  World.cell?_of_block (hb.block p.block (World.block_lt_of_cell? _ _ h))

set_option maxHeartbeats 1000000 in
set_option maxRecDepth 100000 in
theorem pRight2_any (w : World) (g fr to : Nat) (q : Pth) (iv : Option Addr × Nat) (h0 : w.cell? ⟨g, 0, none⟩ = some (.int .i64 fr)) (h1 : w.cell? ⟨g, 1, none⟩ = some (.int .i64 to)) :
    Calls Tryd.prog 22 #[.agg (pcells q iv).toArray, .pointer (some ⟨g, 0, none⟩)] w fun e w' => e = .returned (.bool (q.fr == fr && q.to == to)) ∧ Below w.heap.size w w' := by
  obtain ⟨qf, qt, qs, qi, qc, qb⟩ := q
  have H0 := Lib.hid h0
  have H1 := Lib.hid h1
  simp only [pcells]
  have e0 : (w.alloc (.cells #[.int .i64 qf, .int .i64 qt, .int .i64 qs, .slice iv.1 qi.length iv.2, .int .i64 qc, .bool qb] 33)).cell? ⟨g, 0, none⟩ = some (.int .i64 fr) := by
    exact (World.cell?_alloc_lt w _ _ (World.block_lt_of_cell? _ _ h0)).trans h0
  have e1 : (w.alloc (.cells #[.int .i64 qf, .int .i64 qt, .int .i64 qs, .slice iv.1 qi.length iv.2, .int .i64 qc, .bool qb] 33)).cell? ⟨g, 1, none⟩ = some (.int .i64 to) := by
    exact (World.cell?_alloc_lt w _ _ (World.block_lt_of_cell? _ _ h1)).trans h1
  have hb := Lib.hid (bAlloc (Below.refl _ w) (.cells #[.int .i64 qf, .int .i64 qt, .int .i64 qs, .slice iv.1 qi.length iv.2, .int .i64 qc, .bool qb] 33))
  by_cases hf : qf = fr
  · subst hf
    by_cases ht : qt = to
    · subst ht
      go_enter Tryd.func22, Tryd.ntmps22
      go_wp2
      go_ret
      exact ⟨by simp, hb.out⟩
    · have h3 : ((qt : Int) == to) = false := by simp; omega
      have h4 : (qt == to) = false := by simp; omega
      go_enter Tryd.func22, Tryd.ntmps22
      go_wp2
      go_ret
      exact ⟨by simp [ht], hb.out⟩
  · have h3 : ((qf : Int) == fr) = false := by simp; omega
    have h4 : (qf == fr) = false := by simp; omega
    go_enter Tryd.func22, Tryd.ntmps22
    go_wp2
    go_ret
    exact ⟨by simp [hf], hb.out⟩

set_option maxHeartbeats 1000000 in
set_option maxRecDepth 100000 in
theorem pTake1_any (w : World) (g to : Nat) (q : Pth) (iv : Option Addr × Nat) (h0 : w.cell? ⟨g, 0, none⟩ = some (.int .i64 to)) :
    Calls Tryd.prog 16 #[.agg (pcells q iv).toArray, .pointer (some ⟨g, 0, none⟩)] w fun e w' => e = .returned (.bool (q.to == to && decide (0 < q.items.length))) ∧ Below w.heap.size w w' := by
  obtain ⟨qf, qt, qs, qi, qc, qb⟩ := q
  simp only [pcells]
  have e0 : (w.alloc (.cells #[.int .i64 qf, .int .i64 qt, .int .i64 qs, .slice iv.1 qi.length iv.2, .int .i64 qc, .bool qb] 33)).cell? ⟨g, 0, none⟩ = some (.int .i64 to) := by
    exact (World.cell?_alloc_lt w _ _ (World.block_lt_of_cell? _ _ h0)).trans h0
  have hb := Lib.hid (bAlloc (Below.refl _ w) (.cells #[.int .i64 qf, .int .i64 qt, .int .i64 qs, .slice iv.1 qi.length iv.2, .int .i64 qc, .bool qb] 33))
  by_cases ht : qt = to
  · subst ht
    go_enter Tryd.func16, Tryd.ntmps16
    go_wp2
    go_ret
    exact ⟨by simp, hb.out⟩
  · have h3 : ((qt : Int) == to) = false := by simp; omega
    have h4 : (qt == to) = false := by simp; omega
    go_enter Tryd.func16, Tryd.ntmps16
    go_wp2
    go_ret
    exact ⟨by simp [ht], hb.out⟩

set_option maxHeartbeats 1000000 in
set_option maxRecDepth 100000 in
theorem ixPaths_pRight2 (w : World) (A : Option Addr) (n c g : Nat) (ps : List Pth) (pred : Pth → Bool) (hP : PathsAt w A ps) (hl : ps.length = n) (hn : n ≤ 16)
    (hf : ∀ q iv w', Below w.heap.size w w' → Calls Tryd.prog 22 #[.agg (pcells q iv).toArray, .pointer (some ⟨g, 0, none⟩)] w' fun e w'' => e = .returned (.bool (pred q)) ∧ Below w'.heap.size w' w'') :
    Calls Tryd.prog 15 #[.slice A n c, .func (.func 22) #[] #[.pointer (some ⟨g, 0, none⟩)]] w fun e w' => (∃ i : Int, e = .returned (.int .i64 i) ∧ IdxP pred ps i) ∧ Below w.heap.size w w' := by
  obtain ⟨ivs, hP⟩ := hP
  have HP := Lib.hid hP
  have HF := Lib.hid hf
  have HL := Lib.hid hl
  clear hP hf hl
  go_enter Tryd.func15, Tryd.ntmps15
  go_wp2
  go_loopw [8] (fun s8 wr => ∃ k : Nat, k ≤ n ∧ s8 = .int .i64 (k : Nat) ∧ (∀ j (h : j < ps.length), j < k → pred ps[j] = false) ∧ Below w.heap.size w wr) (fun s8 _ => n - (intOf s8).toNat)
  case atStart => exact ⟨0, by omega, rfl, fun j _ h => absurd h (Nat.not_lt_zero _), Below.refl _ _⟩
  case round =>
    obtain ⟨k, hk, rfl, hno, hbk⟩ := hrel
    have HBk := Lib.hid hbk
    have HNO := Lib.hid hno
    clear hbk hno
    by_cases hlt : k < n
    · have hkl : k < ps.length := by rw [HL.out]; exact hlt
      obtain ⟨g1, o1, hA⟩ := HP.out.isSome k hkl
      subst hA
      have hP' := HP.out.keeps (keeps_below HBk.out) (keeps_below HBk.out)
      have e0 := hP'.cell k 0 hkl (by decide)
      have e1 := hP'.cell k 1 hkl (by decide)
      have e2 := hP'.cell k 2 hkl (by decide)
      have e3 := hP'.cell k 3 hkl (by decide)
      have e4 := hP'.cell k 4 hkl (by decide)
      have e5 := hP'.cell k 5 hkl (by decide)
      have hkI : (k : Int) < n := by omega
      have hk0 : (0 : Int) ≤ k := by omega
      have hF1 := fun w' h => HF.out ps[k] (ivs[k]'(by rw [hP'.len]; exact hkl)) w' h
      obtain ⟨b, hpk⟩ : ∃ b, ∀ h : k < ps.length, pred (ps[k]'h) = b := ⟨pred ps[k], fun _ => rfl⟩
      have HPK := Lib.hid hpk
      rw [hpk hkl] at hF1
      rw [Nat.add_zero] at e0
      have HKL := Lib.hid hkl
      generalize (ivs[k]'(by rw [HP.out.len]; exact hkl)) = iv at e0 e1 e2 e3 e4 e5 hF1
      generalize ps[k] = q at e0 e1 e2 e3 e4 e5 hF1
      have HF1 := Lib.hid hF1
      clear hF1 hkl hpk hP'
      cases b
      · go_wp2_with (go_at_call 22; refine (HF1.out _ HBk.out).mono ?_; rintro e w1 ⟨rfl, hb1⟩; have HB1 := Lib.hid (below_then2 HBk.out hb1); clear hb1)
        go_roundw
        case rel => exact ⟨k + 1, by omega, by go_num, fun j h hj => if e : j = k then by subst e; exact HPK.out h else HNO.out j h (by omega), HB1.out⟩
        case measure => simp [intOf]; omega
      · go_wp2_with (go_at_call 22; refine (HF1.out _ HBk.out).mono ?_; rintro e w1 ⟨rfl, hb1⟩; have HB1 := Lib.hid (below_then2 HBk.out hb1); clear hb1)
        go_ret
        exact ⟨⟨k, rfl, .inl ⟨k, rfl, HKL.out, HPK.out _, HNO.out⟩⟩, HB1.out⟩
    · have hk1 : k = n := by omega
      subst hk1
      go_wp2
      go_ret
      exact ⟨⟨-1, rfl, .inr ⟨rfl, fun j h => HNO.out j h (by rw [← HL.out]; exact h)⟩⟩, HBk.out⟩

set_option maxHeartbeats 1000000 in
set_option maxRecDepth 100000 in
theorem ixPaths_pTake1 (w : World) (A : Option Addr) (n c g : Nat) (ps : List Pth) (pred : Pth → Bool) (hP : PathsAt w A ps) (hl : ps.length = n) (hn : n ≤ 16)
    (hf : ∀ q iv w', Below w.heap.size w w' → Calls Tryd.prog 16 #[.agg (pcells q iv).toArray, .pointer (some ⟨g, 0, none⟩)] w' fun e w'' => e = .returned (.bool (pred q)) ∧ Below w'.heap.size w' w'') :
    Calls Tryd.prog 15 #[.slice A n c, .func (.func 16) #[] #[.pointer (some ⟨g, 0, none⟩)]] w fun e w' => (∃ i : Int, e = .returned (.int .i64 i) ∧ IdxP pred ps i) ∧ Below w.heap.size w w' := by
  obtain ⟨ivs, hP⟩ := hP
  have HP := Lib.hid hP
  have HF := Lib.hid hf
  have HL := Lib.hid hl
  clear hP hf hl
  go_enter Tryd.func15, Tryd.ntmps15
  go_wp2
  go_loopw [8] (fun s8 wr => ∃ k : Nat, k ≤ n ∧ s8 = .int .i64 (k : Nat) ∧ (∀ j (h : j < ps.length), j < k → pred ps[j] = false) ∧ Below w.heap.size w wr) (fun s8 _ => n - (intOf s8).toNat)
  case atStart => exact ⟨0, by omega, rfl, fun j _ h => absurd h (Nat.not_lt_zero _), Below.refl _ _⟩
  case round =>
    obtain ⟨k, hk, rfl, hno, hbk⟩ := hrel
    have HBk := Lib.hid hbk
    have HNO := Lib.hid hno
    clear hbk hno
    by_cases hlt : k < n
    · have hkl : k < ps.length := by rw [HL.out]; exact hlt
      obtain ⟨g1, o1, hA⟩ := HP.out.isSome k hkl
      subst hA
      have hP' := HP.out.keeps (keeps_below HBk.out) (keeps_below HBk.out)
      have e0 := hP'.cell k 0 hkl (by decide)
      have e1 := hP'.cell k 1 hkl (by decide)
      have e2 := hP'.cell k 2 hkl (by decide)
      have e3 := hP'.cell k 3 hkl (by decide)
      have e4 := hP'.cell k 4 hkl (by decide)
      have e5 := hP'.cell k 5 hkl (by decide)
      have hkI : (k : Int) < n := by omega
      have hk0 : (0 : Int) ≤ k := by omega
      have hF1 := fun w' h => HF.out ps[k] (ivs[k]'(by rw [hP'.len]; exact hkl)) w' h
      obtain ⟨b, hpk⟩ : ∃ b, ∀ h : k < ps.length, pred (ps[k]'h) = b := ⟨pred ps[k], fun _ => rfl⟩
      have HPK := Lib.hid hpk
      rw [hpk hkl] at hF1
      rw [Nat.add_zero] at e0
      have HKL := Lib.hid hkl
      generalize (ivs[k]'(by rw [HP.out.len]; exact hkl)) = iv at e0 e1 e2 e3 e4 e5 hF1
      generalize ps[k] = q at e0 e1 e2 e3 e4 e5 hF1
      have HF1 := Lib.hid hF1
      clear hF1 hkl hpk hP'
      cases b
      · go_wp2_with (go_at_call 16; refine (HF1.out _ HBk.out).mono ?_; rintro e w1 ⟨rfl, hb1⟩; have HB1 := Lib.hid (below_then2 HBk.out hb1); clear hb1)
        go_roundw
        case rel => exact ⟨k + 1, by omega, by go_num, fun j h hj => if e : j = k then by subst e; exact HPK.out h else HNO.out j h (by omega), HB1.out⟩
        case measure => simp [intOf]; omega
      · go_wp2_with (go_at_call 16; refine (HF1.out _ HBk.out).mono ?_; rintro e w1 ⟨rfl, hb1⟩; have HB1 := Lib.hid (below_then2 HBk.out hb1); clear hb1)
        go_ret
        exact ⟨⟨k, rfl, .inl ⟨k, rfl, HKL.out, HPK.out _, HNO.out⟩⟩, HB1.out⟩
    · have hk1 : k = n := by omega
      subst hk1
      go_wp2
      go_ret
      exact ⟨⟨-1, rfl, .inr ⟨rfl, fun j h => HNO.out j h (by rw [← HL.out]; exact h)⟩⟩, HBk.out⟩

set_option maxHeartbeats 1000000 in
set_option maxRecDepth 100000 in
theorem cfPaths_any (w : World) (A : Option Addr) (n c g fr to : Nat) (ps : List Pth) (hP : PathsAt w A ps) (hl : ps.length = n) (hn : n ≤ 16) (h0 : w.cell? ⟨g, 0, none⟩ = some (.int .i64 fr)) (h1 : w.cell? ⟨g, 1, none⟩ = some (.int .i64 to))
    (hno : ∀ q ∈ ps, (q.fr == fr && q.to == to) = false) :
    Calls Tryd.prog 25 #[.slice A n c, .func (.func 22) #[] #[.pointer (some ⟨g, 0, none⟩)]] w fun e w' => e = .returned (.bool false) ∧ Below w.heap.size w w' := by
  have HI := Lib.hid (ixPaths_pRight2 w A n c g ps (fun q => q.fr == fr && q.to == to) hP hl hn (fun q iv w' hb => pRight2_any w' g fr to q iv ((cell_below hb h0).trans h0) ((cell_below hb h1).trans h1)))
  have HN := Lib.hid hno
  clear hP h0 h1 hl hno
  go_enter Tryd.func25, Tryd.ntmps25
  go_wp2_with (go_at_call 15; refine HI.out.mono ?_; rintro e w1 ⟨⟨i, rfl, hi⟩, hb1⟩; have HX := Lib.hid (idx_none hi HN.out); have hi1 : i = -1 := (idx_none hi HN.out); subst hi1; have HB1 := Lib.hid hb1; clear hb1 hi)
  go_ret
  exact ⟨rfl, HB1.out⟩
end Go.Proofs.YtokaaniimakfjaaDoor
