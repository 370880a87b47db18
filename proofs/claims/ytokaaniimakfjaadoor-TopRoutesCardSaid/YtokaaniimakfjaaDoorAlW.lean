/- pdur's each; pdur.Switch's closure. -/
import Derived.Test.YtokaaniimakfjaaDoorAlV
set_option linter.unusedSimpArgs false
set_option linter.unusedVariables false
set_option linter.unusedSectionVars false
namespace Go.Proofs.YtokaaniimakfjaaDoor
open Go.RowKit

set_option maxHeartbeats 2000000 in
set_option maxRecDepth 100000 in
theorem pEach_pPut1 (w : World) (A : Option Addr) (n c : Nat) (ps : List Pth) (q1 q2 q3 q4 q5 : Addr) (hP : PathsAt w A ps) (hl : ps.length = n) (hn : n ≤ 16) (J : Nat → Nat → World → Prop)
    (h0 : ∀ g W, w.heap.size ≤ g → Below w.heap.size w W → PathsAt W (some ⟨g, 0, none⟩) ps → J g 0 W)
    (hs : ∀ g k W, k < n → J g k W → Calls Tryd.prog 11 #[.pointer (some ⟨g, k * 6, none⟩), .pointer (some q1), .pointer (some q2), .pointer (some q3), .pointer (some q4), .pointer (some q5)] W fun e W' => e = .returned (.tuple #[]) ∧ J g (k + 1) W') :
    Calls Tryd.prog 10 #[.slice A n c, .func (.func 11) #[] #[.pointer (some q1), .pointer (some q2), .pointer (some q3), .pointer (some q4), .pointer (some q5)]] w fun e w' => ∃ A' c', e = .returned (.slice A' n c') ∧ n ≤ c' ∧ ((n = 0 ∧ Below w.heap.size w w' ∧ PathsAt w' A' ps) ∨ ∃ g, w.heap.size ≤ g ∧ A' = some ⟨g, 0, none⟩ ∧ J g n w') := by
  obtain ⟨ivs, hP⟩ := hP
  have HC := Lib.hid (clPaths_any w A n c (flatP ps ivs) hP.row (by rw [length_flatP _ _ hP.len, hl]) (by omega) (flatP_one ps ivs))
  have HP := Lib.hid hP; have HL := Lib.hid hl; have H0 := Lib.hid h0; have HS := Lib.hid hs
  clear hP hl h0 hs
  go_enter Tryd.func10, Tryd.ntmps10
  by_cases hz : n = 0
  · subst hz
    go_wp2_with (go_at_call 18; refine HC.out.mono ?_; rintro e w1 ⟨v1, rfl, hown1, hb1⟩; obtain ⟨A1, c1, rfl, hc1, hs1⟩ := sees_of_own hown1; have HS1 := Lib.hid hs1; have HB1 := Lib.hid hb1; clear hs1 hb1 hown1)
    go_loopw [10] (fun s wr => s = .int .i64 0 ∧ wr = w1) (fun _ _ => 0)
    case atStart => exact ⟨rfl, rfl⟩
    case round =>
      obtain ⟨rfl, rfl⟩ := hrel
      go_wp2
      go_ret
      exact ⟨A1, ⟨c1, rfl⟩, .inl ⟨HB1.out, ivs, HP.out.len, HS1.out, fun k h _ => by rw [HL.out] at h; exact absurd h (Nat.not_lt_zero _)⟩⟩
  · have hown : ∀ (W : World) (v : Value), W.ownsRow w.heap.size 33 6 v n (flatP ps ivs) → ∃ g c', v = .slice (some ⟨g, 0, none⟩) n c' ∧ w.heap.size ≤ g ∧ n ≤ c' := by
      intro W v h
      obtain ⟨_, ⟨_, h⟩ | ⟨g, cap, cur, hv, hb, _, hn, _⟩⟩ := h
      · exact absurd h hz
      · exact ⟨g, cap, hv, hb, hn⟩
    have HOW := Lib.hid hown
    clear hown
    go_wp2_with (go_at_call 18; refine HC.out.mono ?_; rintro e w1 ⟨v1, rfl, hown1, hb1⟩; obtain ⟨g1, c1, rfl, hg1, hc1⟩ := HOW.out _ _ hown1; have HS1 := Lib.hid hown1; have HB1 := Lib.hid hb1; clear hb1 hown1)
    go_loopw [10] (fun s wr => ∃ k : Nat, k ≤ n ∧ s = .int .i64 (k : Nat) ∧ J g1 k wr) (fun s _ => n - (intOf s).toNat)
    case atStart =>
      refine ⟨0, by omega, rfl, H0.out g1 w1 hg1 HB1.out ⟨ivs, HP.out.len, ?_, fun k h h' => ⟨(HP.out.item k h h').1, (HP.out.item k h h').2.below HB1.out⟩⟩⟩
      obtain ⟨A2, c2, e, _, hs2⟩ := sees_of_own HS1.out
      cases e; exact hs2
    case round =>
      obtain ⟨k, hk, rfl, hJ⟩ := hrel
      have HJ := Lib.hid hJ
      clear hJ
      by_cases hlt : k < n
      · have hkI : (k : Int) < n := by omega
        have hk0 : (0 : Int) ≤ k := by omega
        go_wp2_with (go_at_call 11; refine (HS.out g1 k wr hlt HJ.out).mono ?_; rintro e w2 ⟨rfl, hJ2⟩; have HJ2 := Lib.hid hJ2; clear hJ2)
        go_roundw
        case rel => exact ⟨k + 1, by omega, by go_num, HJ2.out⟩
        case measure => simp [intOf]; omega
      · have hk1 : k = n := by omega
        subst hk1
        go_wp2
        go_ret
        exact ⟨_, c1, rfl, hc1, .inr ⟨g1, hg1, rfl, HJ.out⟩⟩

set_option maxHeartbeats 2000000 in
set_option maxRecDepth 100000 in
theorem pEach_pSwitch1 (w : World) (A : Option Addr) (n c : Nat) (ps : List Pth) (q1 : Addr) (hP : PathsAt w A ps) (hl : ps.length = n) (hn : n ≤ 16) (J : Nat → Nat → World → Prop)
    (h0 : ∀ g W, w.heap.size ≤ g → Below w.heap.size w W → PathsAt W (some ⟨g, 0, none⟩) ps → J g 0 W)
    (hs : ∀ g k W, k < n → J g k W → Calls Tryd.prog 14 #[.pointer (some ⟨g, k * 6, none⟩), .pointer (some q1)] W fun e W' => e = .returned (.tuple #[]) ∧ J g (k + 1) W') :
    Calls Tryd.prog 10 #[.slice A n c, .func (.func 14) #[] #[.pointer (some q1)]] w fun e w' => ∃ A' c', e = .returned (.slice A' n c') ∧ n ≤ c' ∧ ((n = 0 ∧ Below w.heap.size w w' ∧ PathsAt w' A' ps) ∨ ∃ g, w.heap.size ≤ g ∧ A' = some ⟨g, 0, none⟩ ∧ J g n w') := by
  obtain ⟨ivs, hP⟩ := hP
  have HC := Lib.hid (clPaths_any w A n c (flatP ps ivs) hP.row (by rw [length_flatP _ _ hP.len, hl]) (by omega) (flatP_one ps ivs))
  have HP := Lib.hid hP; have HL := Lib.hid hl; have H0 := Lib.hid h0; have HS := Lib.hid hs
  clear hP hl h0 hs
  go_enter Tryd.func10, Tryd.ntmps10
  by_cases hz : n = 0
  · subst hz
    go_wp2_with (go_at_call 18; refine HC.out.mono ?_; rintro e w1 ⟨v1, rfl, hown1, hb1⟩; obtain ⟨A1, c1, rfl, hc1, hs1⟩ := sees_of_own hown1; have HS1 := Lib.hid hs1; have HB1 := Lib.hid hb1; clear hs1 hb1 hown1)
    go_loopw [10] (fun s wr => s = .int .i64 0 ∧ wr = w1) (fun _ _ => 0)
    case atStart => exact ⟨rfl, rfl⟩
    case round =>
      obtain ⟨rfl, rfl⟩ := hrel
      go_wp2
      go_ret
      exact ⟨A1, ⟨c1, rfl⟩, .inl ⟨HB1.out, ivs, HP.out.len, HS1.out, fun k h _ => by rw [HL.out] at h; exact absurd h (Nat.not_lt_zero _)⟩⟩
  · have hown : ∀ (W : World) (v : Value), W.ownsRow w.heap.size 33 6 v n (flatP ps ivs) → ∃ g c', v = .slice (some ⟨g, 0, none⟩) n c' ∧ w.heap.size ≤ g ∧ n ≤ c' := by
      intro W v h
      obtain ⟨_, ⟨_, h⟩ | ⟨g, cap, cur, hv, hb, _, hn, _⟩⟩ := h
      · exact absurd h hz
      · exact ⟨g, cap, hv, hb, hn⟩
    have HOW := Lib.hid hown
    clear hown
    go_wp2_with (go_at_call 18; refine HC.out.mono ?_; rintro e w1 ⟨v1, rfl, hown1, hb1⟩; obtain ⟨g1, c1, rfl, hg1, hc1⟩ := HOW.out _ _ hown1; have HS1 := Lib.hid hown1; have HB1 := Lib.hid hb1; clear hb1 hown1)
    go_loopw [10] (fun s wr => ∃ k : Nat, k ≤ n ∧ s = .int .i64 (k : Nat) ∧ J g1 k wr) (fun s _ => n - (intOf s).toNat)
    case atStart =>
      refine ⟨0, by omega, rfl, H0.out g1 w1 hg1 HB1.out ⟨ivs, HP.out.len, ?_, fun k h h' => ⟨(HP.out.item k h h').1, (HP.out.item k h h').2.below HB1.out⟩⟩⟩
      obtain ⟨A2, c2, e, _, hs2⟩ := sees_of_own HS1.out
      cases e; exact hs2
    case round =>
      obtain ⟨k, hk, rfl, hJ⟩ := hrel
      have HJ := Lib.hid hJ
      clear hJ
      by_cases hlt : k < n
      · have hkI : (k : Int) < n := by omega
        have hk0 : (0 : Int) ≤ k := by omega
        go_wp2_with (go_at_call 14; refine (HS.out g1 k wr hlt HJ.out).mono ?_; rintro e w2 ⟨rfl, hJ2⟩; have HJ2 := Lib.hid hJ2; clear hJ2)
        go_roundw
        case rel => exact ⟨k + 1, by omega, by go_num, HJ2.out⟩
        case measure => simp [intOf]; omega
      · have hk1 : k = n := by omega
        subst hk1
        go_wp2
        go_ret
        exact ⟨_, c1, rfl, hc1, .inr ⟨g1, hg1, rfl, HJ.out⟩⟩
end Go.Proofs.YtokaaniimakfjaaDoor
