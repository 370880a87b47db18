/- pdur.Switch. -/
import Derived.Test.YtokaaniimakfjaaDoorAlZ
set_option linter.unusedSimpArgs false
set_option linter.unusedVariables false
set_option linter.unusedSectionVars false
namespace Go.Proofs.YtokaaniimakfjaaDoor
open Go.RowKit

/-- how Switch answers. -/
def SwPost (w : World) (n st : Nat) (v : Bool) (ps : List Pth) (on : List Bool) (e : Ending) (w' : World) : Prop :=
  ∃ A' c' B' cb', e = .returned (.tuple #[.agg #[.slice A' n c', .slice B' 3 cb'], .int .i64 0]) ∧ n ≤ c' ∧ PathsAt w' A' (if v then ps else ps.map (clear1 st)) ∧ Sees w' 4 B' ((on.set st v).map Value.bool) ∧ Below w.heap.size w w' ∧ ∃ g, B' = some ⟨g, 0, none⟩ ∧ w.heap.size ≤ g

set_option maxHeartbeats 4000000 in
set_option maxRecDepth 100000 in
theorem pSwitch_any (w : World) (A B : Option Addr) (n c cb st : Nat) (v : Bool) (ps : List Pth) (on : List Bool) (hP : PathsAt w A ps) (hl : ps.length = n) (hok : PsOk ps) (hcn : n ≤ c) (hO : Sees w 4 B (on.map Value.bool)) (hon : on.length = 3) (hst : st ≤ 2) :
    Calls Tryd.prog 5 #[.agg #[.slice A n c, .slice B 3 cb], .int .i64 st, .bool v] w fun e w' => SwPost w n st v ps on e w' := by
  have HR := Lib.hid (fun w hP => pRight_any w A B n c cb ps hP hl hok hcn)
  have HP := Lib.hid hP
  have HB := Lib.hid (SwB.start w st A B n c cb on hO)
  have hs0 : (0 : Int) ≤ st := by omega
  have hs3 : (st : Int) < 3 := by omega
  have hstl : st < on.length := by omega
  have HSTL := Lib.hid hstl
  have HC := Lib.hid (fun W hS => clBools_any W B 3 cb (on.map Value.bool) hS (by simpa using hon) (by omega) (by intro u hu; rw [List.mem_map] at hu; obtain ⟨x, _, rfl⟩ := hu; rfl))
  have hown : ∀ (W : World) (b : Nat) (v : Value), W.ownsRow b 4 1 v 3 (on.map Value.bool) → ∃ g c', v = .slice (some ⟨g, 0, none⟩) 3 c' ∧ b ≤ g ∧ Sees W 4 (some ⟨g, 0, none⟩) (on.map Value.bool) := by
    intro W b v h
    have hs := sees_of_own h
    obtain ⟨_, ⟨_, h⟩ | ⟨g, cap, cur, hv, hb, _, hn, _⟩⟩ := h
    · exact absurd h (by decide)
    · subst hv
      obtain ⟨A1, c1, e, _, hs⟩ := hs
      cases e
      exact ⟨g, cap, rfl, hb, hs⟩
  have HOW := Lib.hid hown
  have HE := Lib.hid (fun W B' cb' hB => sw_each w W A B' n c cb' st ps (on.set st v) hP hl hok hB)
  clear hP hO hok hl hown hstl
  cases v
  all_goals
    go_enter Tryd.func5, Tryd.ntmps5
    go_upto_region 4 with (first
      | (go_at_call 9; refine (HR.out _ (HP.out.keeps (keeps_below HB.out.bel) (keeps_below HB.out.bel))).mono ?_; rintro e w1 ⟨rfl, hb1⟩; replace HB := Lib.hid (HB.out.step hb1); have a0 := HB.out.rou.cell 0; have a1 := HB.out.rou.cell 1; have s0 := HB.out.stb.cell 0; clear hb1)
      | (go_at_call 13; refine (HC.out _ HB.out.onr).mono ?_; rintro e w2 ⟨v2, rfl, hown2, hb2⟩; obtain ⟨g, cb2, rfl, hg, hs2⟩ := HOW.out _ _ _ hown2; have HS2 := Lib.hid hs2; have hz1 := HB.out.bel.size; replace HB := Lib.hid (HB.out.step hb2); clear hb2 hown2 a0 a1 s0 hs2; have a1 := HB.out.rou.cell 1; have af := HB.out.rou.frozen 1))
    have HB3 := Lib.hid (HB.out.puton (some ⟨g, 0, none⟩) cb2 HS2.out)
    have hgw : w.heap.size ≤ g := by omega
    clear a1 af HB HS2
    generalize w2.setCell _ _ = w3 at HB3 ⊢
    have a1 := HB3.out.rou.cell 1
    have s0 := HB3.out.stb.cell 0
    have x0 := HB3.out.onr.cell (j := st) (by rw [List.getElem?_map, List.getElem?_eq_getElem HSTL.out]; rfl)
    rw [Nat.zero_add] at x0
    have x0f : w3.frozen? ⟨g, st, none⟩ = false := by
      rcases HB3.out.onr with ⟨hh, _⟩ | ⟨g', o', cur, hA, hg, hx⟩
      · cases hh
      · cases hA; exact Lib.frozen_of_heap hg st
    go_upto_region 5 with fail
  · have hB4 := HB3.out.turn hgw false HSTL.out
    generalize w3.setCell _ _ = w4 at hB4 ⊢
    have HB4 := Lib.hid hB4
    clear hB4 a1 s0 x0 x0f HB3
    have a0 := HB4.out.rou.cell 0
    go_wp2_with (go_at_call 10; refine (HE.out w4 _ _ HB4.out).mono ?_; rintro e w5 ⟨A', c', rfl, hc', hB5, hp5⟩; have HB6 := Lib.hid (hB5.putr A' c'); have HP6 := Lib.hid (hp5.keeps (keeps_set (p := ⟨w.heap.size, 0, none⟩) (Keeps.refl _ _) hB5.rou (by decide) (.slice A' n c')) (keeps_set (p := ⟨w.heap.size, 0, none⟩) (Keeps.refl _ _) hB5.rou (by decide) (.slice A' n c'))); clear a0; have b0 := hB5.rou.cell 0; have b1 := hB5.rou.cell 1; have bf := hB5.rou.frozen 0; have r0 := hB5.res.cell 0; have r1 := hB5.res.cell 1; have f0 := hB5.res.frozen 0; have f1 := hB5.res.frozen 1; clear hB5 hp5)
    clear b0 b1 bf r0 r1 f0 f1
    have hG := HB6.out.give (v0 := .slice A' n c') (v1 := .slice (some ⟨g, 0, none⟩) 3 cb2) HP6.out
    obtain ⟨hg1, hg2, hg3, hg4⟩ := hG
    generalize ((w5.setCell _ _).setCell _ _).setCell _ _ = w10 at hg1 hg2 hg3 hg4 ⊢
    have e2 := hg1.cell 0
    have e3 := hg1.cell 1
    exact bodyPost_ret (v := .tuple #[.agg #[.slice A' n c', .slice (some ⟨g, 0, none⟩) 3 cb2], .int .i64 0]) (by simp [results, Tryd.results5, go_sem, e2, e3]) rfl ⟨_, _, _, cb2, rfl, hc', hg2, hg3, hg4, g, rfl, hgw⟩
  · have hB4 := HB3.out.turn hgw true HSTL.out
    generalize w3.setCell _ _ = w4 at hB4 ⊢
    have HB4 := Lib.hid hB4
    clear hB4 a1 s0 x0 x0f HB3
    have b0 := HB4.out.rou.cell 0
    have b1 := HB4.out.rou.cell 1
    have r0 := HB4.out.res.cell 0
    have r1 := HB4.out.res.cell 1
    have f0 := HB4.out.res.frozen 0
    have f1 := HB4.out.res.frozen 1
    go_wp2
    have HB6 := HB4
    have HP6 := Lib.hid (HP.out.keeps (keeps_below HB4.out.bel) (keeps_below HB4.out.bel))
    clear b0 b1 r0 r1 f0 f1
    have hG := HB6.out.give (v0 := .slice A n c) (v1 := .slice (some ⟨g, 0, none⟩) 3 cb2) HP6.out
    obtain ⟨hg1, hg2, hg3, hg4⟩ := hG
    generalize (w4.setCell _ _).setCell _ _ = w10 at hg1 hg2 hg3 hg4 ⊢
    have e2 := hg1.cell 0
    have e3 := hg1.cell 1
    exact bodyPost_ret (v := .tuple #[.agg #[.slice A n c, .slice (some ⟨g, 0, none⟩) 3 cb2], .int .i64 0]) (by simp [results, Tryd.results5, go_sem, e2, e3]) rfl ⟨_, _, _, cb2, rfl, hcn, hg2, hg3, hg4, g, rfl, hgw⟩
end Go.Proofs.YtokaaniimakfjaaDoor
