/- writing a path in its row; what pdur.Put's closure leaves. -/
import Derived.Test.YtokaaniimakfjaaDoorAlT
set_option linter.unusedSimpArgs false
set_option linter.unusedVariables false
set_option linter.unusedSectionVars false
namespace Go.Proofs.YtokaaniimakfjaaDoor
open Go.RowKit

/-- the path p with what waits. -/
abbrev Pth.hold (p : Pth) (l : List ByteArray) : Pth := { p with items := l }

theorem PathsIv.put {w : World} {g : Nat} {ps : List Pth} {ivs : List (Option Addr × Nat)} (h : PathsIv w (some ⟨g, 0, none⟩) ps ivs) (k : Nat) (hk : k < ps.length) (l : List ByteArray) (iv' : Option Addr × Nat)
    (hl : l.length ≤ iv'.2) (hs : Sees w 9 iv'.1 (l.map Value.string)) :
    PathsAt (((w.setCell ⟨g, k * 6 + 3, none⟩ (.slice iv'.1 l.length iv'.2)).setCell ⟨g, k * 6 + 4, none⟩ (.int .i64 ps[k].cap)).setCell ⟨g, k * 6 + 5, none⟩ (.bool ps[k].best)) (some ⟨g, 0, none⟩) (ps.set k (ps[k].hold l)) := by
  have hk' : k < ivs.length := by rw [h.len]; exact hk
  have hrow := h.row
  rcases hrow with ⟨hh, _⟩ | ⟨g', o', cur, hA, hg, hx⟩
  · cases hh
  · cases hA
    have B0 : Blk w g 33 cur := hg
    have B1 := B0.set_ (k * 6 + 3) (.slice iv'.1 l.length iv'.2)
    have B2 := B1.set_ (k * 6 + 4) (.int .i64 ps[k].cap)
    have B3 := B2.set_ (k * 6 + 5) (.bool ps[k].best)
    have hlen : k * 6 + 5 < cur.size := by
      have h5 := hx (k * 6 + 5) (.bool ps[k].best) (by rw [flatP_get ps ivs h.len k 5 hk hk' (by decide)]; rfl)
      rw [Nat.zero_add] at h5
      exact (Array.getElem?_eq_some_iff.1 h5).1
    have hlen' : (ivs.set k iv').length = (ps.set k (ps[k].hold l)).length := by simp [h.len]
    refine ⟨ivs.set k iv', hlen', .inr ⟨g, 0, _, rfl, B3, fun j u hj => ?_⟩, fun i hi hi' => ?_⟩
    · have hjl : j < (flatP (ps.set k (ps[k].hold l)) (ivs.set k iv')).length := (List.getElem?_eq_some_iff.1 hj).1
      rw [length_flatP _ _ hlen', List.length_set] at hjl
      have hjd : j = j / 6 * 6 + j % 6 := by omega
      have hjm : j % 6 < 6 := by omega
      have hjk : j / 6 < ps.length := by omega
      obtain ⟨m, hm⟩ : ∃ m, m = j / 6 := ⟨_, rfl⟩
      obtain ⟨i, hi⟩ : ∃ i, i = j % 6 := ⟨_, rfl⟩
      rw [← hm, ← hi] at hjd
      rw [← hm] at hjk
      rw [← hi] at hjm
      subst hjd
      rw [flatP_get _ _ hlen' m i (by simpa using hjk) (by simp [h.len]; exact hjk) hjm] at hj
      rw [Nat.zero_add]
      by_cases hmk : m = k
      · subst hmk
        simp only [List.getElem_set_self] at hj
        have hold : ∀ i, i < 6 → ∀ u, (pcells ps[m] ivs[m])[i]? = some u → cur[m * 6 + i]? = some u := by
          intro i hi u hu
          have := hx (m * 6 + i) u (by rw [flatP_get ps ivs h.len m i hk hk' hi]; exact hu)
          rwa [Nat.zero_add] at this
        have hc : i = 0 ∨ i = 1 ∨ i = 2 ∨ i = 3 ∨ i = 4 ∨ i = 5 := by omega
        rcases hc with rfl | rfl | rfl | rfl | rfl | rfl
        · rw [Array.getElem?_setIfInBounds_ne (by omega), Array.getElem?_setIfInBounds_ne (by omega), Array.getElem?_setIfInBounds_ne (by omega)]
          exact hold 0 (by decide) u (by rw [← hj]; rfl)
        · rw [Array.getElem?_setIfInBounds_ne (by omega), Array.getElem?_setIfInBounds_ne (by omega), Array.getElem?_setIfInBounds_ne (by omega)]
          exact hold 1 (by decide) u (by rw [← hj]; rfl)
        · rw [Array.getElem?_setIfInBounds_ne (by omega), Array.getElem?_setIfInBounds_ne (by omega), Array.getElem?_setIfInBounds_ne (by omega)]
          exact hold 2 (by decide) u (by rw [← hj]; rfl)
        · rw [Array.getElem?_setIfInBounds_ne (by omega), Array.getElem?_setIfInBounds_ne (by omega), Array.getElem?_setIfInBounds_self_of_lt (by omega)]
          rw [← hj]; rfl
        · rw [Array.getElem?_setIfInBounds_ne (by omega), Array.getElem?_setIfInBounds_self_of_lt (by simp; omega)]
          rw [← hj]; rfl
        · rw [Array.getElem?_setIfInBounds_self_of_lt (by simp; omega)]
          rw [← hj]; rfl
      · rw [List.getElem_set_ne (fun e => hmk e.symm), List.getElem_set_ne (fun e => hmk e.symm)] at hj
        rw [Array.getElem?_setIfInBounds_ne (by omega), Array.getElem?_setIfInBounds_ne (by omega), Array.getElem?_setIfInBounds_ne (by omega)]
        have := hx (m * 6 + i) u (by rw [flatP_get ps ivs h.len m i hjk (by rw [h.len]; exact hjk) hjm]; exact hj)
        rwa [Nat.zero_add] at this
    · rw [List.length_set] at hi hi'
      have kk : Keeps 9 w (((w.setCell ⟨g, k * 6 + 3, none⟩ (.slice iv'.1 l.length iv'.2)).setCell ⟨g, k * 6 + 4, none⟩ (.int .i64 ps[k].cap)).setCell ⟨g, k * 6 + 5, none⟩ (.bool ps[k].best)) :=
        keeps_set (keeps_set (keeps_set (Keeps.refl _ _) B0 (by decide) _) B1 (by decide) _) B2 (by decide) _
      by_cases hik : i = k
      · subst hik
        simp only [List.getElem_set_self]
        exact ⟨hl, hs.keeps kk⟩
      · simp only [List.getElem_set_ne (fun e => hik e.symm)]
        exact ⟨(h.item i hi hi').1, (h.item i hi hi').2.keeps kk⟩
end Go.Proofs.YtokaaniimakfjaaDoor
