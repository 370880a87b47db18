/- pdur.Switch. -/
import Derived.Test.YtokaaniimakfjaaDoorAlY
set_option linter.unusedSimpArgs false
set_option linter.unusedVariables false
set_option linter.unusedSectionVars false
namespace Go.Proofs.YtokaaniimakfjaaDoor
open Go.RowKit

theorem PathsIv.put1 {w : World} {g : Nat} {ps : List Pth} {ivs : List (Option Addr × Nat)} (h : PathsIv w (some ⟨g, 0, none⟩) ps ivs) (k : Nat) (hk : k < ps.length) (l : List ByteArray) (iv' : Option Addr × Nat)
    (hl : l.length ≤ iv'.2) (hs : Sees w 9 iv'.1 (l.map Value.string)) :
    PathsAt (w.setCell ⟨g, k * 6 + 3, none⟩ (.slice iv'.1 l.length iv'.2)) (some ⟨g, 0, none⟩) (ps.set k (ps[k].hold l)) := by
  have hk' : k < ivs.length := by rw [h.len]; exact hk
  have hrow := h.row
  rcases hrow with ⟨hh, _⟩ | ⟨g', o', cur, hA, hg, hx⟩
  · cases hh
  · cases hA
    have B0 : Blk w g 33 cur := hg
    have B1 := B0.set_ (k * 6 + 3) (.slice iv'.1 l.length iv'.2)
    have hlen : k * 6 + 5 < cur.size := by
      have h5 := hx (k * 6 + 5) (.bool ps[k].best) (by rw [flatP_get ps ivs h.len k 5 hk hk' (by decide)]; rfl)
      rw [Nat.zero_add] at h5
      exact (Array.getElem?_eq_some_iff.1 h5).1
    have hlen' : (ivs.set k iv').length = (ps.set k (ps[k].hold l)).length := by simp [h.len]
    refine ⟨ivs.set k iv', hlen', .inr ⟨g, 0, _, rfl, B1, fun j u hj => ?_⟩, fun i hi hi' => ?_⟩
    · have hjl : j < (flatP (ps.set k (ps[k].hold l)) (ivs.set k iv')).length := (List.getElem?_eq_some_iff.1 hj).1
      rw [length_flatP _ _ hlen', List.length_set] at hjl
      have hjd : j = j / 6 * 6 + j % 6 := by omega
      have hjm : j % 6 < 6 := by omega
      have hjk : j / 6 < ps.length := by omega
      obtain ⟨m, hm⟩ : ∃ m, m = j / 6 := ⟨_, rfl⟩
      obtain ⟨i, hi⟩ : ∃ i, i = j % 6 := ⟨_, rfl⟩
      rw [← hm, ← hi] at hjd
      rw [← hm] at hjk
      rw [← hi] at hjm
      subst hjd
      rw [flatP_get _ _ hlen' m i (by simpa using hjk) (by simp [h.len]; exact hjk) hjm] at hj
      rw [Nat.zero_add]
      by_cases hmk : m = k
      · subst hmk
        simp only [List.getElem_set_self] at hj
        have hold : ∀ i, i < 6 → ∀ u, (pcells ps[m] ivs[m])[i]? = some u → cur[m * 6 + i]? = some u := by
          intro i hi u hu
          have := hx (m * 6 + i) u (by rw [flatP_get ps ivs h.len m i hk hk' hi]; exact hu)
          rwa [Nat.zero_add] at this
        have hc : i = 0 ∨ i = 1 ∨ i = 2 ∨ i = 3 ∨ i = 4 ∨ i = 5 := by omega
        rcases hc with rfl | rfl | rfl | rfl | rfl | rfl
        · rw [Array.getElem?_setIfInBounds_ne (by omega)]
          exact hold 0 (by decide) u (by rw [← hj]; rfl)
        · rw [Array.getElem?_setIfInBounds_ne (by omega)]
          exact hold 1 (by decide) u (by rw [← hj]; rfl)
        · rw [Array.getElem?_setIfInBounds_ne (by omega)]
          exact hold 2 (by decide) u (by rw [← hj]; rfl)
        · rw [Array.getElem?_setIfInBounds_self_of_lt (by omega)]
          rw [← hj]; rfl
        · rw [Array.getElem?_setIfInBounds_ne (by omega)]
          exact hold 4 (by decide) u (by rw [← hj]; rfl)
        · rw [Array.getElem?_setIfInBounds_ne (by omega)]
          exact hold 5 (by decide) u (by rw [← hj]; rfl)
      · rw [List.getElem_set_ne (fun e => hmk e.symm), List.getElem_set_ne (fun e => hmk e.symm)] at hj
        rw [Array.getElem?_setIfInBounds_ne (by omega)]
        have := hx (m * 6 + i) u (by rw [flatP_get ps ivs h.len m i hjk (by rw [h.len]; exact hjk) hjm]; exact hj)
        rwa [Nat.zero_add] at this
    · rw [List.length_set] at hi hi'
      have kk : Keeps 9 w (w.setCell ⟨g, k * 6 + 3, none⟩ (.slice iv'.1 l.length iv'.2)) :=
        keeps_set (Keeps.refl _ _) B0 (by decide) _
      by_cases hik : i = k
      · subst hik
        simp only [List.getElem_set_self]
        exact ⟨hl, hs.keeps kk⟩
      · simp only [List.getElem_set_ne (fun e => hik e.symm)]
        exact ⟨(h.item i hi hi').1, (h.item i hi hi').2.keeps kk⟩

/-- a path of the set, emptied. -/
def clear1 (st : Nat) (p : Pth) : Pth := if p.set = st then p.hold [] else p

/-- what the closure of Switch finds. -/
structure SwJ (w0 : World) (g st : Nat) (A B : Option Addr) (n c cb : Nat) (on : List Bool) (ps : List Pth) (W : World) : Prop where
  rou : Blk W w0.heap.size 26 #[.slice A n c, .slice B 3 cb]
  stb : Blk W (w0.heap.size + 1) 3 #[.int .i64 st]
  res : Blk W (w0.heap.size + 1 + 1) 26 #[.slice none 0 0, .slice none 0 0]
  onr : Sees W 4 B (on.map Value.bool)
  pth : PathsAt W (some ⟨g, 0, none⟩) ps
  bel : Below w0.heap.size w0 W
  g0 : w0.heap.size ≤ g
theorem SwJ.step {w0 W W' : World} {g st : Nat} {A B : Option Addr} {n c cb : Nat} {on : List Bool} {ps : List Pth} (h : SwJ w0 g st A B n c cb on ps W) (hb : Below W.heap.size W W') : SwJ w0 g st A B n c cb on ps W' :=
  ⟨h.rou.belowS hb, h.stb.belowS hb, h.res.belowS hb, h.onr.below hb, h.pth.below hb, below_then2 h.bel hb, h.g0⟩
theorem SwJ.drewN {w0 W : World} {g st : Nat} {A B : Option Addr} {n c cb : Nat} {on : List Bool} {ps : List Pth} (h : SwJ w0 g st A B n c cb on ps W) (m : Nat) : SwJ w0 g st A B n c cb on ps (W.drewN m) := h.step (below_drewN (Below.refl _ _) m)
theorem SwJ.blk {w0 W : World} {g st : Nat} {A B : Option Addr} {n c cb : Nat} {on : List Bool} {ps : List Pth} (h : SwJ w0 g st A B n c cb on ps W) : ∃ cur, Blk W g 33 cur := by
  obtain ⟨ivs, hp⟩ := h.pth
  rcases hp.row with ⟨hh, _⟩ | ⟨g', o', cur, hA, hg, hx⟩
  · cases hh
  · cases hA; exact ⟨cur, hg⟩
theorem SwJ.put {w0 W : World} {g st : Nat} {A B : Option Addr} {n c cb : Nat} {on : List Bool} {ps : List Pth} (h : SwJ w0 g st A B n c cb on ps W) (k : Nat) (hk : k < ps.length) :
    SwJ w0 g st A B n c cb on (ps.set k (ps[k].hold [])) (W.setCell ⟨g, k * 6 + 3, none⟩ (.slice none 0 0)) := by
  obtain ⟨cur, hb⟩ := h.blk
  obtain ⟨ivs, hp⟩ := h.pth
  have hp' := hp.put1 k hk [] (none, 0) (Nat.le_refl _) (.inl ⟨rfl, rfl⟩)
  exact ⟨h.rou.far (h.rou.ne_ hb (by decide)) _, h.stb.far (h.stb.ne_ hb (by decide)) _, h.res.far (h.res.ne_ hb (by decide)) _, h.onr.set_ (p := ⟨g, k * 6 + 3, none⟩) hb (by decide) _, hp', h.bel.setCell h.g0 _, h.g0⟩

set_option maxHeartbeats 1000000 in
set_option maxRecDepth 100000 in
theorem pSwitch1_any (w0 w : World) (g st : Nat) (A B : Option Addr) (n c cb : Nat) (on : List Bool) (ps : List Pth) (k : Nat) (hk : k < ps.length) (h : SwJ w0 g st A B n c cb on ps w) :
    Calls Tryd.prog 14 #[.pointer (some ⟨g, k * 6, none⟩), .pointer (some ⟨w0.heap.size + 1, 0, none⟩)] w fun e w' => e = .returned (.tuple #[]) ∧ SwJ w0 g st A B n c cb on (ps.set k (clear1 st ps[k])) w' := by
  obtain ⟨ivs, hP⟩ := h.pth
  have e2 := hP.cell k 2 hk (by decide)
  have e3 := hP.cell k 3 hk (by decide)
  rw [Nat.zero_add] at e2 e3
  have s0 := h.stb.cell 0
  obtain ⟨cur, hcur⟩ := h.blk
  have f3 := hcur.frozen (k * 6 + 3)
  have HJ := Lib.hid h
  have HPUT := Lib.hid (fun W (h : SwJ w0 g st A B n c cb on ps W) => h.put k hk)
  have HSAME := Lib.hid (set_same ps k hk)
  have HCUR := Lib.hid hcur
  unfold clear1
  generalize (ivs[k]'(by rw [hP.len]; exact hk)) = iv at e2 e3
  generalize ps[k] = q at e2 e3 HPUT HSAME ⊢
  obtain ⟨qf, qt, qs, qi, qc, qb⟩ := q
  simp only [pcells] at e2 e3
  clear hP h hcur
  by_cases hs : qs = st
  · subst hs
    simp only [if_pos]
    go_enter Tryd.func14, Tryd.ntmps14
    go_wp2
    go_quiet (fail)
    have HJ1 := Lib.hid (HJ.out.drewN nq)
    have y3 : (w.drewN nq).cell? ⟨g, k * 6 + 3, none⟩ = some (.slice iv.1 qi.length iv.2) := e3
    have g3 : (w.drewN nq).frozen? ⟨g, k * 6 + 3, none⟩ = false := f3
    clear e2 e3 s0 f3
    go_wp2
    go_end0
    exact ⟨rfl, HPUT.out _ HJ1.out⟩
  · have hs2 : ((qs : Int) == st) = false := by simp; omega
    simp only [if_neg hs]
    rw [HSAME.out]
    go_enter Tryd.func14, Tryd.ntmps14
    go_wp2
    go_quiet (fail)
    go_wp2
    go_end0
    exact ⟨rfl, HJ.out.drewN _⟩

/-- the boxes of a call of Switch, and the row of what is on. -/
structure SwB (w0 : World) (st : Nat) (A B : Option Addr) (n c cb : Nat) (on : List Bool) (W : World) : Prop where
  rou : Blk W w0.heap.size 26 #[.slice A n c, .slice B 3 cb]
  stb : Blk W (w0.heap.size + 1) 3 #[.int .i64 st]
  res : Blk W (w0.heap.size + 1 + 1) 26 #[.slice none 0 0, .slice none 0 0]
  onr : Sees W 4 B (on.map Value.bool)
  bel : Below w0.heap.size w0 W
theorem SwB.step {w0 W W' : World} {st : Nat} {A B : Option Addr} {n c cb : Nat} {on : List Bool} (h : SwB w0 st A B n c cb on W) (hb : Below W.heap.size W W') : SwB w0 st A B n c cb on W' :=
  ⟨h.rou.belowS hb, h.stb.belowS hb, h.res.belowS hb, h.onr.below hb, below_then2 h.bel hb⟩
theorem SwB.start (w : World) (st : Nat) (A B : Option Addr) (n c cb : Nat) (on : List Bool) (hO : Sees w 4 B (on.map Value.bool)) :
    SwB w st A B n c cb on (((w.alloc (.cells #[.slice A n c, .slice B 3 cb] 26)).alloc (.cells #[.int .i64 st] 3)).alloc (.cells #[.slice none 0 0, .slice none 0 0] 26)) :=
  have hb : Below w.heap.size w _ := bAlloc (bAlloc (bAlloc (Below.refl _ w) (.cells #[.slice A n c, .slice B 3 cb] 26)) (.cells #[.int .i64 st] 3)) (.cells #[.slice none 0 0, .slice none 0 0] 26)
  ⟨((Blk.new' rfl).alloc _).alloc _, (Blk.new' (by simp)).alloc _, Blk.new' (by simp), hO.below hb, hb⟩
theorem SwB.puton {w0 W : World} {st : Nat} {A B : Option Addr} {n c cb : Nat} {on : List Bool} (h : SwB w0 st A B n c cb on W) (B' : Option Addr) (cb' : Nat) (hO : Sees W 4 B' (on.map Value.bool)) :
    SwB w0 st A B' n c cb' on (W.setCell ⟨w0.heap.size, 1, none⟩ (.slice B' 3 cb')) :=
  ⟨h.rou.set_ 1 _, h.stb.far (by simp) _, h.res.far (by simp; omega) _, hO.set_ (p := ⟨w0.heap.size, 1, none⟩) h.rou (by decide) _, h.bel.setCell (by simp) _⟩
theorem SwB.putr {w0 W : World} {st : Nat} {A B : Option Addr} {n c cb : Nat} {on : List Bool} (h : SwB w0 st A B n c cb on W) (A' : Option Addr) (c' : Nat) :
    SwB w0 st A' B n c' cb on (W.setCell ⟨w0.heap.size, 0, none⟩ (.slice A' n c')) :=
  ⟨h.rou.set_ 0 _, h.stb.far (by simp) _, h.res.far (by simp; omega) _, h.onr.set_ (p := ⟨w0.heap.size, 0, none⟩) h.rou (by decide) _, h.bel.setCell (by simp) _⟩
theorem SwB.turn {w0 W : World} {st g cb n c : Nat} {A : Option Addr} {on : List Bool} (h : SwB w0 st A (some ⟨g, 0, none⟩) n c cb on W) (hg : w0.heap.size ≤ g) (v : Bool) (hst : st < on.length) :
    SwB w0 st A (some ⟨g, 0, none⟩) n c cb (on.set st v) (W.setCell ⟨g, st, none⟩ (.bool v)) := by
  rcases h.onr with ⟨hh, _⟩ | ⟨g', o', cur, hA, hgg, hx⟩
  · cases hh
  · cases hA
    have hb : Blk W g 4 cur := hgg
    refine ⟨h.rou.far (h.rou.ne_ hb (by decide)) _, h.stb.far (h.stb.ne_ hb (by decide)) _, h.res.far (h.res.ne_ hb (by decide)) _, .inr ⟨g, 0, _, rfl, hb.set_ st (.bool v), fun j u hj => ?_⟩, h.bel.setCell hg _⟩
    rw [Nat.zero_add]
    rw [List.map_set] at hj
    by_cases hjs : j = st
    · subst hjs
      have h0 := hx j (.bool on[j]) (by rw [List.getElem?_map, List.getElem?_eq_getElem hst]; rfl)
      rw [Nat.zero_add] at h0
      rw [Array.getElem?_setIfInBounds_self_of_lt (Array.getElem?_eq_some_iff.1 h0).1]
      rw [List.getElem?_set_self (by simpa using hst)] at hj
      exact hj
    · rw [List.getElem?_set_ne (fun e => hjs e.symm)] at hj
      rw [Array.getElem?_setIfInBounds_ne (fun e => hjs e.symm)]
      have := hx j u hj
      rwa [Nat.zero_add] at this
theorem SwB.give {w0 W : World} {st : Nat} {A B : Option Addr} {n c cb : Nat} {on : List Bool} {A' : Option Addr} {ps : List Pth} {v0 v1 : Value} (h : SwB w0 st A B n c cb on W) (hp : PathsAt W A' ps) :
    Blk ((W.setCell ⟨w0.heap.size + 1 + 1, 0, none⟩ v0).setCell ⟨w0.heap.size + 1 + 1, 1, none⟩ v1) (w0.heap.size + 1 + 1) 26 #[v0, v1] ∧
      PathsAt ((W.setCell ⟨w0.heap.size + 1 + 1, 0, none⟩ v0).setCell ⟨w0.heap.size + 1 + 1, 1, none⟩ v1) A' ps ∧
      Sees ((W.setCell ⟨w0.heap.size + 1 + 1, 0, none⟩ v0).setCell ⟨w0.heap.size + 1 + 1, 1, none⟩ v1) 4 B (on.map Value.bool) ∧
      Below w0.heap.size w0 ((W.setCell ⟨w0.heap.size + 1 + 1, 0, none⟩ v0).setCell ⟨w0.heap.size + 1 + 1, 1, none⟩ v1) := by
  have h1 := h.res.set_ 0 v0
  exact ⟨h1.set_ 1 v1, (hp.keeps (keeps_set (Keeps.refl _ _) h.res (by decide) _) (keeps_set (Keeps.refl _ _) h.res (by decide) _)).keeps (keeps_set (Keeps.refl _ _) h1 (by decide) _) (keeps_set (Keeps.refl _ _) h1 (by decide) _),
    (h.onr.set_ (p := ⟨w0.heap.size + 1 + 1, 0, none⟩) h.res (by decide) _).set_ (p := ⟨w0.heap.size + 1 + 1, 1, none⟩) h1 (by decide) _,
    (h.bel.setCell (p := ⟨w0.heap.size + 1 + 1, 0, none⟩) (by simp; omega) v0).setCell (p := ⟨w0.heap.size + 1 + 1, 1, none⟩) (by simp; omega) v1⟩

/-- each, with Switch's closure. -/
theorem sw_each (w W : World) (A B : Option Addr) (n c cb st : Nat) (ps : List Pth) (on : List Bool) (hP : PathsAt w A ps) (hl : ps.length = n) (hok : PsOk ps) (hB : SwB w st A B n c cb on W) :
    Calls Tryd.prog 10 #[.slice A n c, .func (.func 14) #[] #[.pointer (some ⟨w.heap.size + 1, 0, none⟩)]] W fun e w' => ∃ A' c', e = .returned (.slice A' n c') ∧ n ≤ c' ∧ SwB w st A B n c cb on w' ∧ PathsAt w' A' (ps.map (clear1 st)) := by
  have hn : n ≤ 6 := by rw [← hl]; exact hok.len
  have hw2 := hB.bel.size
  refine (pEach_pSwitch1 W A n c ps _ (hP.keeps (keeps_below hB.bel) (keeps_below hB.bel)) hl (by omega)
    (fun g k W' => SwJ w g st A B n c cb on (upto (clear1 st) ps k) W') ?_ ?_).mono ?_
  · intro g W' hg hb hp
    have h3 := hB.step hb
    exact ⟨h3.rou, h3.stb, h3.res, h3.onr, by rw [upto_zero]; exact hp, h3.bel, by omega⟩
  · intro g k W' hk hJ
    have hkp : k < ps.length := by rw [hl]; exact hk
    have hk' : k < (upto (clear1 st) ps k).length := by rw [upto_len]; exact hkp
    have h := pSwitch1_any w W' g st A B n c cb on _ k hk' hJ
    rw [upto_get _ _ _ hk' hkp, upto_set _ _ _ hkp] at h
    exact h
  · rintro e w' ⟨A', c', rfl, hc', h⟩
    refine ⟨A', c', rfl, hc', ?_⟩
    rcases h with ⟨hz, hb, hp⟩ | ⟨g, hg, rfl, hJ⟩
    · have hps : ps = [] := List.eq_nil_of_length_eq_zero (by omega)
      subst hps
      exact ⟨hB.step hb, hp⟩
    · have hj := hJ
      rw [upto_all _ _ _ (by omega)] at hj
      exact ⟨⟨hj.rou, hj.stb, hj.res, hj.onr, hj.bel⟩, hj.pth⟩
end Go.Proofs.YtokaaniimakfjaaDoor
