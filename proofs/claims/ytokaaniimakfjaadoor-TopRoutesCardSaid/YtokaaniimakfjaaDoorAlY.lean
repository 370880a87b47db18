/- pdur.Take. -/
import Derived.Test.YtokaaniimakfjaaDoorAlX
set_option linter.unusedSimpArgs false
set_option linter.unusedVariables false
set_option linter.unusedSectionVars false
namespace Go.Proofs.YtokaaniimakfjaaDoor
open Go.RowKit

theorem idx_ex (pred : Pth → Bool) : ∀ ps : List Pth, ∃ i, IdxP pred ps i
  | [] => ⟨-1, .inr ⟨rfl, fun j h => by simp at h⟩⟩
  | p :: ps => by
    cases hp : pred p
    · obtain ⟨i, ⟨k, _, hk, ht, hno⟩ | ⟨_, hno⟩⟩ := idx_ex pred ps
      · refine ⟨((k + 1 : Nat) : Int), .inl ⟨k + 1, rfl, by simpa using hk, by simpa using ht, ?_⟩⟩
        intro j h hj
        cases j with
        | zero => exact hp
        | succ j => simpa using hno j (by simpa using h) (by omega)
      · refine ⟨-1, .inr ⟨rfl, ?_⟩⟩
        intro j h
        cases j with
        | zero => exact hp
        | succ j => simpa using hno j (by simpa using h)
    · exact ⟨((0 : Nat) : Int), .inl ⟨0, rfl, by simp, hp, fun j _ h => absurd h (Nat.not_lt_zero _)⟩⟩
theorem idx_eq {pred : Pth → Bool} {ps : List Pth} {i i' : Int} (h : IdxP pred ps i) (h' : IdxP pred ps i') : i = i' := by
  rcases h with ⟨k, rfl, hk, ht, hno⟩ | ⟨rfl, hno⟩ <;> rcases h' with ⟨k', rfl, hk', ht', hno'⟩ | ⟨rfl, hno'⟩
  · have h1 : ¬ k < k' := fun h => by rw [hno' k hk h] at ht; cases ht
    have h2 : ¬ k' < k := fun h => by rw [hno k' hk' h] at ht'; cases ht'
    omega
  · rw [hno' k hk] at ht; cases ht
  · rw [hno k' hk'] at ht'; cases ht'
  · rfl

/-- the boxes of a call of Take. -/
structure TakB (w0 : World) (dst : Nat) (A B : Option Addr) (n c cb : Nat) (W : World) : Prop where
  rou : Blk W w0.heap.size 26 #[.slice A n c, .slice B 3 cb]
  tob : Blk W (w0.heap.size + 1) 3 #[.int .i64 dst]
  res : Blk W (w0.heap.size + 1 + 1) 26 #[.slice none 0 0, .slice none 0 0]
  bel : Below w0.heap.size w0 W
theorem TakB.step {w0 W W' : World} {dst : Nat} {A B : Option Addr} {n c cb : Nat} (h : TakB w0 dst A B n c cb W) (hb : Below W.heap.size W W') : TakB w0 dst A B n c cb W' :=
  ⟨h.rou.belowS hb, h.tob.belowS hb, h.res.belowS hb, below_then2 h.bel hb⟩
theorem TakB.start (w : World) (dst : Nat) (A B : Option Addr) (n c cb : Nat) :
    TakB w dst A B n c cb (((w.alloc (.cells #[.slice A n c, .slice B 3 cb] 26)).alloc (.cells #[.int .i64 dst] 3)).alloc (.cells #[.slice none 0 0, .slice none 0 0] 26)) :=
  ⟨((Blk.new' rfl).alloc _).alloc _, (Blk.new' (by simp)).alloc _, Blk.new' (by simp), bAlloc (bAlloc (bAlloc (Below.refl _ _) _) _) _⟩

theorem TakB.putr {w0 W : World} {dst : Nat} {A B : Option Addr} {n c cb : Nat} (h : TakB w0 dst A B n c cb W) (A' : Option Addr) (c' : Nat) : TakB w0 dst A' B n c' cb (W.setCell ⟨w0.heap.size, 0, none⟩ (.slice A' n c')) :=
  ⟨h.rou.set_ 0 _, h.tob.far (by simp) _, h.res.far (by simp; omega) _, h.bel.setCell (by simp) _⟩
theorem TakB.far {w0 W : World} {dst : Nat} {A B : Option Addr} {n c cb : Nat} {p : Addr} {t : TypeId} {cs : Array Value} (h : TakB w0 dst A B n c cb W) (hp : Blk W p.block t cs) (h1 : t = 33) (hw : w0.heap.size ≤ p.block) (u : Value) : TakB w0 dst A B n c cb (W.setCell p u) := by
  subst h1
  exact ⟨h.rou.far (h.rou.ne_ hp (by decide)) _, h.tob.far (h.tob.ne_ hp (by decide)) _, h.res.far (h.res.ne_ hp (by decide)) _, h.bel.setCell hw _⟩
theorem TakB.give {w0 W : World} {dst : Nat} {A B : Option Addr} {n c cb : Nat} {A' : Option Addr} {ps : List Pth} {v0 v1 : Value} (h : TakB w0 dst A B n c cb W) (hp : PathsAt W A' ps) :
    Blk ((W.setCell ⟨w0.heap.size + 1 + 1, 0, none⟩ v0).setCell ⟨w0.heap.size + 1 + 1, 1, none⟩ v1) (w0.heap.size + 1 + 1) 26 #[v0, v1] ∧
      PathsAt ((W.setCell ⟨w0.heap.size + 1 + 1, 0, none⟩ v0).setCell ⟨w0.heap.size + 1 + 1, 1, none⟩ v1) A' ps ∧
      Below w0.heap.size w0 ((W.setCell ⟨w0.heap.size + 1 + 1, 0, none⟩ v0).setCell ⟨w0.heap.size + 1 + 1, 1, none⟩ v1) := by
  have h1 := h.res.set_ 0 v0
  exact ⟨h1.set_ 1 v1, (hp.keeps (keeps_set (Keeps.refl _ _) h.res (by decide) _) (keeps_set (Keeps.refl _ _) h.res (by decide) _)).keeps (keeps_set (Keeps.refl _ _) h1 (by decide) _) (keeps_set (Keeps.refl _ _) h1 (by decide) _),
    (h.bel.setCell (p := ⟨w0.heap.size + 1 + 1, 0, none⟩) (by simp; omega) v0).setCell (p := ⟨w0.heap.size + 1 + 1, 1, none⟩) (by simp; omega) v1⟩

def takes (dst : Nat) (q : Pth) : Bool := q.«to» == dst && decide (0 < q.items.length)

set_option maxHeartbeats 4000000 in
set_option maxRecDepth 100000 in
theorem pTake_none (w : World) (A B : Option Addr) (n c cb dst : Nat) (ps : List Pth) (hP : PathsAt w A ps) (hl : ps.length = n) (hok : PsOk ps) (hcn : n ≤ c) (hi : IdxP (takes dst) ps (-1)) :
    Calls Tryd.prog 6 #[.agg #[.slice A n c, .slice B 3 cb], .int .i64 dst] w fun e w' => e = .returned (.tuple #[.agg #[.slice none 0 0, .slice none 0 0], .int .i64 0, .string ⟨#[]⟩, .int .i64 21]) ∧ Below w.heap.size w w' := by
  have HR := Lib.hid (fun w hP => pRight_any w A B n c cb ps hP hl hok hcn)
  have hn : n ≤ 6 := by rw [← hl]; exact hok.len
  have HX := Lib.hid (fun W hB hP => ixPaths_pTake1 W A n c (w.heap.size + 1) ps (takes dst) hP hl (by omega) (fun q iv w' hb => pTake1_any w' (w.heap.size + 1) dst q iv ((cell_below hb ((TakB.tob (dst := dst) (A := A) (B := B) (n := n) (c := c) (cb := cb) (w0 := w) (W := W) hB).cell 0)).trans (hB.tob.cell 0))))
  have HP := Lib.hid hP
  have HB := Lib.hid (TakB.start w dst A B n c cb)
  have HI := Lib.hid hi
  clear hP hl hok hi
  go_enter Tryd.func6, Tryd.ntmps6
  go_wp2_with (first
    | (go_at_call 9; refine (HR.out _ (HP.out.keeps (keeps_below HB.out.bel) (keeps_below HB.out.bel))).mono ?_; rintro e w1 ⟨rfl, hb1⟩; replace HB := Lib.hid (HB.out.step hb1); have a0 := HB.out.rou.cell 0; clear hb1)
    | (go_at_call 15; refine (HX.out _ HB.out (HP.out.keeps (keeps_below HB.out.bel) (keeps_below HB.out.bel))).mono ?_; rintro e w2 ⟨⟨i, rfl, hi2⟩, hb2⟩; have hi3 := idx_eq hi2 HI.out; subst hi3; replace HB := Lib.hid (HB.out.step hb2); have r0 := HB.out.res.cell 0; have r1 := HB.out.res.cell 1; have f0 := HB.out.res.frozen 0; have f1 := HB.out.res.frozen 1; clear hb2 hi2 a0))
  have hg := (HB.out.res.set_ 0 (.slice none 0 0)).set_ 1 (.slice none 0 0)
  have hb := (HB.out.bel.setCell (p := ⟨w.heap.size + 1 + 1, 0, none⟩) (by simp; omega) (.slice none 0 0)).setCell (p := ⟨w.heap.size + 1 + 1, 1, none⟩) (by simp; omega) (.slice none 0 0)
  generalize (w2.setCell _ _).setCell _ _ = w9 at hg hb ⊢
  have g0 := hg.cell 0
  have g1 := hg.cell 1
  exact bodyPost_ret (v := .tuple #[.agg #[.slice none 0 0, .slice none 0 0], .int .i64 0, .string ⟨#[]⟩, .int .i64 21]) (by simp [results, Tryd.results6, go_sem, g0, g1]) rfl ⟨rfl, hb⟩

set_option maxHeartbeats 4000000 in
set_option maxRecDepth 100000 in
theorem pTake_some (w : World) (A B : Option Addr) (n c cb dst : Nat) (ps : List Pth) (k : Nat) (hk : k < ps.length) (x : ByteArray) (l : List ByteArray) (hP : PathsAt w A ps) (hl : ps.length = n) (hok : PsOk ps) (hcn : n ≤ c) (hi : IdxP (takes dst) ps (k : Int)) (hx : ps[k].items = x :: l) :
    Calls Tryd.prog 6 #[.agg #[.slice A n c, .slice B 3 cb], .int .i64 dst] w fun e w' => ∃ A' c', e = .returned (.tuple #[.agg #[.slice A' n c', .slice B 3 cb], .int .i64 ps[k].fr, .string x, .int .i64 0]) ∧ n ≤ c' ∧ PathsAt w' A' (ps.set k (ps[k].hold l)) ∧ Below w.heap.size w w' := by
  have HR := Lib.hid (fun w hP => pRight_any w A B n c cb ps hP hl hok hcn)
  have hn : n ≤ 6 := by rw [← hl]; exact hok.len
  have HX := Lib.hid (fun W hB hP => ixPaths_pTake1 W A n c (w.heap.size + 1) ps (takes dst) hP hl (by omega) (fun q iv w' hb => pTake1_any w' (w.heap.size + 1) dst q iv ((cell_below hb ((TakB.tob (dst := dst) (A := A) (B := B) (n := n) (c := c) (cb := cb) (w0 := w) (W := W) hB).cell 0)).trans (hB.tob.cell 0))))
  have HP := Lib.hid hP
  have HB := Lib.hid (TakB.start w dst A B n c cb)
  have HI := Lib.hid hi
  have hkI : (k : Int) < n := by omega
  have hk0 : (0 : Int) ≤ k := by omega
  obtain ⟨ivs, hPi⟩ := hP
  have hk' : k < ivs.length := by rw [hPi.len]; exact hk
  obtain ⟨g1, o1, hA⟩ := hPi.isSome k hk
  subst hA
  have hokk := hok.ok _ (List.getElem_mem hk)
  have hit := hPi.item k hk hk'
  rw [hx] at hit
  have hlen : l.length + 1 = ps[k].items.length := by rw [hx]; simp
  obtain ⟨iv, hiv⟩ : ∃ iv, iv = ivs[k]'hk' := ⟨_, rfl⟩
  obtain ⟨q, hq⟩ : ∃ q, q = ps[k] := ⟨_, rfl⟩
  have hT := (fun w (hS : Sees w 9 (ivs[k]'hk').1 ((x :: l).map Value.string)) => rgTake_any w ivs[k].1 ps[k].items.length ivs[k].2 ps[k].cap ps[k].best x l hlen hS (by rw [hx]; exact hit.1) hokk.cap1 (by have := hokk.cap3; omega) hokk.len)
  have HC := Lib.hid (fun w hS => clPaths_any w (some ⟨g1, o1, none⟩) n c (flatP ps ivs) hS (by rw [length_flatP _ _ hPi.len, hl]) (by omega) (flatP_one ps ivs))
  rw [← hiv, ← hq] at hT
  rw [← hiv] at hit
  rw [← hq] at hlen ⊢
  have HT := Lib.hid hT
  have HPI := Lib.hid hPi
  have HIT := Lib.hid hit.2
  have hz : ¬ n = 0 := by omega
  have hown : ∀ (W : World) (b : Nat) (v : Value), W.ownsRow b 33 6 v n (flatP ps ivs) → ∃ g c', v = .slice (some ⟨g, 0, none⟩) n c' ∧ b ≤ g ∧ n ≤ c' := by
    intro W b v h
    obtain ⟨_, ⟨_, h⟩ | ⟨g, cap, cur, hv, hb, _, hn, _⟩⟩ := h
    · exact absurd h hz
    · exact ⟨g, cap, hv, hb, hn⟩
  have HOW := Lib.hid hown
  have HKK := Lib.hid hk
  have HLL := Lib.hid hlen
  have HIV := Lib.hid hiv
  have HQ := Lib.hid hq
  clear hl hok hi hPi hit hokk hx hown hz hlen hT hiv hq
  go_enter Tryd.func6, Tryd.ntmps6
  go_upto_region 6 with (first
    | (go_at_call 9; refine (HR.out _ (HP.out.keeps (keeps_below HB.out.bel) (keeps_below HB.out.bel))).mono ?_; rintro e w1 ⟨rfl, hb1⟩; replace HB := Lib.hid (HB.out.step hb1); have a0 := HB.out.rou.cell 0; clear hb1)
    | (go_at_call 15; refine (HX.out _ HB.out (HP.out.keeps (keeps_below HB.out.bel) (keeps_below HB.out.bel))).mono ?_; rintro e w2 ⟨⟨i, rfl, hi2⟩, hb2⟩; have hi3 := idx_eq hi2 HI.out; subst hi3; replace HB := Lib.hid (HB.out.step hb2); clear hb2 hi2 a0))
  have hP2 := HPI.out.keeps (keeps_below HB.out.bel) (keeps_below HB.out.bel)
  have HIT2 := Lib.hid (HIT.out.keeps (keeps_below HB.out.bel))
  have e3 := hP2.cell k 3 HKK.out (by decide)
  have e4 := hP2.cell k 4 HKK.out (by decide)
  have e5 := hP2.cell k 5 HKK.out (by decide)
  rw [← HQ.out, ← HIV.out] at e3 e4 e5
  have HP2 := Lib.hid hP2
  have a0 := HB.out.rou.cell 0
  have hzw := HB.out.res.lt
  clear hP2
  go_upto_region 8 with (first
    | (go_at_call 17; refine (HT.out _ HIT2.out).mono ?_; rintro e w3 ⟨A3, c3, rfl, hc3, hs3, hb3⟩; have HS3 := Lib.hid (hs3.below (bAlloc (Below.refl _ w3) (.cells #[.slice A3 (q.items.length - 1) c3, .int .i64 q.cap, .bool q.best] 31))); have hz3 := hb3.size; replace HB := Lib.hid (HB.out.step (bAlloc hb3 (.cells #[.slice A3 (q.items.length - 1) c3, .int .i64 q.cap, .bool q.best] 31))); have HP4 := Lib.hid (HP2.out.keeps (keeps_below (bAlloc hb3 (.cells #[.slice A3 (q.items.length - 1) c3, .int .i64 q.cap, .bool q.best] 31))) (keeps_below (bAlloc hb3 (.cells #[.slice A3 (q.items.length - 1) c3, .int .i64 q.cap, .bool q.best] 31)))); have HK4 := Lib.hid (Blk.new w3 31 #[.slice A3 (q.items.length - 1) c3, .int .i64 q.cap, .bool q.best]); clear hs3 hb3 a0 e3 e4 e5; have a0 := HB.out.rou.cell 0)
    | (go_at_call 18; refine (HC.out _ HP4.out.row).mono ?_; rintro e w5 ⟨v5, rfl, hown5, hb5⟩; obtain ⟨g, c', rfl, hg, hc'⟩ := HOW.out _ _ _ hown5; have HOW5 := Lib.hid hown5; have HB5 := Lib.hid hb5; replace HB := Lib.hid (HB.out.step hb5); replace HK4 := Lib.hid (HK4.out.belowS hb5); replace HS3 := Lib.hid (HS3.out.below hb5); clear hown5 hb5 a0; have a0 := HB.out.rou.cell 0; have af := HB.out.rou.frozen 0; have k0 := HK4.out.cell 0; have k1 := HK4.out.cell 1; have k2 := HK4.out.cell 2; have hne1 : ¬ (w3.heap.size = w.heap.size) := (by omega); have hne2 : ¬ (w.heap.size = w3.heap.size) := (by omega)))
  have hP5 : PathsIv w5 (some ⟨g, 0, none⟩) ps ivs := by
    refine ⟨HPI.out.len, ?_, fun j h h' => ⟨(HPI.out.item j h h').1, (HPI.out.item j h h').2.keeps (keeps_below HB.out.bel)⟩⟩
    obtain ⟨A2, c2, e, _, hs2⟩ := sees_of_own HOW5.out
    cases e; exact hs2
  have hP6 := hP5.keeps (keeps_set (p := ⟨w.heap.size, 0, none⟩) (Keeps.refl _ _) HB.out.rou (by decide) (.slice (some ⟨g, 0, none⟩) n c')) (keeps_set (p := ⟨w.heap.size, 0, none⟩) (Keeps.refl _ _) HB.out.rou (by decide) (.slice (some ⟨g, 0, none⟩) n c'))
  have HB6 := Lib.hid (HB.out.putr (some ⟨g, 0, none⟩) c')
  have hk6 := HK4.out.far (p := ⟨w.heap.size, 0, none⟩) hne1 (.slice (some ⟨g, 0, none⟩) n c')
  have HS6 := Lib.hid (HS3.out.set_ (p := ⟨w.heap.size, 0, none⟩) HB.out.rou (by decide) (.slice (some ⟨g, 0, none⟩) n c'))
  have hgw : w.heap.size ≤ g := by simp at hg; omega
  clear a0 af k0 k1 k2 hP5 HB HK4 HS3 HOW5 HB5 hg
  generalize w5.setCell _ _ = w6 at hP6 HB6 hk6 HS6 ⊢
  have a0 := HB6.out.rou.cell 0
  have k0 := hk6.cell 0
  have k1 := hk6.cell 1
  have k2 := hk6.cell 2
  obtain ⟨cur, hcur⟩ : ∃ cur, Blk w6 g 33 cur := by
    rcases hP6.row with ⟨hh, _⟩ | ⟨g', o', cur, hA, hg, hx⟩
    · cases hh
    · cases hA; exact ⟨cur, hg⟩
  have z3 := hP6.cell k 3 HKK.out (by decide)
  have z4 := hP6.cell k 4 HKK.out (by decide)
  have z5 := hP6.cell k 5 HKK.out (by decide)
  rw [← HQ.out, ← HIV.out, Nat.zero_add] at z3 z4 z5
  have q3 := hcur.frozen (k * 6 + 3)
  have q4 := hcur.frozen (k * 6 + 4)
  have q5 := hcur.frozen (k * 6 + 5)
  have hput := hP6.put k HKK.out l (A3, c3) (by have := HLL.out; simp only; omega) HS6.out
  rw [← HQ.out] at hput
  have hll : l.length = q.items.length - 1 := by have := HLL.out; omega
  rw [hll] at hput
  have c1 := hcur.set_ (k * 6 + 3) (.slice A3 (q.items.length - 1) c3)
  have c2 := c1.set_ (k * 6 + 4) (.int .i64 q.cap)
  have HB9 := Lib.hid (((HB6.out.far (p := ⟨g, k * 6 + 3, none⟩) hcur rfl hgw (.slice A3 (q.items.length - 1) c3)).far (p := ⟨g, k * 6 + 4, none⟩) c1 rfl hgw (.int .i64 q.cap)).far (p := ⟨g, k * 6 + 5, none⟩) c2 rfl hgw (.bool q.best))
  have HPUT := Lib.hid hput
  have HCUR := Lib.hid hcur
  clear hput hcur c1 c2 hk6 hP6 hll
  go_upto_region 9 with fail
  clear a0 k0 k1 k2 z3 z4 z5 q3 q4 q5
  have hput := HPUT.out
  simp only at hput
  generalize (((w6.setCell _ _).setCell _ _).setCell _ _) = w9 at hput HB9 ⊢
  clear HPUT
  have HPUT := Lib.hid hput
  obtain ⟨ivs9, hP9⟩ := hput
  have hk9 : k < (ps.set k (q.hold l)).length := by rw [List.length_set]; exact HKK.out
  have z0 : w9.cell? ⟨g, k * 6, none⟩ = some (.int .i64 q.fr) := by
    have h := hP9.cell k 0 hk9 (by decide)
    simp only [List.getElem_set_self, pcells] at h
    rw [Nat.zero_add, Nat.add_zero] at h
    exact h
  have b0 := HB9.out.rou.cell 0
  have b1 := HB9.out.rou.cell 1
  have r0 := HB9.out.res.cell 0
  have r1 := HB9.out.res.cell 1
  have f0 := HB9.out.res.frozen 0
  have f1 := HB9.out.res.frozen 1
  obtain ⟨cur9, hcur9⟩ : ∃ cur, Blk w9 g 33 cur := by
    rcases hP9.row with ⟨hh, _⟩ | ⟨g', o', cur, hA, hg, hx⟩
    · cases hh
    · cases hA; exact ⟨cur, hg⟩
  have hx1 : ¬ (g = w.heap.size + 1 + 1) := hcur9.ne_ HB9.out.res (by decide)
  have hx2 : ¬ (w.heap.size + 1 + 1 = g) := fun e => hx1 e.symm
  clear hP9 hcur9
  go_region
  all_goals
    go_wp2
    have hG := HB9.out.give (v0 := .slice (some ⟨g, 0, none⟩) n c') (v1 := .slice B 3 cb) HPUT.out
    obtain ⟨hg1, hg2, hg3⟩ := hG
    generalize (w9.setCell _ _).setCell _ _ = w10 at hg1 hg2 hg3 ⊢
    have HG2 := Lib.hid (hg2.below (below_drewN (Below.refl _ _) 1))
    have HG3 := Lib.hid (below_drewN hg3 1)
    have g0 := (hg1.drewN 1).cell 0
    have g1 := (hg1.drewN 1).cell 1
    have e0 : w10.drew.cell? ⟨w.heap.size + 1 + 1, 0, none⟩ = some (.slice (some ⟨g, 0, none⟩) n c') := g0
    have e1 : w10.drew.cell? ⟨w.heap.size + 1 + 1, 1, none⟩ = some (.slice B 3 cb) := g1
    have e2 : w10.cell? ⟨w.heap.size + 1 + 1, 0, none⟩ = some (.slice (some ⟨g, 0, none⟩) n c') := g0
    have e3 : w10.cell? ⟨w.heap.size + 1 + 1, 1, none⟩ = some (.slice B 3 cb) := g1
    exact bodyPost_ret (v := .tuple #[.agg #[.slice (some ⟨g, 0, none⟩) n c', .slice B 3 cb], .int .i64 q.fr, .string x, .int .i64 0]) (by simp [results, Tryd.results6, go_sem, e0, e1, e2, e3]) rfl ⟨_, c', rfl, hc', HG2.out, HG3.out⟩
end Go.Proofs.YtokaaniimakfjaaDoor
