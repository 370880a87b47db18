/- pdur.Put. -/
import Derived.Test.YtokaaniimakfjaaDoorAlW
set_option linter.unusedSimpArgs false
set_option linter.unusedVariables false
set_option linter.unusedSectionVars false
namespace Go.Proofs.YtokaaniimakfjaaDoor
open Go.RowKit

def tookP (on : List Bool) (fr : Nat) : List Pth → Nat
  | [] => 0
  | p :: ps => took1 on fr p + tookP on fr ps
def lostP (on : List Bool) (fr : Nat) : List Pth → Nat
  | [] => 0
  | p :: ps => lost1 on fr p + lostP on fr ps
theorem tookP_snoc (on : List Bool) (fr : Nat) : ∀ (ps : List Pth) (p : Pth), tookP on fr (ps ++ [p]) = tookP on fr ps + took1 on fr p
  | [], p => by simp [tookP]
  | q :: ps, p => by rw [List.cons_append, tookP, tookP_snoc on fr ps p, tookP]; omega
theorem lostP_snoc (on : List Bool) (fr : Nat) : ∀ (ps : List Pth) (p : Pth), lostP on fr (ps ++ [p]) = lostP on fr ps + lost1 on fr p
  | [], p => by simp [lostP]
  | q :: ps, p => by rw [List.cons_append, lostP, lostP_snoc on fr ps p, lostP]; omega
theorem took1_le (on : List Bool) (fr : Nat) (p : Pth) : took1 on fr p ≤ 1 := by unfold took1; split <;> omega
theorem lost1_le (on : List Bool) (fr : Nat) (p : Pth) : lost1 on fr p ≤ 1 := by unfold lost1; split <;> omega
theorem tookP_le (on : List Bool) (fr : Nat) : ∀ ps : List Pth, tookP on fr ps ≤ ps.length
  | [] => Nat.le_refl _
  | p :: ps => by have := tookP_le on fr ps; have := took1_le on fr p; rw [tookP, List.length_cons]; omega
theorem lostP_le (on : List Bool) (fr : Nat) : ∀ ps : List Pth, lostP on fr ps ≤ ps.length
  | [] => Nat.le_refl _
  | p :: ps => by have := lostP_le on fr ps; have := lost1_le on fr p; rw [lostP, List.length_cons]; omega

/-- the first k paths changed by f. -/
def upto (f : Pth → Pth) (ps : List Pth) (k : Nat) : List Pth := (ps.take k).map f ++ ps.drop k
theorem upto_zero (f : Pth → Pth) (ps : List Pth) : upto f ps 0 = ps := by simp [upto]
theorem upto_all (f : Pth → Pth) (ps : List Pth) (k : Nat) (h : ps.length ≤ k) : upto f ps k = ps.map f := by simp [upto, List.take_of_length_le h, List.drop_eq_nil_of_le h]
theorem upto_len (f : Pth → Pth) (ps : List Pth) (k : Nat) : (upto f ps k).length = ps.length := by simp [upto]; omega
theorem upto_get (f : Pth → Pth) (ps : List Pth) (k : Nat) (h : k < (upto f ps k).length) (h' : k < ps.length) : (upto f ps k)[k] = ps[k] := by
  have h1 : (upto f ps k)[k]? = ps[k]? := by
    unfold upto
    rw [List.getElem?_append_right (by simp; omega)]
    simp [Nat.min_eq_left (Nat.le_of_lt h')]
  rw [List.getElem?_eq_getElem h, List.getElem?_eq_getElem h'] at h1
  exact Option.some.inj h1
theorem upto_set (f : Pth → Pth) (ps : List Pth) (k : Nat) (h' : k < ps.length) : (upto f ps k).set k (f ps[k]) = upto f ps (k + 1) := by
  unfold upto
  rw [List.set_append_right _ _ (by simp; omega)]
  rw [List.take_add_one, List.getElem?_eq_getElem h', Option.toList_some, List.map_append, List.append_assoc]
  congr 1
  rw [List.length_map, List.length_take, Nat.min_eq_left (Nat.le_of_lt h'), Nat.sub_self, List.drop_eq_getElem_cons h']
  rfl

theorem put_step {w0 W : World} {fb rb db lb tb g fr : Nat} {A B : Option Addr} {n c cb k : Nat} {on : List Bool} {s : ByteArray} {ps : List Pth} (hk : k < ps.length) (hok : PsOk ps) (hon : on.length = 3)
    (h : PutJ w0 fb rb db lb tb g fr A B n c cb on s (lostP on fr (ps.take k)) (tookP on fr (ps.take k)) (upto (put1 on fr s) ps k) W) :
    Calls Tryd.prog 11 #[.pointer (some ⟨g, k * 6, none⟩), .pointer (some ⟨fb, 0, none⟩), .pointer (some ⟨rb, 0, none⟩), .pointer (some ⟨db, 0, none⟩), .pointer (some ⟨lb, 0, none⟩), .pointer (some ⟨tb, 0, none⟩)] W fun e w' => e = .returned (.tuple #[]) ∧ PutJ w0 fb rb db lb tb g fr A B n c cb on s (lostP on fr (ps.take (k + 1))) (tookP on fr (ps.take (k + 1))) (upto (put1 on fr s) ps (k + 1)) w' := by
  have hk' : k < (upto (put1 on fr s) ps k).length := by rw [upto_len]; exact hk
  have hg := upto_get (put1 on fr s) ps k hk' hk
  have h6 := hok.len
  have h1 := lostP_le on fr (ps.take k)
  have h2 := tookP_le on fr (ps.take k)
  rw [List.length_take] at h1 h2
  have hs := pPut1_any w0 W fb rb db lb tb g fr A B n c cb on s _ _ _ k hk' (by omega) hon (by omega) (by omega) h (by rw [hg]; exact hok.ok _ (List.getElem_mem hk))
  rw [hg, upto_set _ _ _ hk] at hs
  rw [List.take_add_one, List.getElem?_eq_getElem hk, Option.toList_some, lostP_snoc, tookP_snoc]
  exact hs

/-- the boxes of a call of Put. -/
structure PutB (w0 : World) (fr : Nat) (A B : Option Addr) (n c cb : Nat) (s : ByteArray) (W : World) : Prop where
  rou : Blk W w0.heap.size 26 #[.slice A n c, .slice B 3 cb]
  frm : Blk W (w0.heap.size + 1) 3 #[.int .i64 fr]
  dat : Blk W (w0.heap.size + 1 + 1) 9 #[.string s]
  res : Blk W (w0.heap.size + 1 + 1 + 1) 26 #[.slice none 0 0, .slice none 0 0]
  bel : Below w0.heap.size w0 W
theorem PutB.step {w0 W W' : World} {fr : Nat} {A B : Option Addr} {n c cb : Nat} {s : ByteArray} (h : PutB w0 fr A B n c cb s W) (hb : Below W.heap.size W W') : PutB w0 fr A B n c cb s W' :=
  ⟨h.rou.belowS hb, h.frm.belowS hb, h.dat.belowS hb, h.res.belowS hb, below_then2 h.bel hb⟩
theorem PutB.start (w : World) (fr : Nat) (A B : Option Addr) (n c cb : Nat) (s : ByteArray) :
    PutB w fr A B n c cb s ((((w.alloc (.cells #[.slice A n c, .slice B 3 cb] 26)).alloc (.cells #[.int .i64 fr] 3)).alloc (.cells #[.string s] 9)).alloc (.cells #[.slice none 0 0, .slice none 0 0] 26)) :=
  ⟨(((Blk.new' rfl).alloc _).alloc _).alloc _, ((Blk.new' (by simp)).alloc _).alloc _, (Blk.new' (by simp)).alloc _, Blk.new' (by simp), bAlloc (bAlloc (bAlloc (bAlloc (Below.refl _ _) _) _) _) _⟩
/-- .. behind the call of each. -/
structure PutE (w0 : World) (lb tb fr : Nat) (A A' B : Option Addr) (n c cb : Nat) (on : List Bool) (s : ByteArray) (ps : List Pth) (W : World) : Prop where
  box : PutB w0 fr A B n c cb s W
  los : Blk W lb 3 #[.int .i64 (lostP on fr ps : Nat)]
  too : Blk W tb 3 #[.int .i64 (tookP on fr ps : Nat)]
  pth : PathsAt W A' (ps.map (put1 on fr s))
theorem PutE.putr {w0 W : World} {lb tb fr : Nat} {A A' B : Option Addr} {n c cb c' : Nat} {on : List Bool} {s : ByteArray} {ps : List Pth} (h : PutE w0 lb tb fr A A' B n c cb on s ps W) :
    PutE w0 lb tb fr A' A' B n c' cb on s ps (W.setCell ⟨w0.heap.size, 0, none⟩ (.slice A' n c')) :=
  ⟨⟨h.box.rou.set_ 0 _, h.box.frm.far (by simp) _, h.box.dat.far (by simp; omega) _, h.box.res.far (by simp; omega) _, h.box.bel.setCell (by simp) _⟩, h.los.far (h.los.ne_ h.box.rou (by decide)) _, h.too.far (h.too.ne_ h.box.rou (by decide)) _,
    h.pth.keeps (keeps_set (Keeps.refl _ _) h.box.rou (by decide) _) (keeps_set (Keeps.refl _ _) h.box.rou (by decide) _)⟩
/-- .. and behind the result's store. -/
theorem PutE.give {w0 W : World} {lb tb fr : Nat} {A A' B : Option Addr} {n c cb : Nat} {on : List Bool} {s : ByteArray} {ps : List Pth} {v0 v1 : Value} (h : PutE w0 lb tb fr A A' B n c cb on s ps W) :
    Blk ((W.setCell ⟨w0.heap.size + 1 + 1 + 1, 0, none⟩ v0).setCell ⟨w0.heap.size + 1 + 1 + 1, 1, none⟩ v1) (w0.heap.size + 1 + 1 + 1) 26 #[v0, v1] ∧
      PathsAt ((W.setCell ⟨w0.heap.size + 1 + 1 + 1, 0, none⟩ v0).setCell ⟨w0.heap.size + 1 + 1 + 1, 1, none⟩ v1) A' (ps.map (put1 on fr s)) ∧
      Below w0.heap.size w0 ((W.setCell ⟨w0.heap.size + 1 + 1 + 1, 0, none⟩ v0).setCell ⟨w0.heap.size + 1 + 1 + 1, 1, none⟩ v1) := by
  have h1 := h.box.res.set_ 0 v0
  exact ⟨h1.set_ 1 v1, (h.pth.keeps (keeps_set (Keeps.refl _ _) h.box.res (by decide) _) (keeps_set (Keeps.refl _ _) h.box.res (by decide) _)).keeps (keeps_set (Keeps.refl _ _) h1 (by decide) _) (keeps_set (Keeps.refl _ _) h1 (by decide) _),
    (h.box.bel.setCell (p := ⟨w0.heap.size + 1 + 1 + 1, 0, none⟩) (by simp; omega) v0).setCell (p := ⟨w0.heap.size + 1 + 1 + 1, 1, none⟩) (by simp; omega) v1⟩

/-- each, with Put's closure, in the worlds of Put. -/
theorem put_each (w W1 : World) (A B : Option Addr) (n c cb fr : Nat) (ps : List Pth) (on : List Bool) (s : ByteArray) (hP : PathsAt w A ps) (hl : ps.length = n) (hok : PsOk ps) (hO : Sees w 4 B (on.map Value.bool)) (hon : on.length = 3)
    (hB : PutB w fr A B n c cb s W1) :
    Calls Tryd.prog 10 #[.slice A n c, .func (.func 11) #[] #[.pointer (some ⟨w.heap.size + 1, 0, none⟩), .pointer (some ⟨w.heap.size, 0, none⟩), .pointer (some ⟨w.heap.size + 1 + 1, 0, none⟩), .pointer (some ⟨W1.heap.size + 1, 0, none⟩), .pointer (some ⟨W1.heap.size, 0, none⟩)]]
      ((W1.alloc (.cells #[.int .i64 0] 3)).alloc (.cells #[.int .i64 0] 3)) fun e w' => ∃ A' c', e = .returned (.slice A' n c') ∧ n ≤ c' ∧ PutE w (W1.heap.size + 1) W1.heap.size fr A A' B n c cb on s ps w' := by
  have hb2 : Below W1.heap.size W1 ((W1.alloc (.cells #[.int .i64 0] 3)).alloc (.cells #[.int .i64 0] 3)) := bAlloc (bAlloc (Below.refl _ W1) _) _
  have hB2 := hB.step hb2
  have ht2 : Blk ((W1.alloc (.cells #[.int .i64 0] 3)).alloc (.cells #[.int .i64 0] 3)) W1.heap.size 3 #[.int .i64 0] := (Blk.new' rfl).alloc _
  have hl2 : Blk ((W1.alloc (.cells #[.int .i64 0] 3)).alloc (.cells #[.int .i64 0] 3)) (W1.heap.size + 1) 3 #[.int .i64 0] := Blk.new' (by simp)
  have hzz := hB.frm.lt
  have hzr := hB.res.lt
  generalize ((W1.alloc (.cells #[.int .i64 0] 3)).alloc (.cells #[.int .i64 0] 3)) = W2 at *
  have hn : n ≤ 6 := by rw [← hl]; exact hok.len
  have hw2 := hB2.bel.size
  refine (pEach_pPut1 W2 A n c ps _ _ _ _ _ (hP.keeps (keeps_below hB2.bel) (keeps_below hB2.bel)) hl (by omega)
    (fun g k W => PutJ w (w.heap.size + 1) w.heap.size (w.heap.size + 1 + 1) (W1.heap.size + 1) W1.heap.size g fr A B n c cb on s (lostP on fr (ps.take k)) (tookP on fr (ps.take k)) (upto (put1 on fr s) ps k) W) ?_ ?_).mono ?_
  · intro g W hg hb hp
    have hB3 := hB2.step hb
    refine ⟨hB3.frm, hB3.rou, hB3.res, hB3.dat, hl2.belowS hb, ht2.belowS hb, hO.keeps (keeps_below hB3.bel), ?_, hB3.bel, by omega, by omega, by omega, by omega, by omega, by omega⟩
    rw [upto_zero]; exact hp
  · intro g k W hk hJ
    exact put_step (by rw [hl]; exact hk) hok hon hJ
  · rintro e w' ⟨A', c', rfl, hc', h⟩
    refine ⟨A', c', rfl, hc', ?_⟩
    rcases h with ⟨hz, hb, hp⟩ | ⟨g, hg, rfl, hJ⟩
    · have hps : ps = [] := List.eq_nil_of_length_eq_zero (by omega)
      subst hps
      exact ⟨hB2.step hb, hl2.belowS hb, ht2.belowS hb, hp⟩
    · have htk : ps.take n = ps := List.take_of_length_le (by omega)
      have hj := hJ
      rw [htk, upto_all _ _ _ (by omega)] at hj
      exact ⟨⟨hj.rou, hj.frm, hj.dat, hj.res, hj.bel⟩, hj.los, hj.too, hj.pth⟩

set_option maxHeartbeats 4000000 in
set_option maxRecDepth 100000 in
theorem pPut_any (w : World) (A B : Option Addr) (n c cb fr : Nat) (ps : List Pth) (on : List Bool) (s : ByteArray) (hP : PathsAt w A ps) (hl : ps.length = n) (hok : PsOk ps) (hcn : n ≤ c) (hO : Sees w 4 B (on.map Value.bool)) (hon : on.length = 3) (hs : s.size ≤ 8) :
    Calls Tryd.prog 4 #[.agg #[.slice A n c, .slice B 3 cb], .int .i64 fr, .string s] w fun e w' => ∃ A' c', e = .returned (.tuple #[.agg #[.slice A' n c', .slice B 3 cb], .int .i64 (tookP on fr ps : Nat), .int .i64 (lostP on fr ps : Nat), .int .i64 0]) ∧ n ≤ c' ∧ PathsAt w' A' (ps.map (put1 on fr s)) ∧ Below w.heap.size w w' := by
  have HR := Lib.hid (fun w hP => pRight_any w A B n c cb ps hP hl hok hcn)
  have HE := Lib.hid (fun W1 hB => put_each w W1 A B n c cb fr ps on s hP hl hok hO hon hB)
  have HP := Lib.hid hP
  have HB := Lib.hid (PutB.start w fr A B n c cb s)
  have hsI : (s.size : Int) ≤ 8 := by omega
  clear hP hl hok hO hon
  go_enter Tryd.func4, Tryd.ntmps4
  go_wp2_with (first
    | (go_at_call 9; refine (HR.out _ (HP.out.keeps (keeps_below HB.out.bel) (keeps_below HB.out.bel))).mono ?_; rintro e w1 ⟨rfl, hb1⟩; replace HB := Lib.hid (HB.out.step hb1); have a0 := HB.out.rou.cell 0; have d0 := HB.out.dat.cell 0; have a3 := ((HB.out.rou.alloc (.cells #[.int .i64 0] 3)).alloc (.cells #[.int .i64 0] 3)).cell 0; clear hb1)
    | (go_at_call 10; refine (HE.out w1 HB.out).mono ?_; rintro e w2 ⟨A', c', rfl, hc', hE2⟩; have HE2 := Lib.hid (hE2.putr (c' := c')); have a2 := hE2.box.rou.cell 0; have af := hE2.box.rou.frozen 0; clear hE2 a0 a3 d0))
  clear a2 af
  generalize w2.setCell _ _ = w5 at HE2 ⊢
  have b0 := HE2.out.box.rou.cell 0
  have b1 := HE2.out.box.rou.cell 1
  have l0 := HE2.out.los.cell 0
  have t0 := HE2.out.too.cell 0
  have r0 := HE2.out.box.res.cell 0
  have r1 := HE2.out.box.res.cell 1
  have f0 := HE2.out.box.res.frozen 0
  have f1 := HE2.out.box.res.frozen 1
  have hx1 : ¬ (w1.heap.size + 1 = w.heap.size + 1 + 1 + 1) := HE2.out.los.ne_ HE2.out.box.res (by decide)
  have hx2 : ¬ (w1.heap.size = w.heap.size + 1 + 1 + 1) := HE2.out.too.ne_ HE2.out.box.res (by decide)
  go_region
  all_goals
    go_wp2
    have hG := HE2.out.give (v0 := .slice A' n c') (v1 := .slice B 3 cb)
    obtain ⟨hg1, hg2, hg3⟩ := hG
    generalize (w5.setCell _ _).setCell _ _ = w9 at hg1 hg2 hg3 ⊢
    have HG2 := Lib.hid (hg2.below (below_drewN (Below.refl _ _) 1))
    have HG3 := Lib.hid (below_drewN hg3 1)
    have g0 := (hg1.drewN 1).cell 0
    have g1 := (hg1.drewN 1).cell 1
    have e0 : w9.drew.cell? ⟨w.heap.size + 1 + 1 + 1, 0, none⟩ = some (.slice A' n c') := g0
    have e1 : w9.drew.cell? ⟨w.heap.size + 1 + 1 + 1, 1, none⟩ = some (.slice B 3 cb) := g1
    have e2 : w9.cell? ⟨w.heap.size + 1 + 1 + 1, 0, none⟩ = some (.slice A' n c') := g0
    have e3 : w9.cell? ⟨w.heap.size + 1 + 1 + 1, 1, none⟩ = some (.slice B 3 cb) := g1
    exact bodyPost_ret (v := .tuple #[.agg #[.slice A' n c', .slice B 3 cb], .int .i64 (tookP on fr ps : Nat), .int .i64 (lostP on fr ps : Nat), .int .i64 0]) (by simp [results, Tryd.results4, go_sem, e0, e1, e2, e3]) rfl ⟨A', c', rfl, hc', HG2.out, HG3.out⟩
end Go.Proofs.YtokaaniimakfjaaDoor
