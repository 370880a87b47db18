/- pdur.Put's closure. -/
import Derived.Test.YtokaaniimakfjaaDoorAlU
import Derived.Deep.RegionHeld3
import Derived.Deep.DeepCutAuto
set_option linter.unusedSimpArgs false
set_option linter.unusedVariables false
set_option linter.unusedSectionVars false
namespace Go.Proofs.YtokaaniimakfjaaDoor
open Go.RowKit

def goesP (on : List Bool) (fr : Nat) (p : Pth) : Bool := p.fr == fr && on.getD p.set false
def put1 (on : List Bool) (fr : Nat) (s : ByteArray) (p : Pth) : Pth :=
  if goesP on fr p then (if p.items.length < p.cap then p.hold (p.items ++ [s]) else if p.best then p.hold (p.items.drop 1 ++ [s]) else p) else p
def took1 (on : List Bool) (fr : Nat) (p : Pth) : Nat := if goesP on fr p && (decide (p.items.length < p.cap) || p.best) then 1 else 0
def lost1 (on : List Bool) (fr : Nat) (p : Pth) : Nat := if goesP on fr p && !decide (p.items.length < p.cap) then 1 else 0

/-- what the closure of Put finds: the boxes of from, of the router, of the data, of the two counts; the row of paths that it writes. -/
structure PutJ (w0 : World) (fb rb db lb tb g : Nat) (fr : Nat) (A B : Option Addr) (n c cb : Nat) (on : List Bool) (s : ByteArray) (lost took : Nat) (ps : List Pth) (W : World) : Prop where
  frm : Blk W fb 3 #[.int .i64 fr]
  rou : Blk W rb 26 #[.slice A n c, .slice B 3 cb]
  res : Blk W (rb + 3) 26 #[.slice none 0 0, .slice none 0 0]
  dat : Blk W db 9 #[.string s]
  los : Blk W lb 3 #[.int .i64 lost]
  too : Blk W tb 3 #[.int .i64 took]
  onr : Sees W 4 B (on.map Value.bool)
  pth : PathsAt W (some ⟨g, 0, none⟩) ps
  bel : Below w0.heap.size w0 W
  g0 : w0.heap.size ≤ g
  l0 : w0.heap.size ≤ lb
  t0 : w0.heap.size ≤ tb
  fl : fb ≠ lb
  ft : fb ≠ tb
  lt : lb ≠ tb

section
variable {w0 W W' : World} {fb rb db lb tb g fr : Nat} {A B : Option Addr} {n c cb : Nat} {on : List Bool} {s : ByteArray} {lost took : Nat} {ps : List Pth}
theorem PutJ.step (h : PutJ w0 fb rb db lb tb g fr A B n c cb on s lost took ps W) (hb : Below W.heap.size W W') : PutJ w0 fb rb db lb tb g fr A B n c cb on s lost took ps W' :=
  ⟨h.frm.belowS hb, h.rou.belowS hb, h.res.belowS hb, h.dat.belowS hb, h.los.belowS hb, h.too.belowS hb, h.onr.below hb, h.pth.below hb, below_then2 h.bel hb, h.g0, h.l0, h.t0, h.fl, h.ft, h.lt⟩
theorem PutJ.drewN (h : PutJ w0 fb rb db lb tb g fr A B n c cb on s lost took ps W) (m : Nat) : PutJ w0 fb rb db lb tb g fr A B n c cb on s lost took ps (W.drewN m) := h.step (below_drewN (Below.refl _ _) m)
theorem PutJ.lose (h : PutJ w0 fb rb db lb tb g fr A B n c cb on s lost took ps W) (v : Nat) : PutJ w0 fb rb db lb tb g fr A B n c cb on s v took ps (W.setCell ⟨lb, 0, none⟩ (.int .i64 v)) :=
  ⟨h.frm.far h.fl _, h.rou.far (h.rou.ne_ h.los (by decide)) _, h.res.far (h.res.ne_ h.los (by decide)) _, h.dat.far (h.dat.ne_ h.los (by decide)) _, h.los.set_ 0 _, h.too.far h.lt.symm _, h.onr.set_ h.los (by decide) _,
    h.pth.keeps (keeps_set (Keeps.refl _ _) h.los (by decide) _) (keeps_set (Keeps.refl _ _) h.los (by decide) _), h.bel.setCell h.l0 _, h.g0, h.l0, h.t0, h.fl, h.ft, h.lt⟩
theorem PutJ.take (h : PutJ w0 fb rb db lb tb g fr A B n c cb on s lost took ps W) (v : Nat) : PutJ w0 fb rb db lb tb g fr A B n c cb on s lost v ps (W.setCell ⟨tb, 0, none⟩ (.int .i64 v)) :=
  ⟨h.frm.far h.ft _, h.rou.far (h.rou.ne_ h.too (by decide)) _, h.res.far (h.res.ne_ h.too (by decide)) _, h.dat.far (h.dat.ne_ h.too (by decide)) _, h.los.far h.lt _, h.too.set_ 0 _, h.onr.set_ h.too (by decide) _,
    h.pth.keeps (keeps_set (Keeps.refl _ _) h.too (by decide) _) (keeps_set (Keeps.refl _ _) h.too (by decide) _), h.bel.setCell h.t0 _, h.g0, h.l0, h.t0, h.fl, h.ft, h.lt⟩
theorem PutJ.blk (h : PutJ w0 fb rb db lb tb g fr A B n c cb on s lost took ps W) (k : Nat) (hk : k < ps.length) : ∃ cur, Blk W g 33 cur := by
  obtain ⟨ivs, hp⟩ := h.pth
  rcases hp.row with ⟨hh, _⟩ | ⟨g', o', cur, hA, hg, hx⟩
  · cases hh
  · cases hA; exact ⟨cur, hg⟩
theorem PutJ.put (h : PutJ w0 fb rb db lb tb g fr A B n c cb on s lost took ps W) (k : Nat) (hk : k < ps.length) (l : List ByteArray) (A' : Option Addr) (c' m : Nat) (hm : l.length = m) (hl : m ≤ c') (hs : Sees W 9 A' (l.map Value.string)) :
    PutJ w0 fb rb db lb tb g fr A B n c cb on s lost took (ps.set k (ps[k].hold l)) (((W.setCell ⟨g, k * 6 + 3, none⟩ (.slice A' m c')).setCell ⟨g, k * 6 + 4, none⟩ (.int .i64 ps[k].cap)).setCell ⟨g, k * 6 + 5, none⟩ (.bool ps[k].best)) := by
  subst hm
  obtain ⟨cur, hb⟩ := h.blk k hk
  obtain ⟨ivs, hp⟩ := h.pth
  have hp' := hp.put k hk l (A', c') hl hs
  have f : ∀ {w : World} {g2 : Nat} {t : TypeId} {cs : Array Value}, Blk w g2 t cs → t ≠ 33 → ∀ cur', Blk w g 33 cur' → g2 ≠ g := fun h1 ht _ h2 => h1.ne_ h2 ht
  have hb1 := hb.set_ (k * 6 + 3) (.slice A' l.length c')
  have hb2 := hb1.set_ (k * 6 + 4) (.int .i64 ps[k].cap)
  exact ⟨((h.frm.far (f h.frm (by decide) _ hb) _).far (f h.frm (by decide) _ hb) _).far (f h.frm (by decide) _ hb) _,
    ((h.rou.far (f h.rou (by decide) _ hb) _).far (f h.rou (by decide) _ hb) _).far (f h.rou (by decide) _ hb) _,
    ((h.res.far (f h.res (by decide) _ hb) _).far (f h.res (by decide) _ hb) _).far (f h.res (by decide) _ hb) _,
    ((h.dat.far (f h.dat (by decide) _ hb) _).far (f h.dat (by decide) _ hb) _).far (f h.dat (by decide) _ hb) _,
    ((h.los.far (f h.los (by decide) _ hb) _).far (f h.los (by decide) _ hb) _).far (f h.los (by decide) _ hb) _,
    ((h.too.far (f h.too (by decide) _ hb) _).far (f h.too (by decide) _ hb) _).far (f h.too (by decide) _ hb) _,
    ((h.onr.set_ hb (by decide) _).set_ hb1 (by decide) _).set_ hb2 (by decide) _,
    hp', ((h.bel.setCell h.g0 _).setCell h.g0 _).setCell h.g0 _, h.g0, h.l0, h.t0, h.fl, h.ft, h.lt⟩
end

set_option maxHeartbeats 1000000 in
set_option maxRecDepth 100000 in
theorem pPut1_no (w0 w : World) (fb rb db lb tb g fr : Nat) (A B : Option Addr) (n c cb : Nat) (on : List Bool) (s : ByteArray) (lost took : Nat) (ps : List Pth) (k : Nat) (hk : k < ps.length) (hk16 : k ≤ 16) (hon : on.length = 3)
    (h : PutJ w0 fb rb db lb tb g fr A B n c cb on s lost took ps w) (hok : ps[k].ok) (hg : goesP on fr ps[k] = false) :
    Calls Tryd.prog 11 #[.pointer (some ⟨g, k * 6, none⟩), .pointer (some ⟨fb, 0, none⟩), .pointer (some ⟨rb, 0, none⟩), .pointer (some ⟨db, 0, none⟩), .pointer (some ⟨lb, 0, none⟩), .pointer (some ⟨tb, 0, none⟩)] w fun e w' => e = .returned (.tuple #[]) ∧ PutJ w0 fb rb db lb tb g fr A B n c cb on s lost took ps w' := by
  have HJ := Lib.hid h
  obtain ⟨ivs, hP⟩ := h.pth
  have e0 := hP.cell k 0 hk (by decide)
  have e2 := hP.cell k 2 hk (by decide)
  have f0 := h.frm.cell 0
  have r1 := h.rou.cell 1
  rw [Nat.zero_add, Nat.add_zero] at e0
  rw [Nat.zero_add] at e2
  unfold goesP at hg
  have hset := hok.set
  generalize (ivs[k]'(by rw [hP.len]; exact hk)) = iv at e0 e2
  generalize ps[k] = q at e0 e2 hg hset
  obtain ⟨qf, qt, qs, qi, qc, qb⟩ := q
  simp only at hg hset
  simp only [pcells] at e0 e2
  have hx : (on.map Value.bool)[qs]? = some (.bool (on.getD qs false)) := by
    rw [List.getElem?_map, List.getD_eq_getElem?_getD, List.getElem?_eq_getElem (by omega)]; rfl
  obtain ⟨gB, oB, hB⟩ : ∃ gB oB, B = some ⟨gB, oB, none⟩ := by
    rcases h.onr with ⟨_, h⟩ | ⟨g, o, cur, hA, _⟩
    · rw [h] at hx; simp at hx
    · exact ⟨g, o, hA⟩
  subst hB
  have x0 := h.onr.cell hx
  have hs0 : (0 : Int) ≤ qs := by omega
  have hs3 : (qs : Int) < 3 := by omega
  clear h hP hx hok
  by_cases hf : qf = fr
  · subst hf
    have hb : on.getD qs false = false := by simpa using hg
    rw [hb] at x0
    go_enter Tryd.func11, Tryd.ntmps11
    go_wp2
    go_quiet (fail)
    go_wp2
    (try simp only [Exit.inBlock, Exit.then]); refine bodyPost_ret (results_none rfl _ _ _) rfl ?_
    exact ⟨rfl, HJ.out.drewN _⟩
  · have h3 : ((qf : Int) != fr) = true := by simp; omega
    have h4 : ((qf : Int) == fr) = false := by simp; omega
    go_enter Tryd.func11, Tryd.ntmps11
    go_wp2
    go_quiet (fail)
    go_wp2
    (try simp only [Exit.inBlock, Exit.then]); refine bodyPost_ret (results_none rfl _ _ _) rfl ?_
    exact ⟨rfl, HJ.out.drewN _⟩
theorem sees_dr {W : World} {e : TypeId} {A : Option Addr} {xs : List Value} (h : Sees W e A xs) : Sees W.drew e A xs := h
theorem sees_al {W : World} {e : TypeId} {A : Option Addr} {xs : List Value} (h : Sees W e A xs) (o : Obj) : Sees (W.alloc o).drew e A xs := sees_dr (h.below (bAlloc (Below.refl _ _) o))
theorem putj_new {w0 W W2 : World} {fb rb db lb tb g fr : Nat} {A B : Option Addr} {n c cb : Nat} {on : List Bool} {s : ByteArray} {lost took : Nat} {ps : List Pth} {A' : Option Addr} {xs : List Value} {cs : Array Value}
    (h : PutJ w0 fb rb db lb tb g fr A B n c cb on s lost took ps W) (hb : Below W.drew.heap.size W.drew W2) (hs : Sees W2 9 A' xs) :
    Blk (W2.alloc (.cells cs 31)) W2.heap.size 31 cs ∧ PutJ w0 fb rb db lb tb g fr A B n c cb on s lost took ps (W2.alloc (.cells cs 31)) ∧ Sees (W2.alloc (.cells cs 31)) 9 A' xs :=
  ⟨Blk.new' rfl, h.step (bAlloc (below_of_drew hb) _), hs.below (bAlloc (Below.refl _ _) _)⟩
theorem putj_set {w0 W W2 : World} {fb rb db lb tb g fr : Nat} {A B : Option Addr} {n c cb : Nat} {on : List Bool} {s : ByteArray} {lost took : Nat} {ps : List Pth} {A' : Option Addr} {xs : List Value} {b0 b1 b2 v0 v1 v2 : Value}
    (h : PutJ w0 fb rb db lb tb g fr A B n c cb on s lost took ps W) (hb : Below (W.alloc (.cells #[b0, b1, b2] 31)).drew.heap.size (W.alloc (.cells #[b0, b1, b2] 31)).drew W2) (hs : Sees W2 9 A' xs) :
    Blk (((W2.setCell ⟨W.heap.size, 0, none⟩ v0).setCell ⟨W.heap.size, 1, none⟩ v1).setCell ⟨W.heap.size, 2, none⟩ v2) W.heap.size 31 #[v0, v1, v2] ∧
      PutJ w0 fb rb db lb tb g fr A B n c cb on s lost took ps (((W2.setCell ⟨W.heap.size, 0, none⟩ v0).setCell ⟨W.heap.size, 1, none⟩ v1).setCell ⟨W.heap.size, 2, none⟩ v2) ∧
      Sees (((W2.setCell ⟨W.heap.size, 0, none⟩ v0).setCell ⟨W.heap.size, 1, none⟩ v1).setCell ⟨W.heap.size, 2, none⟩ v2) 9 A' xs := by
  have hn : Blk W2 W.heap.size 31 #[b0, b1, b2] := (Blk.drew (Blk.new' (w := W) (t := 31) (cs := #[b0, b1, b2]) rfl)).belowS hb
  have hb2 : Below W.heap.size W W2 := below_then2 (bAlloc (Below.refl _ W) (.cells #[b0, b1, b2] 31)) (below_of_drew hb)
  have h1 := hn.set_ 0 v0
  have h2 := h1.set_ 1 v1
  refine ⟨h2.set_ 2 v2, h.step (((hb2.setCell (p := ⟨W.heap.size, 0, none⟩) (Nat.le_refl _) v0).setCell (p := ⟨W.heap.size, 1, none⟩) (Nat.le_refl _) v1).setCell (p := ⟨W.heap.size, 2, none⟩) (Nat.le_refl _) v2), ((hs.set_ hn (by decide) _).set_ h1 (by decide) _).set_ h2 (by decide) _⟩


set_option maxHeartbeats 2000000 in
set_option maxRecDepth 100000 in
theorem pPut1_room (w0 w : World) (fb rb db lb tb g fr : Nat) (A B : Option Addr) (n c cb : Nat) (on : List Bool) (s : ByteArray) (lost took : Nat) (ps : List Pth) (k : Nat) (hk : k < ps.length) (hk16 : k ≤ 16) (hon : on.length = 3) (hlo : lost ≤ 16) (hto : took ≤ 16)
    (h : PutJ w0 fb rb db lb tb g fr A B n c cb on s lost took ps w) (hok : ps[k].ok) (hg : goesP on fr ps[k] = true) (hr : ps[k].items.length < ps[k].cap) :
    Calls Tryd.prog 11 #[.pointer (some ⟨g, k * 6, none⟩), .pointer (some ⟨fb, 0, none⟩), .pointer (some ⟨rb, 0, none⟩), .pointer (some ⟨db, 0, none⟩), .pointer (some ⟨lb, 0, none⟩), .pointer (some ⟨tb, 0, none⟩)] w fun e w' => e = .returned (.tuple #[]) ∧ PutJ w0 fb rb db lb tb g fr A B n c cb on s lost (took + 1) (ps.set k (ps[k].hold (ps[k].items ++ [s]))) w' := by
  have HJ := Lib.hid h
  obtain ⟨ivs, hP⟩ := h.pth
  have e0 := hP.cell k 0 hk (by decide)
  have e2 := hP.cell k 2 hk (by decide)
  have e3 := hP.cell k 3 hk (by decide)
  have e4 := hP.cell k 4 hk (by decide)
  have e5 := hP.cell k 5 hk (by decide)
  have hit := hP.item k hk (by rw [hP.len]; exact hk)
  have f0 := h.frm.cell 0
  have d0 := h.dat.cell 0
  have r1 := h.rou.cell 1
  rw [Nat.zero_add, Nat.add_zero] at e0
  rw [Nat.zero_add] at e2 e3 e4 e5
  unfold goesP at hg
  have HPUT := Lib.hid (fun W lost took (h : PutJ w0 fb rb db lb tb g fr A B n c cb on s lost took ps W) => h.put k hk)
  generalize (ivs[k]'(by rw [hP.len]; exact hk)) = iv at e0 e2 e3 e4 e5 hit
  generalize ps[k] = q at e0 e2 e3 e4 e5 hit hg hok HPUT hr ⊢
  obtain ⟨qf, qt, qs, qi, qc, qb⟩ := q
  simp only at hg hit HPUT hr ⊢
  simp only [pcells] at e0 e2 e3 e4 e5
  obtain ⟨-, -, hset, oc1, oc3, ol, osz⟩ := hok
  simp only at hset oc1 oc3 ol osz
  have hx : (on.map Value.bool)[qs]? = some (.bool (on.getD qs false)) := by
    rw [List.getElem?_map, List.getD_eq_getElem?_getD, List.getElem?_eq_getElem (by omega)]; rfl
  obtain ⟨gB, oB, hB⟩ : ∃ gB oB, B = some ⟨gB, oB, none⟩ := by
    rcases h.onr with ⟨_, h⟩ | ⟨g, o, cur, hA, _⟩
    · rw [h] at hx; simp at hx
    · exact ⟨g, o, hA⟩
  subst hB
  have x0 := h.onr.cell hx
  have hs0 : (0 : Int) ≤ qs := by omega
  have hs3 : (qs : Int) < 3 := by omega
  rw [Bool.and_eq_true] at hg
  have hf : qf = fr := by simpa using hg.1
  rw [hg.2] at x0
  subst hf

  have HR := Lib.hid (fun w h => rgPut_room w iv.1 qi.length iv.2 qc qb qi s rfl h hit.1 oc1 (by omega) hr)
  have HIT := Lib.hid hit.2
  clear h hP hx hit osz hg
  go_enter Tryd.func11, Tryd.ntmps11
  go_wp2
  go_quiet (fail)
  go_upto_region 1 with fail
  have HJ1 := Lib.hid (HJ.out.drewN nq)
  have HIT1 := Lib.hid (show Sees (w.drewN nq) 9 iv.1 (qi.map Value.string) from HIT.out)
  have y3 : (w.drewN nq).cell? ⟨g, k * 6 + 3, none⟩ = some (.slice iv.1 qi.length iv.2) := e3
  have y4 : (w.drewN nq).cell? ⟨g, k * 6 + 4, none⟩ = some (.int .i64 qc) := e4
  have y5 : (w.drewN nq).cell? ⟨g, k * 6 + 5, none⟩ = some (.bool qb) := e5
  have yd : (w.drewN nq).cell? ⟨db, 0, none⟩ = some (.string s) := d0
  obtain ⟨cur, hcur⟩ := HJ1.out.blk k hk
  have hyl := hcur.lt
  have hydl : db < (w.drewN nq).heap.size := HJ1.out.dat.lt
  have HCUR := Lib.hid hcur
  clear e0 e2 e3 e4 e5 d0 f0 r1 x0 HJ HIT hcur
  generalize w.drewN nq = W at *
  have hne1 : ¬ (g = W.heap.size) := by omega
  have hne2 : ¬ (W.heap.size = g) := by omega
  have hne3 : ¬ (db = W.heap.size) := by omega
  have hne4 : ¬ (W.heap.size = db) := by omega
  go_cut [7, 8, 9] (fun s7 s8 s9 wx => ∃ b7 A' c', s7 = .pointer (some ⟨b7, 0, none⟩) ∧ s8 = .int .i64 0 ∧ s9 = .int .i64 0 ∧ qi.length + 1 ≤ c' ∧ Sees wx 9 A' ((qi ++ [s]).map Value.string) ∧ Blk wx b7 31 #[.slice A' (qi.length + 1) c', .int .i64 qc, .bool qb] ∧ PutJ w0 fb rb db lb tb g qf A (some ⟨gB, oB, none⟩) n c cb on s lost took ps wx)
  case first =>
    go_region_held3 (fun w' => w'.cell? ⟨g, k * 6 + 3, none⟩ = some (.slice iv.1 qi.length iv.2) ∧ w'.cell? ⟨g, k * 6 + 4, none⟩ = some (.int .i64 qc) ∧ w'.cell? ⟨g, k * 6 + 5, none⟩ = some (.bool qb) ∧ w'.cell? ⟨db, 0, none⟩ = some (.string s)) (first | (with_reducible exact ⟨y3, y4, y5, yd⟩) | (with_reducible exact ⟨z3, z4, z5, zd⟩) | go_keep)
      (first
        | (go_at_call 12; (with_reducible refine (HR.out W.drew (sees_dr HIT1.out)).mono ?_); rintro e2 w2 ⟨A2, c2, rfl, hle2, hs2, hb2⟩; have hx2 := (Blk.drew HCUR.out).belowS hb2; have hd2 := (Blk.drew HJ1.out.dat).belowS hb2; have z3 := (hx2.cell (k * 6 + 3)).trans ((HCUR.out.cell (k * 6 + 3)).symm.trans y3); have z4 := (hx2.cell (k * 6 + 4)).trans ((HCUR.out.cell (k * 6 + 4)).symm.trans y4); have z5 := (hx2.cell (k * 6 + 5)).trans ((HCUR.out.cell (k * 6 + 5)).symm.trans y5); have zd := hd2.cell 0)
        | (go_at_call 12; (with_reducible refine (HR.out (W.alloc (.cells #[.slice none 0 0, .int .i64 0, .bool false] 31)).drew (sees_al HIT1.out _)).mono ?_); rintro e2 w2 ⟨A2, c2, rfl, hle2, hs2, hb2⟩; have hx2 := (Blk.drew (HCUR.out.alloc _)).belowS hb2; have hd2 := (Blk.drew (HJ1.out.dat.alloc _)).belowS hb2; have z3 := (hx2.cell (k * 6 + 3)).trans ((HCUR.out.cell (k * 6 + 3)).symm.trans y3); have z4 := (hx2.cell (k * 6 + 4)).trans ((HCUR.out.cell (k * 6 + 4)).symm.trans y4); have z5 := (hx2.cell (k * 6 + 5)).trans ((HCUR.out.cell (k * 6 + 5)).symm.trans y5); have zd := hd2.cell 0; have hn := (Blk.drew (Blk.new' (w := W) (t := 31) (cs := #[.slice none 0 0, .int .i64 0, .bool false]) rfl)).belowS hb2; have n0 := hn.cell 0; have n1 := hn.cell 1; have n2 := hn.cell 2; have q0 := hn.frozen 0; have q1 := hn.frozen 1; have q2 := hn.frozen 2))
    all_goals
      go_wp2
      go_meet
      first
        | (have h := putj_new (cs := #[.slice A2 (qi.length + 1) c2, .int .i64 qc, .bool qb]) HJ1.out hb2 hs2; exact ⟨_, A2, c2, rfl, rfl, rfl, hle2, h.2.2, h.1, h.2.1⟩)
        | (have h := putj_set (v0 := .slice A2 (qi.length + 1) c2) (v1 := .int .i64 qc) (v2 := .bool qb) HJ1.out hb2 hs2; exact ⟨W.heap.size, A2, c2, rfl, rfl, rfl, hle2, h.2.2, h.1, h.2.1⟩)
  case rest =>
    obtain ⟨b7, A', c', rfl, rfl, rfl, hle, hs7, hb7, hJ7⟩ := hcut
    clear y3 y4 y5 yd hne1 hne2 hne3 hne4 hyl hydl
    have c0 := hb7.cell 0
    have c1 := hb7.cell 1
    have c2 := hb7.cell 2
    obtain ⟨ivs7, hP7⟩ := hJ7.pth
    obtain ⟨cur7, hcur7⟩ := hJ7.blk k hk
    obtain ⟨v3, z3⟩ : ∃ v, wc.cell? ⟨g, k * 6 + 3, none⟩ = some v := ⟨_, by have h := hP7.cell k 3 hk (by decide); rw [Nat.zero_add] at h; exact h⟩
    obtain ⟨v4, z4⟩ : ∃ v, wc.cell? ⟨g, k * 6 + 4, none⟩ = some v := ⟨_, by have h := hP7.cell k 4 hk (by decide); rw [Nat.zero_add] at h; exact h⟩
    obtain ⟨v5, z5⟩ : ∃ v, wc.cell? ⟨g, k * 6 + 5, none⟩ = some v := ⟨_, by have h := hP7.cell k 5 hk (by decide); rw [Nat.zero_add] at h; exact h⟩
    have q3 := hcur7.frozen (k * 6 + 3)
    have q4 := hcur7.frozen (k * 6 + 4)
    have q5 := hcur7.frozen (k * 6 + 5)
    have hJ5 := HPUT.out wc lost took hJ7 (qi ++ [s]) A' c' (qi.length + 1) (by simp) hle hs7
    have HJ5 := Lib.hid hJ5
    clear hJ5 hJ7 hP7 hcur7 hs7 hb7
    have hw1 : IntKind.i64.wrap ((took : Int) + 1) = ((took + 1 : Nat) : Int) := by rw [IntWalk.i64_in] <;> omega
    have hw2 : IntKind.i64.wrap ((lost : Int) + 0) = ((lost + 0 : Nat) : Int) := by rw [IntWalk.i64_in] <;> omega
    go_upto_region 5 with fail
    generalize (((wc.setCell _ _).setCell _ _).setCell _ _) = W5 at HJ5 ⊢
    have l0 := HJ5.out.los.cell 0
    have t0 := HJ5.out.too.cell 0
    have fl := HJ5.out.los.frozen 0
    have ft := HJ5.out.too.frozen 0
    have hlt := HJ5.out.lt
    have htl := HJ5.out.lt.symm
    clear c0 c1 c2 z3 z4 z5 q3 q4 q5
    go_region
    all_goals
      go_wp2
      go_end0
      exact ⟨rfl, ((HJ5.out.take (took + 1)).lose (lost + 0)).drewN 1⟩

set_option maxHeartbeats 2000000 in
set_option maxRecDepth 100000 in
theorem pPut1_best (w0 w : World) (fb rb db lb tb g fr : Nat) (A B : Option Addr) (n c cb : Nat) (on : List Bool) (s : ByteArray) (lost took : Nat) (ps : List Pth) (k : Nat) (hk : k < ps.length) (hk16 : k ≤ 16) (hon : on.length = 3) (hlo : lost ≤ 16) (hto : took ≤ 16)
    (h : PutJ w0 fb rb db lb tb g fr A B n c cb on s lost took ps w) (hok : ps[k].ok) (hg : goesP on fr ps[k] = true) (hr : ps[k].items.length = ps[k].cap) (hbest : ps[k].best = true) :
    Calls Tryd.prog 11 #[.pointer (some ⟨g, k * 6, none⟩), .pointer (some ⟨fb, 0, none⟩), .pointer (some ⟨rb, 0, none⟩), .pointer (some ⟨db, 0, none⟩), .pointer (some ⟨lb, 0, none⟩), .pointer (some ⟨tb, 0, none⟩)] w fun e w' => e = .returned (.tuple #[]) ∧ PutJ w0 fb rb db lb tb g fr A B n c cb on s (lost + 1) (took + 1) (ps.set k (ps[k].hold (ps[k].items.drop 1 ++ [s]))) w' := by
  have HJ := Lib.hid h
  obtain ⟨ivs, hP⟩ := h.pth
  have e0 := hP.cell k 0 hk (by decide)
  have e2 := hP.cell k 2 hk (by decide)
  have e3 := hP.cell k 3 hk (by decide)
  have e4 := hP.cell k 4 hk (by decide)
  have e5 := hP.cell k 5 hk (by decide)
  have hit := hP.item k hk (by rw [hP.len]; exact hk)
  have f0 := h.frm.cell 0
  have d0 := h.dat.cell 0
  have r1 := h.rou.cell 1
  rw [Nat.zero_add, Nat.add_zero] at e0
  rw [Nat.zero_add] at e2 e3 e4 e5
  unfold goesP at hg
  have HPUT := Lib.hid (fun W lost took (h : PutJ w0 fb rb db lb tb g fr A B n c cb on s lost took ps W) => h.put k hk)
  generalize (ivs[k]'(by rw [hP.len]; exact hk)) = iv at e0 e2 e3 e4 e5 hit
  generalize ps[k] = q at e0 e2 e3 e4 e5 hit hg hok HPUT hr hbest ⊢
  obtain ⟨qf, qt, qs, qi, qc, qb⟩ := q
  simp only at hg hit HPUT hr hbest ⊢
  simp only [pcells] at e0 e2 e3 e4 e5
  obtain ⟨-, -, hset, oc1, oc3, ol, osz⟩ := hok
  simp only at hset oc1 oc3 ol osz
  have hx : (on.map Value.bool)[qs]? = some (.bool (on.getD qs false)) := by
    rw [List.getElem?_map, List.getD_eq_getElem?_getD, List.getElem?_eq_getElem (by omega)]; rfl
  obtain ⟨gB, oB, hB⟩ : ∃ gB oB, B = some ⟨gB, oB, none⟩ := by
    rcases h.onr with ⟨_, h⟩ | ⟨g, o, cur, hA, _⟩
    · rw [h] at hx; simp at hx
    · exact ⟨g, o, hA⟩
  subst hB
  have x0 := h.onr.cell hx
  have hs0 : (0 : Int) ≤ qs := by omega
  have hs3 : (qs : Int) < 3 := by omega
  rw [Bool.and_eq_true] at hg
  have hf : qf = fr := by simpa using hg.1
  rw [hg.2] at x0
  subst hf
  subst hbest
  subst hr
  have hn1 : qi.length - 1 + 1 = qi.length := by omega
  have HR := Lib.hid (fun w h => rgPut_best w iv.1 qi.length iv.2 qi.length oc1 qi s rfl h hit.1 oc1 (by omega) rfl)
  have HIT := Lib.hid hit.2
  clear h hP hx hit osz hg
  go_enter Tryd.func11, Tryd.ntmps11
  go_wp2
  go_quiet (fail)
  go_upto_region 1 with fail
  have HJ1 := Lib.hid (HJ.out.drewN nq)
  have HIT1 := Lib.hid (show Sees (w.drewN nq) 9 iv.1 (qi.map Value.string) from HIT.out)
  have y3 : (w.drewN nq).cell? ⟨g, k * 6 + 3, none⟩ = some (.slice iv.1 qi.length iv.2) := e3
  have y4 : (w.drewN nq).cell? ⟨g, k * 6 + 4, none⟩ = some (.int .i64 qi.length) := e4
  have y5 : (w.drewN nq).cell? ⟨g, k * 6 + 5, none⟩ = some (.bool true) := e5
  have yd : (w.drewN nq).cell? ⟨db, 0, none⟩ = some (.string s) := d0
  obtain ⟨cur, hcur⟩ := HJ1.out.blk k hk
  have hyl := hcur.lt
  have hydl : db < (w.drewN nq).heap.size := HJ1.out.dat.lt
  have HCUR := Lib.hid hcur
  clear e0 e2 e3 e4 e5 d0 f0 r1 x0 HJ HIT hcur
  generalize w.drewN nq = W at *
  have hne1 : ¬ (g = W.heap.size) := by omega
  have hne2 : ¬ (W.heap.size = g) := by omega
  have hne3 : ¬ (db = W.heap.size) := by omega
  have hne4 : ¬ (W.heap.size = db) := by omega
  go_cut [7, 8, 9] (fun s7 s8 s9 wx => ∃ b7 A' c', s7 = .pointer (some ⟨b7, 0, none⟩) ∧ s8 = .int .i64 1 ∧ s9 = .int .i64 0 ∧ qi.length ≤ c' ∧ Sees wx 9 A' ((qi.drop 1 ++ [s]).map Value.string) ∧ Blk wx b7 31 #[.slice A' qi.length c', .int .i64 qi.length, .bool true] ∧ PutJ w0 fb rb db lb tb g qf A (some ⟨gB, oB, none⟩) n c cb on s lost took ps wx)
  case first =>
    go_region_held3 (fun w' => w'.cell? ⟨g, k * 6 + 3, none⟩ = some (.slice iv.1 qi.length iv.2) ∧ w'.cell? ⟨g, k * 6 + 4, none⟩ = some (.int .i64 qi.length) ∧ w'.cell? ⟨g, k * 6 + 5, none⟩ = some (.bool true) ∧ w'.cell? ⟨db, 0, none⟩ = some (.string s)) (first | (with_reducible exact ⟨y3, y4, y5, yd⟩) | (with_reducible exact ⟨z3, z4, z5, zd⟩) | go_keep)
      (first
        | (go_at_call 12; (with_reducible refine (HR.out W.drew (sees_dr HIT1.out)).mono ?_); rintro e2 w2 ⟨A2, c2, rfl, hle2, hs2, hb2⟩; have hx2 := (Blk.drew HCUR.out).belowS hb2; have hd2 := (Blk.drew HJ1.out.dat).belowS hb2; have z3 := (hx2.cell (k * 6 + 3)).trans ((HCUR.out.cell (k * 6 + 3)).symm.trans y3); have z4 := (hx2.cell (k * 6 + 4)).trans ((HCUR.out.cell (k * 6 + 4)).symm.trans y4); have z5 := (hx2.cell (k * 6 + 5)).trans ((HCUR.out.cell (k * 6 + 5)).symm.trans y5); have zd := hd2.cell 0)
        | (go_at_call 12; (with_reducible refine (HR.out (W.alloc (.cells #[.slice none 0 0, .int .i64 0, .bool false] 31)).drew (sees_al HIT1.out _)).mono ?_); rintro e2 w2 ⟨A2, c2, rfl, hle2, hs2, hb2⟩; have hx2 := (Blk.drew (HCUR.out.alloc _)).belowS hb2; have hd2 := (Blk.drew (HJ1.out.dat.alloc _)).belowS hb2; have z3 := (hx2.cell (k * 6 + 3)).trans ((HCUR.out.cell (k * 6 + 3)).symm.trans y3); have z4 := (hx2.cell (k * 6 + 4)).trans ((HCUR.out.cell (k * 6 + 4)).symm.trans y4); have z5 := (hx2.cell (k * 6 + 5)).trans ((HCUR.out.cell (k * 6 + 5)).symm.trans y5); have zd := hd2.cell 0; have hn := (Blk.drew (Blk.new' (w := W) (t := 31) (cs := #[.slice none 0 0, .int .i64 0, .bool false]) rfl)).belowS hb2; have n0 := hn.cell 0; have n1 := hn.cell 1; have n2 := hn.cell 2; have q0 := hn.frozen 0; have q1 := hn.frozen 1; have q2 := hn.frozen 2))
    all_goals
      go_wp2
      go_meet
      first
        | (have h := putj_new (cs := #[.slice A2 qi.length c2, .int .i64 qi.length, .bool true]) HJ1.out hb2 hs2; exact ⟨_, A2, c2, rfl, rfl, rfl, hle2, h.2.2, h.1, h.2.1⟩)
        | (have h := putj_set (v0 := .slice A2 qi.length c2) (v1 := .int .i64 qi.length) (v2 := .bool true) HJ1.out hb2 hs2; exact ⟨W.heap.size, A2, c2, rfl, rfl, rfl, hle2, h.2.2, h.1, h.2.1⟩)
  case rest =>
    obtain ⟨b7, A', c', rfl, rfl, rfl, hle, hs7, hb7, hJ7⟩ := hcut
    clear y3 y4 y5 yd hne1 hne2 hne3 hne4 hyl hydl
    have c0 := hb7.cell 0
    have c1 := hb7.cell 1
    have c2 := hb7.cell 2
    obtain ⟨ivs7, hP7⟩ := hJ7.pth
    obtain ⟨cur7, hcur7⟩ := hJ7.blk k hk
    obtain ⟨v3, z3⟩ : ∃ v, wc.cell? ⟨g, k * 6 + 3, none⟩ = some v := ⟨_, by have h := hP7.cell k 3 hk (by decide); rw [Nat.zero_add] at h; exact h⟩
    obtain ⟨v4, z4⟩ : ∃ v, wc.cell? ⟨g, k * 6 + 4, none⟩ = some v := ⟨_, by have h := hP7.cell k 4 hk (by decide); rw [Nat.zero_add] at h; exact h⟩
    obtain ⟨v5, z5⟩ : ∃ v, wc.cell? ⟨g, k * 6 + 5, none⟩ = some v := ⟨_, by have h := hP7.cell k 5 hk (by decide); rw [Nat.zero_add] at h; exact h⟩
    have q3 := hcur7.frozen (k * 6 + 3)
    have q4 := hcur7.frozen (k * 6 + 4)
    have q5 := hcur7.frozen (k * 6 + 5)
    have hJ5 := HPUT.out wc lost took hJ7 (qi.drop 1 ++ [s]) A' c' qi.length (by simp; omega) hle hs7
    have HJ5 := Lib.hid hJ5
    clear hJ5 hJ7 hP7 hcur7 hs7 hb7
    have hw1 : IntKind.i64.wrap ((took : Int) + 1) = ((took + 1 : Nat) : Int) := by rw [IntWalk.i64_in] <;> omega
    have hw2 : IntKind.i64.wrap ((lost : Int) + 1) = ((lost + 1 : Nat) : Int) := by rw [IntWalk.i64_in] <;> omega
    go_upto_region 5 with fail
    generalize (((wc.setCell _ _).setCell _ _).setCell _ _) = W5 at HJ5 ⊢
    have l0 := HJ5.out.los.cell 0
    have t0 := HJ5.out.too.cell 0
    have fl := HJ5.out.los.frozen 0
    have ft := HJ5.out.too.frozen 0
    have hlt := HJ5.out.lt
    have htl := HJ5.out.lt.symm
    clear c0 c1 c2 z3 z4 z5 q3 q4 q5
    go_region
    all_goals
      go_wp2
      go_end0
      exact ⟨rfl, ((HJ5.out.take (took + 1)).lose (lost + 1)).drewN 1⟩

set_option maxHeartbeats 2000000 in
set_option maxRecDepth 100000 in
theorem pPut1_busy (w0 w : World) (fb rb db lb tb g fr : Nat) (A B : Option Addr) (n c cb : Nat) (on : List Bool) (s : ByteArray) (lost took : Nat) (ps : List Pth) (k : Nat) (hk : k < ps.length) (hk16 : k ≤ 16) (hon : on.length = 3) (hlo : lost ≤ 16) (hto : took ≤ 16)
    (h : PutJ w0 fb rb db lb tb g fr A B n c cb on s lost took ps w) (hok : ps[k].ok) (hg : goesP on fr ps[k] = true) (hr : ps[k].items.length = ps[k].cap) (hbest : ps[k].best = false) :
    Calls Tryd.prog 11 #[.pointer (some ⟨g, k * 6, none⟩), .pointer (some ⟨fb, 0, none⟩), .pointer (some ⟨rb, 0, none⟩), .pointer (some ⟨db, 0, none⟩), .pointer (some ⟨lb, 0, none⟩), .pointer (some ⟨tb, 0, none⟩)] w fun e w' => e = .returned (.tuple #[]) ∧ PutJ w0 fb rb db lb tb g fr A B n c cb on s (lost + 1) took ps w' := by
  have HJ := Lib.hid h
  obtain ⟨ivs, hP⟩ := h.pth
  have e0 := hP.cell k 0 hk (by decide)
  have e2 := hP.cell k 2 hk (by decide)
  have e3 := hP.cell k 3 hk (by decide)
  have e4 := hP.cell k 4 hk (by decide)
  have e5 := hP.cell k 5 hk (by decide)
  have hit := hP.item k hk (by rw [hP.len]; exact hk)
  have f0 := h.frm.cell 0
  have d0 := h.dat.cell 0
  have r1 := h.rou.cell 1
  rw [Nat.zero_add, Nat.add_zero] at e0
  rw [Nat.zero_add] at e2 e3 e4 e5
  unfold goesP at hg
  have HPUT := Lib.hid (fun W lost took (h : PutJ w0 fb rb db lb tb g fr A B n c cb on s lost took ps W) => h.put k hk)
  generalize (ivs[k]'(by rw [hP.len]; exact hk)) = iv at e0 e2 e3 e4 e5 hit
  generalize ps[k] = q at e0 e2 e3 e4 e5 hit hg hok HPUT hr hbest ⊢
  obtain ⟨qf, qt, qs, qi, qc, qb⟩ := q
  simp only at hg hit HPUT hr hbest ⊢
  simp only [pcells] at e0 e2 e3 e4 e5
  obtain ⟨-, -, hset, oc1, oc3, ol, osz⟩ := hok
  simp only at hset oc1 oc3 ol osz
  have hx : (on.map Value.bool)[qs]? = some (.bool (on.getD qs false)) := by
    rw [List.getElem?_map, List.getD_eq_getElem?_getD, List.getElem?_eq_getElem (by omega)]; rfl
  obtain ⟨gB, oB, hB⟩ : ∃ gB oB, B = some ⟨gB, oB, none⟩ := by
    rcases h.onr with ⟨_, h⟩ | ⟨g, o, cur, hA, _⟩
    · rw [h] at hx; simp at hx
    · exact ⟨g, o, hA⟩
  subst hB
  have x0 := h.onr.cell hx
  have hs0 : (0 : Int) ≤ qs := by omega
  have hs3 : (qs : Int) < 3 := by omega
  rw [Bool.and_eq_true] at hg
  have hf : qf = fr := by simpa using hg.1
  rw [hg.2] at x0
  subst hf
  subst hbest
  subst hr
  have HR := Lib.hid (fun w h => rgPut_busy w iv.1 qi.length iv.2 qi.length qi s rfl h hit.1 oc1 (by omega) rfl)
  have HIT := Lib.hid hit.2
  clear h hP hx hit osz hg
  go_enter Tryd.func11, Tryd.ntmps11
  go_wp2
  go_quiet (fail)
  go_upto_region 1 with fail
  have HJ1 := Lib.hid (HJ.out.drewN nq)
  have HIT1 := Lib.hid (show Sees (w.drewN nq) 9 iv.1 (qi.map Value.string) from HIT.out)
  have y3 : (w.drewN nq).cell? ⟨g, k * 6 + 3, none⟩ = some (.slice iv.1 qi.length iv.2) := e3
  have y4 : (w.drewN nq).cell? ⟨g, k * 6 + 4, none⟩ = some (.int .i64 qi.length) := e4
  have y5 : (w.drewN nq).cell? ⟨g, k * 6 + 5, none⟩ = some (.bool false) := e5
  have yd : (w.drewN nq).cell? ⟨db, 0, none⟩ = some (.string s) := d0
  obtain ⟨cur, hcur⟩ := HJ1.out.blk k hk
  have hyl := hcur.lt
  have hydl : db < (w.drewN nq).heap.size := HJ1.out.dat.lt
  have HCUR := Lib.hid hcur
  clear e0 e2 e3 e4 e5 d0 f0 r1 x0 HJ HIT hcur
  generalize w.drewN nq = W at *
  have hne1 : ¬ (g = W.heap.size) := by omega
  have hne2 : ¬ (W.heap.size = g) := by omega
  have hne3 : ¬ (db = W.heap.size) := by omega
  have hne4 : ¬ (W.heap.size = db) := by omega
  go_cut [7, 8, 9] (fun s7 s8 s9 wx => ∃ b7 A' c', s7 = .pointer (some ⟨b7, 0, none⟩) ∧ s8 = .int .i64 0 ∧ s9 = .int .i64 20 ∧ True ∧ Sees wx 9 A' (([]).map Value.string) ∧ Blk wx b7 31 zRing ∧ PutJ w0 fb rb db lb tb g qf A (some ⟨gB, oB, none⟩) n c cb on s lost took ps wx)
  case first =>
    go_region_held3 (fun w' => w'.cell? ⟨g, k * 6 + 3, none⟩ = some (.slice iv.1 qi.length iv.2) ∧ w'.cell? ⟨g, k * 6 + 4, none⟩ = some (.int .i64 qi.length) ∧ w'.cell? ⟨g, k * 6 + 5, none⟩ = some (.bool false) ∧ w'.cell? ⟨db, 0, none⟩ = some (.string s)) (first | (with_reducible exact ⟨y3, y4, y5, yd⟩) | (with_reducible exact ⟨z3, z4, z5, zd⟩) | go_keep)
      (first
        | (go_at_call 12; (with_reducible refine (HR.out W.drew (sees_dr HIT1.out)).mono ?_); rintro e2 w2 ⟨rfl, hb2⟩; have hx2 := (Blk.drew HCUR.out).belowS hb2; have hd2 := (Blk.drew HJ1.out.dat).belowS hb2; have z3 := (hx2.cell (k * 6 + 3)).trans ((HCUR.out.cell (k * 6 + 3)).symm.trans y3); have z4 := (hx2.cell (k * 6 + 4)).trans ((HCUR.out.cell (k * 6 + 4)).symm.trans y4); have z5 := (hx2.cell (k * 6 + 5)).trans ((HCUR.out.cell (k * 6 + 5)).symm.trans y5); have zd := hd2.cell 0)
        | (go_at_call 12; (with_reducible refine (HR.out (W.alloc (.cells #[.slice none 0 0, .int .i64 0, .bool false] 31)).drew (sees_al HIT1.out _)).mono ?_); rintro e2 w2 ⟨rfl, hb2⟩; have hx2 := (Blk.drew (HCUR.out.alloc _)).belowS hb2; have hd2 := (Blk.drew (HJ1.out.dat.alloc _)).belowS hb2; have z3 := (hx2.cell (k * 6 + 3)).trans ((HCUR.out.cell (k * 6 + 3)).symm.trans y3); have z4 := (hx2.cell (k * 6 + 4)).trans ((HCUR.out.cell (k * 6 + 4)).symm.trans y4); have z5 := (hx2.cell (k * 6 + 5)).trans ((HCUR.out.cell (k * 6 + 5)).symm.trans y5); have zd := hd2.cell 0; have hn := (Blk.drew (Blk.new' (w := W) (t := 31) (cs := #[.slice none 0 0, .int .i64 0, .bool false]) rfl)).belowS hb2; have n0 := hn.cell 0; have n1 := hn.cell 1; have n2 := hn.cell 2; have q0 := hn.frozen 0; have q1 := hn.frozen 1; have q2 := hn.frozen 2))
    all_goals
      go_wp2
      go_meet
      first
        | (have h := putj_new (cs := zRing) HJ1.out hb2 (.inl ⟨rfl, rfl⟩); exact ⟨_, none, 0, rfl, rfl, rfl, trivial, h.2.2, h.1, h.2.1⟩)
        | (have h := putj_set (v0 := .slice none 0 0) (v1 := .int .i64 0) (v2 := .bool false) HJ1.out hb2 (.inl ⟨rfl, rfl⟩); exact ⟨W.heap.size, none, 0, rfl, rfl, rfl, trivial, h.2.2, h.1, h.2.1⟩)
  case rest =>
    obtain ⟨b7, A', c', rfl, rfl, rfl, -, -, -, hJ7⟩ := hcut
    clear y3 y4 y5 yd hne1 hne2 hne3 hne4 hyl hydl
    have l0 := hJ7.los.cell 0
    have fl := hJ7.los.frozen 0
    have HJ7 := Lib.hid hJ7
    clear hJ7
    go_wp2
    (try simp only [Exit.inBlock, Exit.then]); refine bodyPost_ret (results_none rfl _ _ _) rfl ?_
    exact ⟨rfl, HJ7.out.lose (lost + 1)⟩

theorem set_same : ∀ (ps : List Pth) (k : Nat) (h : k < ps.length), ps.set k ps[k] = ps
  | [], _, h => by simp at h
  | p :: ps, 0, _ => rfl
  | p :: ps, k + 1, h => by simp only [List.set_cons_succ, List.getElem_cons_succ]; rw [set_same ps k (by simpa using h)]

theorem pPut1_any (w0 w : World) (fb rb db lb tb g fr : Nat) (A B : Option Addr) (n c cb : Nat) (on : List Bool) (s : ByteArray) (lost took : Nat) (ps : List Pth) (k : Nat) (hk : k < ps.length) (hk16 : k ≤ 16) (hon : on.length = 3) (hlo : lost ≤ 16) (hto : took ≤ 16)
    (h : PutJ w0 fb rb db lb tb g fr A B n c cb on s lost took ps w) (hok : ps[k].ok) :
    Calls Tryd.prog 11 #[.pointer (some ⟨g, k * 6, none⟩), .pointer (some ⟨fb, 0, none⟩), .pointer (some ⟨rb, 0, none⟩), .pointer (some ⟨db, 0, none⟩), .pointer (some ⟨lb, 0, none⟩), .pointer (some ⟨tb, 0, none⟩)] w fun e w' => e = .returned (.tuple #[]) ∧ PutJ w0 fb rb db lb tb g fr A B n c cb on s (lost + lost1 on fr ps[k]) (took + took1 on fr ps[k]) (ps.set k (put1 on fr s ps[k])) w' := by
  unfold lost1 took1 put1
  cases hg : goesP on fr ps[k]
  · have := pPut1_no w0 w fb rb db lb tb g fr A B n c cb on s lost took ps k hk hk16 hon h hok hg
    simpa [set_same ps k hk] using this
  · by_cases hr : ps[k].items.length < ps[k].cap
    · have := pPut1_room w0 w fb rb db lb tb g fr A B n c cb on s lost took ps k hk hk16 hon hlo hto h hok hg hr
      simpa [hr] using this
    · have hr2 : ps[k].items.length = ps[k].cap := by have := hok.len; omega
      cases hb : ps[k].best
      · have := pPut1_busy w0 w fb rb db lb tb g fr A B n c cb on s lost took ps k hk hk16 hon hlo hto h hok hg hr2 hb
        simpa [hr, set_same ps k hk] using this
      · have := pPut1_best w0 w fb rb db lb tb g fr A B n c cb on s lost took ps k hk hk16 hon hlo hto h hok hg hr2 hb
        simpa [hr] using this
end Go.Proofs.YtokaaniimakfjaaDoor
