/- campaniletop.TopRoutes: plain words, and what lies in memory. -/
import Derived.Test.YtokaaniimakfjaaDoorAmA
set_option linter.unusedSimpArgs false
set_option linter.unusedVariables false
set_option linter.unusedSectionVars false
namespace Go.Proofs.YtokaaniimakfjaaDoor
open Go.RowKit

structure Rte where
  what : Nat
  at_ : Nat
  text : ByteArray
/-- A points at the routes l. -/
def RtesAt (w : World) (A : Option Addr) (l : List Rte) : Prop :=
  ∀ i (h : i < l.length), ∃ a, A = some a ∧ l[i].what < 256 ∧ l[i].at_ < 256 ∧ w.cell? (a.add (i * 3)) = some (.int .u8 l[i].what) ∧ w.cell? ⟨(a.add (i * 3)).block, (a.add (i * 3)).off + 1, none⟩ = some (.int .u8 l[i].at_) ∧ w.cell? ⟨(a.add (i * 3)).block, (a.add (i * 3)).off + 2, none⟩ = some (.string l[i].text)
theorem RtesAt.below {w w' : World} {A : Option Addr} {l : List Rte} (h : RtesAt w A l) (hb : Below w.heap.size w w') : RtesAt w' A l := by
  intro i hi
  obtain ⟨a, ha, h1, h2, h3, h4, h5⟩ := h i hi
  exact ⟨a, ha, h1, h2, (cell_below hb h3).trans h3, (cell_below hb h4).trans h4, (cell_below hb h5).trans h5⟩

def pathOf (x : Rte) : Pth := { fr := x.at_ % 3, «to» := x.at_ / 3 % 3, set := x.what % 3, items := [], cap := 1 + x.what / 3 % 3, best := decide (127 < x.what) }
def samePth (p q : Pth) : Bool := q.fr == p.fr && q.«to» == p.«to»
def addP (ps : List Pth) (x : Rte) : List Pth := if ps.any (samePth (pathOf x)) then ps else ps ++ [pathOf x]
def buildP (l : List Rte) : List Pth := l.foldl addP []

theorem buildP_snoc (l : List Rte) (x : Rte) : buildP (l ++ [x]) = addP (buildP l) x := by simp [buildP]
theorem pathOf_ok (x : Rte) : (pathOf x).ok := ⟨by simp [pathOf]; omega, by simp [pathOf]; omega, by simp [pathOf]; omega, by simp [pathOf], by simp [pathOf]; omega, by simp [pathOf], by simp [pathOf]⟩
theorem addP_len (ps : List Pth) (x : Rte) : (addP ps x).length ≤ ps.length + 1 := by unfold addP; split <;> simp
theorem buildP_len : ∀ l : List Rte, (buildP l).length ≤ l.length := by
  intro l
  suffices h : ∀ (l : List Rte) (ps : List Pth), (l.foldl addP ps).length ≤ ps.length + l.length by simpa [buildP] using h l []
  intro l
  induction l with
  | nil => intro ps; simp
  | cons x l ih => intro ps; rw [List.foldl_cons, List.length_cons]; have := ih (addP ps x); have := addP_len ps x; omega
structure PsOk' (ps : List Pth) : Prop where
  ok : ∀ p ∈ ps, p.ok
  nil : ∀ p ∈ ps, p.items = []
  apart : ∀ i j (hi : i < ps.length) (hj : j < ps.length), i < j → (ps[i].fr == ps[j].fr && ps[i].«to» == ps[j].«to») = false
theorem addP_ok {ps : List Pth} (h : PsOk' ps) (x : Rte) : PsOk' (addP ps x) := by
  unfold addP
  split
  · exact h
  · rename_i hn
    refine ⟨fun p hp => ?_, fun p hp => ?_, fun i j hi hj hij => ?_⟩
    · rw [List.mem_append] at hp
      rcases hp with hp | hp
      · exact h.ok p hp
      · simp at hp; subst hp; exact pathOf_ok x
    · rw [List.mem_append] at hp
      rcases hp with hp | hp
      · exact h.nil p hp
      · simp at hp; subst hp; rfl
    · rw [List.length_append, List.length_singleton] at hi hj
      by_cases hj2 : j < ps.length
      · rw [List.getElem_append_left (by omega), List.getElem_append_left hj2]
        exact h.apart i j (by omega) hj2 hij
      · have hjl : j = ps.length := by omega
        subst hjl
        rw [List.getElem_append_left (by omega)]
        simp only [List.getElem_append_right (Nat.le_refl _), Nat.sub_self, List.getElem_cons_zero]
        have hn' : ps.any (samePth (pathOf x)) = false := by simpa using hn
        rw [List.any_eq_false] at hn'
        have := hn' ps[i] (List.getElem_mem _)
        simpa [samePth] using this
theorem buildP_ok (l : List Rte) : PsOk' (buildP l) := by
  suffices h : ∀ (l : List Rte) (ps : List Pth), PsOk' ps → PsOk' (l.foldl addP ps) from h l [] ⟨by simp, by simp, by simp⟩
  intro l
  induction l with
  | nil => intro ps h; exact h
  | cons x l ih => intro ps h; exact ih _ (addP_ok h x)

/-- what the first loop holds: the router's box, the row of paths, the row of what is on. -/
structure L1 (w0 : World) (ps : List Pth) (v : Value) (W : World) : Prop where
  box : Blk W (w0.heap.size + 1) 26 #[v, .slice (some ⟨w0.heap.size, 0, none⟩) 3 3]
  own : W.ownsRow w0.heap.size 33 6 v ps.length (flatP ps (List.replicate ps.length (none, 0)))
  onr : Blk W w0.heap.size 4 #[.bool true, .bool true, .bool false]
  bel : Below w0.heap.size w0 W
theorem L1.step {w0 W W' : World} {ps : List Pth} {v : Value} (h : L1 w0 ps v W) (hb : Below W.heap.size W W') : L1 w0 ps v W' :=
  ⟨h.box.belowS hb, h.own.kept (only_of_below hb none) (by cases v.ownBlock <;> simp), h.onr.belowS hb, below_then2 h.bel hb⟩
theorem L1.paths {w0 W : World} {ps : List Pth} {v : Value} (h : L1 w0 ps v W) (hp : PsOk' ps) : ∃ A c, v = .slice A ps.length c ∧ ps.length ≤ c ∧ PathsIv W A ps (List.replicate ps.length (none, 0)) := by
  obtain ⟨A, c, hv, hc, hs⟩ := sees_of_own h.own
  refine ⟨A, c, hv, hc, by simp, hs, fun k hk hk' => ?_⟩
  have hz := hp.nil _ (List.getElem_mem hk)
  rw [hz]
  exact ⟨by simp, .inl ⟨by simp, by simp⟩⟩
theorem own_far {W : World} {base size n : Nat} {e : TypeId} {v : Value} {xs : List Value} (h : W.ownsRow base e size v n xs) {g : Nat} {t : TypeId} {cs : Array Value} (hb : Blk W g t cs) (ht : t ≠ e) : some g ≠ v.ownBlock := by
  obtain ⟨_, ⟨rfl, _⟩ | ⟨g', cap, cur, rfl, _, hg, _⟩⟩ := h
  · intro hh; cases hh
  · intro hh
    have hh' : g = g' := Option.some.inj hh
    subst hh'
    exact hb.ne_ (show Blk W g e cur from hg) ht rfl
theorem own_set {W : World} {base size n : Nat} {e : TypeId} {v : Value} {xs : List Value} (h : W.ownsRow base e size v n xs) {p : Addr} {t : TypeId} {cs : Array Value} (hb : Blk W p.block t cs) (ht : t ≠ e) (u : Value) : (W.setCell p u).ownsRow base e size v n xs :=
  h.kept (only_setCell (World.grownBy.refl _ _) (.inl rfl) u) (.inr (own_far h hb ht).symm)
theorem flatP_snoc : ∀ (ps : List Pth) (p : Pth), flatP (ps ++ [p]) (List.replicate (ps ++ [p]).length (none, 0)) = flatP ps (List.replicate ps.length (none, 0)) ++ pcells p (none, 0)
  | [], p => by simp [flatP]
  | q :: ps, p => by
    rw [List.cons_append, List.length_cons, List.replicate_succ, flatP, flatP_snoc ps p, List.length_cons, List.replicate_succ, flatP, List.append_assoc]
theorem L1.grow {w0 W W2 : World} {ps : List Pth} {v : Value} (h : L1 w0 ps v W) (hg : W.grownBy W2 v.ownBlock) : Blk W2 (w0.heap.size + 1) 26 #[v, .slice (some ⟨w0.heap.size, 0, none⟩) 3 3] ∧ Blk W2 w0.heap.size 4 #[.bool true, .bool true, .bool false] ∧ Below w0.heap.size w0 W2 :=
  ⟨h.box.grown hg (own_far h.own h.box (by decide)), h.onr.grown hg (own_far h.own h.onr (by decide)), h.bel.grown hg h.bel.size (fun k hk => own_base h.own hk)⟩
theorem L1.add {w0 W W2 : World} {ps : List Pth} {v v' : Value} (h : L1 w0 ps v W) (p : Pth) (hg : W.grownBy W2 v.ownBlock) (ho : W2.ownsRow w0.heap.size 33 6 v' (ps.length + 1) (flatP ps (List.replicate ps.length (none, 0)) ++ pcells p (none, 0))) :
    L1 w0 (ps ++ [p]) v' (W2.setCell ⟨w0.heap.size + 1, 0, none⟩ v') := by
  obtain ⟨h1, h2, h3⟩ := h.grow hg
  refine ⟨h1.set_ 0 v', ?_, h2.far (by simp) _, h3.setCell (by simp) _⟩
  have := own_set ho (p := ⟨w0.heap.size + 1, 0, none⟩) h1 (by decide) v'
  rw [flatP_snoc, List.length_append, List.length_singleton]
  exact this

theorem psOk_of {ps : List Pth} (h : PsOk' ps) (hl : ps.length ≤ 6) : PsOk ps := ⟨hl, h.ok, h.apart⟩
theorem psOk_map {ps : List Pth} (h : PsOk ps) (f : Pth → Pth) (hf : ∀ p, (f p).fr = p.fr ∧ (f p).«to» = p.«to») (ho : ∀ p ∈ ps, (f p).ok) : PsOk (ps.map f) := by
  refine ⟨by simpa using h.len, fun p hp => ?_, fun i j hi hj hij => ?_⟩
  · rw [List.mem_map] at hp; obtain ⟨q, hq, rfl⟩ := hp; exact ho q hq
  · rw [List.length_map] at hi hj
    simp only [List.getElem_map, (hf _).1, (hf _).2]
    exact h.apart i j hi hj hij
theorem psOk_set {ps : List Pth} (h : PsOk ps) (k : Nat) (hk : k < ps.length) (p : Pth) (h1 : p.fr = ps[k].fr) (h2 : p.«to» = ps[k].«to») (ho : p.ok) : PsOk (ps.set k p) := by
  refine ⟨by simpa using h.len, fun q hq => ?_, fun i j hi hj hij => ?_⟩
  · rcases List.mem_or_eq_of_mem_set hq with hq | rfl
    · exact h.ok q hq
    · exact ho
  · rw [List.length_set] at hi hj
    have e : ∀ m (hm : m < ps.length), ((ps.set k p)[m]'(by simpa using hm)).fr = ps[m].fr ∧ ((ps.set k p)[m]'(by simpa using hm)).«to» = ps[m].«to» := by
      intro m hm
      rw [List.getElem_set]
      split
      · rename_i e; subst e; exact ⟨h1, h2⟩
      · exact ⟨rfl, rfl⟩
    rw [(e i hi).1, (e j hj).1, (e i hi).2, (e j hj).2]
    exact h.apart i j hi hj hij
theorem hold_ok {p : Pth} (h : p.ok) (l : List ByteArray) (h1 : l.length ≤ p.cap) (h2 : ∀ s ∈ l, s.size ≤ 8) : (p.hold l).ok := ⟨h.fr, h.to, h.set, h.cap1, h.cap3, h1, h2⟩
theorem put1_ok {p : Pth} (h : p.ok) (on : List Bool) (fr : Nat) (s : ByteArray) (hs : s.size ≤ 8) : (put1 on fr s p).ok := by
  have h3 := h.len
  unfold put1
  split
  · split
    · exact hold_ok h _ (by simp; omega) (by intro t ht; rw [List.mem_append] at ht; rcases ht with ht | ht; exact h.size t ht; simp at ht; subst ht; exact hs)
    · split
      · have := h.cap1
        exact hold_ok h _ (by simp; omega) (by intro t ht; rw [List.mem_append] at ht; rcases ht with ht | ht; exact h.size t (List.mem_of_mem_drop ht); simp at ht; subst ht; exact hs)
      · exact h
  · exact h
theorem put1_same (on : List Bool) (fr : Nat) (s : ByteArray) (p : Pth) : (put1 on fr s p).fr = p.fr ∧ (put1 on fr s p).«to» = p.«to» := by
  unfold put1
  split
  · split
    · exact ⟨rfl, rfl⟩
    · split
      · exact ⟨rfl, rfl⟩
      · exact ⟨rfl, rfl⟩
  · exact ⟨rfl, rfl⟩
theorem clear1_ok {p : Pth} (h : p.ok) (st : Nat) : (clear1 st p).ok := by
  unfold clear1
  split
  · exact hold_ok h _ (by simp) (by simp)
  · exact h
theorem clear1_same (st : Nat) (p : Pth) : (clear1 st p).fr = p.fr ∧ (clear1 st p).«to» = p.«to» := by
  unfold clear1
  split
  · exact ⟨rfl, rfl⟩
  · exact ⟨rfl, rfl⟩

/-- block rb is the row of rows: its k-th slice reads what waits in the k-th path. -/
def RowsAt (w : World) (rb : Nat) (ps : List Pth) : Prop :=
  ∃ f : Nat → Option Addr × Nat × Nat, w.rowIs rb 29 ps.length (fun k => .slice (f k).1 (f k).2.1 (f k).2.2) ∧ ∀ k (h : k < ps.length), (f k).2.1 = ps[k].items.length ∧ ps[k].items.length ≤ (f k).2.2 ∧ Sees w 9 (f k).1 (ps[k].items.map Value.string)
section
variable {w w' : World} {rb : Nat} {ps : List Pth}
theorem RowsAt.lt (h : RowsAt w rb ps) : rb < w.heap.size := by obtain ⟨f, h, _⟩ := h; exact h.lt
theorem RowsAt.blk (h : RowsAt w rb ps) : ∃ cur, Blk w rb 29 cur := by obtain ⟨f, ⟨c, h, _⟩, _⟩ := h; exact ⟨c, h⟩
theorem RowsAt.frozen (h : RowsAt w rb ps) (i : Nat) : w.frozen? ⟨rb, i, none⟩ = false := by obtain ⟨f, h, _⟩ := h; exact h.frozen i
theorem RowsAt.get (h : RowsAt w rb ps) (k : Nat) (hk : k < ps.length) : ∃ A c, w.cell? ⟨rb, k, none⟩ = some (.slice A ps[k].items.length c) ∧ ps[k].items.length ≤ c ∧ Sees w 9 A (ps[k].items.map Value.string) := by
  obtain ⟨f, h, hf⟩ := h
  obtain ⟨h1, h2, h3⟩ := hf k hk
  refine ⟨(f k).1, (f k).2.2, ?_, h2, h3⟩
  rw [h.cell hk, ← h1]
theorem RowsAt.of (h : RowsAt w rb ps) (hb : w'.heap[rb]? = w.heap[rb]?) (hs : Keeps 9 w w') : RowsAt w' rb ps := by
  obtain ⟨f, h, hf⟩ := h
  exact ⟨f, h.of_block hb, fun k hk => ⟨(hf k hk).1, (hf k hk).2.1, (hf k hk).2.2.keeps hs⟩⟩
theorem RowsAt.below (h : RowsAt w rb ps) (hb : Below w.heap.size w w') : RowsAt w' rb ps := h.of (hb.block rb h.lt) (keeps_below hb)
theorem RowsAt.far (h : RowsAt w rb ps) {p : Addr} {t : TypeId} {cs : Array Value} (hp : Blk w p.block t cs) (h1 : 29 ≠ t) (h2 : 9 ≠ t) (u : Value) : RowsAt (w.setCell p u) rb ps := by
  obtain ⟨cur, hc⟩ := h.blk
  exact h.of (Below.heap_setCell w p u rb (hc.ne_ hp h1)) (keeps_set (Keeps.refl _ _) hp h2 u)
theorem RowsAt.set_ (h : RowsAt w rb ps) (k : Nat) (hk : k < ps.length) (l : List ByteArray) (A : Option Addr) (c : Nat) (hl : l.length ≤ c) (hs : Sees w 9 A (l.map Value.string)) :
    RowsAt (w.setCell ⟨rb, k, none⟩ (.slice A l.length c)) rb (ps.set k (ps[k].hold l)) := by
  obtain ⟨cur, hc⟩ := h.blk
  have kk : Keeps 9 w (w.setCell ⟨rb, k, none⟩ (.slice A l.length c)) := keeps_set (Keeps.refl _ _) hc (by decide) _
  obtain ⟨f, h, hf⟩ := h
  refine ⟨fun j => if j = k then (A, l.length, c) else f j, ?_, fun j hj => ?_⟩
  · have h2 := h.set k (.slice A l.length c)
    rw [List.length_set]
    exact h2.congr (fun j hj => by
      by_cases e : j = k
      · simp [e]
      · simp [e])
  · rw [List.length_set] at hj
    by_cases e : j = k
    · subst e
      simp only [if_true, List.getElem_set_self]
      exact ⟨trivial, hl, hs.keeps kk⟩
    · simp only [if_neg e, List.getElem_set_ne (fun h => e h.symm)]
      exact ⟨(hf j hj).1, (hf j hj).2.1, (hf j hj).2.2.keeps kk⟩
theorem rowsAt_same {ps' : List Pth} (h : RowsAt w rb ps) (hl : ps'.length = ps.length) (hi : ∀ k (h1 : k < ps'.length) (h2 : k < ps.length), ps'[k].items = ps[k].items) : RowsAt w rb ps' := by
  obtain ⟨f, h, hf⟩ := h
  refine ⟨f, by rw [hl]; exact h, fun k hk => ?_⟩
  rw [hi k hk (by omega)]
  exact hf k (by omega)
end

/-- what the law's second loop holds: the router's box, the row of rows, the row of what is on. -/
structure RM (w0 : World) (rb ob n : Nat) (A : Option Addr) (c : Nat) (B : Option Addr) (cb : Nat) (ps rs : List Pth) (on : List Bool) (W : World) : Prop where
  box : Blk W (w0.heap.size + 1) 26 #[.slice A n c, .slice B 3 cb]
  pth : PathsAt W A ps
  onr : Sees W 4 B (on.map Value.bool)
  ono : Blk W ob 4 (on.map Value.bool).toArray
  row : RowsAt W rb rs
  bel : Below w0.heap.size w0 W
  far : ∀ g o, B = some ⟨g, o, none⟩ → g ≠ ob
  hob : w0.heap.size ≤ ob
  hrb : w0.heap.size ≤ rb
/-- .. and a second router, as it was handed back. -/
structure RY (w0 : World) (yb n : Nat) (A : Option Addr) (c : Nat) (B : Option Addr) (cb : Nat) (ps : List Pth) (on : List Bool) (W : World) : Prop where
  box : Blk W yb 26 #[.slice A n c, .slice B 3 cb]
  pth : PathsAt W A ps
  onr : Sees W 4 B (on.map Value.bool)
  hyb : w0.heap.size + 1 < yb
section
variable {w0 W W' : World} {rb ob yb n c cb c' cb' : Nat} {A B A' B' : Option Addr} {ps rs ps' : List Pth} {on on' : List Bool}
theorem RM.step (h : RM w0 rb ob n A c B cb ps rs on W) (hb : Below W.heap.size W W') : RM w0 rb ob n A c B cb ps rs on W' :=
  ⟨h.box.belowS hb, h.pth.below hb, h.onr.below hb, h.ono.belowS hb, h.row.below hb, below_then2 h.bel hb, h.far, h.hob, h.hrb⟩
theorem RM.drewN (h : RM w0 rb ob n A c B cb ps rs on W) (m : Nat) : RM w0 rb ob n A c B cb ps rs on (W.drewN m) := h.step (below_drewN (Below.refl _ _) m)
theorem RM.alloc (h : RM w0 rb ob n A c B cb ps rs on W) (o : Obj) : RM w0 rb ob n A c B cb ps rs on (W.alloc o) := h.step (bAlloc (Below.refl _ _) o)
theorem RY.step (h : RY w0 yb n A c B cb ps on W) (hb : Below W.heap.size W W') : RY w0 yb n A c B cb ps on W' :=
  ⟨h.box.belowS hb, h.pth.below hb, h.onr.below hb, h.hyb⟩
theorem RM.setRow (h : RM w0 rb ob n A c B cb ps rs on W) (k : Nat) (hk : k < rs.length) (l : List ByteArray) (R : Option Addr) (cr : Nat) (hl : l.length ≤ cr) (hs : Sees W 9 R (l.map Value.string)) :
    RM w0 rb ob n A c B cb ps (rs.set k (rs[k].hold l)) on (W.setCell ⟨rb, k, none⟩ (.slice R l.length cr)) := by
  obtain ⟨cur, hc⟩ := h.row.blk
  exact ⟨h.box.far (h.box.ne_ hc (by decide)) _, h.pth.keeps (keeps_set (Keeps.refl _ _) hc (by decide) _) (keeps_set (Keeps.refl _ _) hc (by decide) _), h.onr.set_ (p := ⟨rb, k, none⟩) hc (by decide) _,
    h.ono.far (h.ono.ne_ hc (by decide)) _, h.row.set_ k hk l R cr hl hs, h.bel.setCell h.hrb _, h.far, h.hob, h.hrb⟩
theorem RY.setRow (h : RY w0 yb n A c B cb ps on W) {cur : Array Value} (hc : Blk W rb 29 cur) (k : Nat) (u : Value) : RY w0 yb n A c B cb ps on (W.setCell ⟨rb, k, none⟩ u) :=
  ⟨h.box.far (h.box.ne_ hc (by decide)) _, h.pth.keeps (keeps_set (Keeps.refl _ _) hc (by decide) _) (keeps_set (Keeps.refl _ _) hc (by decide) _), h.onr.set_ (p := ⟨rb, k, none⟩) hc (by decide) _, h.hyb⟩
/-- 'r = y'. -/
theorem RM.turn (h : RM w0 rb ob n A c B cb ps rs on W) (hy : RY w0 yb n A' c' B' cb' ps' on' W) (hf : ∀ g o, B' = some ⟨g, o, none⟩ → g ≠ ob) (ho : on' = on) :
    RM w0 rb ob n A' c' B' cb' ps' rs on ((W.setCell ⟨w0.heap.size + 1, 0, none⟩ (.slice A' n c')).setCell ⟨w0.heap.size + 1, 1, none⟩ (.slice B' 3 cb')) := by
  subst ho
  have h1 := h.box.set_ 0 (.slice A' n c')
  have h2 := h1.set_ 1 (.slice B' 3 cb')
  have o1 : ob ≠ w0.heap.size + 1 := h.ono.ne_ h.box (by decide)
  exact ⟨h2, (hy.pth.keeps (keeps_set (Keeps.refl _ _) h.box (by decide) _) (keeps_set (Keeps.refl _ _) h.box (by decide) _)).keeps (keeps_set (Keeps.refl _ _) h1 (by decide) _) (keeps_set (Keeps.refl _ _) h1 (by decide) _),
    (hy.onr.set_ (p := ⟨w0.heap.size + 1, 0, none⟩) h.box (by decide) _).set_ (p := ⟨w0.heap.size + 1, 1, none⟩) h1 (by decide) _,
    (h.ono.far (by exact o1) _).far (by exact o1) _, (h.row.far h.box (by decide) (by decide) _).far (p := ⟨w0.heap.size + 1, 1, none⟩) h1 (by decide) (by decide) _,
    (h.bel.setCell (p := ⟨w0.heap.size + 1, 0, none⟩) (by simp) _).setCell (p := ⟨w0.heap.size + 1, 1, none⟩) (by simp) _, hf, h.hob, h.hrb⟩
end
theorem Tryd.infoStrs : (Tryd.prog.info? 29).map (fun i => (i.zero, i.size, i.bytes)) = some (some (.slice none 0 0), 1, 24) := by kernel_rfl
theorem L1.rm {w0 W : World} {ps : List Pth} {A : Option Addr} {c : Nat} (h : L1 w0 ps (.slice A ps.length c) W) (hp : PsOk' ps) :
    RM w0 W.heap.size (W.heap.size + 1) ps.length A c (some ⟨w0.heap.size, 0, none⟩) 3 ps ps [true, true, false] ((W.alloc (.cells (madeCells #[.slice none 0 0] ps.length) 29)).alloc (.cells #[.bool true, .bool true, .bool false] 4)) := by
  obtain ⟨A', c', hv, hc, hP⟩ := h.paths hp
  cases hv
  have hb : Below W.heap.size W ((W.alloc (.cells (madeCells #[.slice none 0 0] ps.length) 29)).alloc (.cells #[.bool true, .bool true, .bool false] 4)) := bAlloc (bAlloc (Below.refl _ _) _) _
  have h2 := h.step hb
  have h3 := h.onr.lt
  have h4 := h.bel.size
  refine ⟨h2.box, PathsAt.below ⟨_, hP⟩ hb, .inr ⟨_, 0, _, rfl, h2.onr, fun j u hj => ?_⟩, Blk.new' (by simp), ?_, h2.bel, fun g o hg => ?_, by omega, by omega⟩
  · rw [Nat.zero_add]
    match j, hj with
    | 0, hj => simpa using hj
    | 1, hj => simpa using hj
    | 2, hj => simpa using hj
    | j + 3, hj => simp at hj
  · refine RowsAt.below (w := W.alloc (.cells (madeCells #[.slice none 0 0] ps.length) 29)) ?_ (bAlloc (Below.refl _ _) _)
    refine ⟨fun _ => (none, 0, 0), World.rowIs_made W (.slice none 0 0) ps.length 29, fun k hk => ?_⟩
    have hz := hp.nil _ (List.getElem_mem hk)
    rw [hz]
    exact ⟨rfl, Nat.le_refl _, .inl ⟨rfl, rfl⟩⟩
  · cases hg; omega
/-- .. whatever the router is. -/
def RMx (w0 : World) (rb ob n : Nat) (W : World) : Prop :=
  ∃ A c B cb ps on, RM w0 rb ob n A c B cb ps ps on W ∧ PsOk ps ∧ ps.length = n ∧ on.length = 3 ∧ n ≤ c
end Go.Proofs.YtokaaniimakfjaaDoor
