/- rows that are only read; slices.Clone; ring. -/
import Derived.Test.YtokaaniimakfjaaDoorAlF
import Derived.Laws.Cover3
set_option linter.unusedSimpArgs false
set_option linter.unusedVariables false
set_option linter.unusedSectionVars false
namespace Go.Proofs.YtokaaniimakfjaaDoor
open Go.RowKit

/-- the cells from A on, in a block of elements of type e, begin with xs. -/
def Sees (w : World) (e : TypeId) (A : Option Addr) (xs : List Value) : Prop :=
  (A = none ∧ xs = []) ∨ ∃ g o cur, A = some ⟨g, o, none⟩ ∧ w.heap[g]? = some (.cells cur e (0, 0)) ∧ ∀ j u, xs[j]? = some u → cur[o + j]? = some u

/-- no block of elements of type e is another in w'. -/
def Keeps (e : TypeId) (w w' : World) : Prop := ∀ (g : Nat) (cur : Array Value), w.heap[g]? = some (.cells cur e (0, 0)) → w'.heap[g]? = some (.cells cur e (0, 0))
theorem Keeps.refl (e : TypeId) (w : World) : Keeps e w w := fun _ _ h => h
theorem Keeps.trans {e : TypeId} {a b c : World} (h : Keeps e a b) (k : Keeps e b c) : Keeps e a c := fun g cur hg => k g cur (h g cur hg)
theorem keeps_below {e : TypeId} {w w' : World} (h : Below w.heap.size w w') : Keeps e w w' := fun g _ hg => (h.block g (Array.getElem?_eq_some_iff.1 hg).1).trans hg
theorem keeps_old {e : TypeId} {w w' : World} (h : Below w.heap.size w w') : Keeps e w w' := keeps_below h
theorem keeps_alloc {e : TypeId} {w w' : World} (h : Keeps e w w') (o : Obj) : Keeps e w (w'.alloc o) := fun g cur hg => (Below.heap_alloc w' o g (Array.getElem?_eq_some_iff.1 (h g cur hg)).1).trans (h g cur hg)
theorem keeps_set {e t : TypeId} {w w' : World} {p : Addr} {cs : Array Value} (h : Keeps e w w') (hp : Blk w' p.block t cs) (ht : e ≠ t) (u : Value) : Keeps e w (w'.setCell p u) := by
  intro g cur hg
  refine (Below.heap_setCell w' p u g ?_).trans (h g cur hg)
  intro he
  have h1 := h g cur hg
  rw [he] at h1
  have h2 : w'.heap[p.block]? = some (.cells cs t (0, 0)) := hp
  rw [h2] at h1
  cases h1; exact ht rfl
theorem keeps_drew {e : TypeId} {w w' : World} (h : Keeps e w w') (n : Nat) : Keeps e w (w'.drewN n) := h

theorem Sees.keeps {w w' : World} {e : TypeId} {A : Option Addr} {xs : List Value} (h : Sees w e A xs) (k : Keeps e w w') : Sees w' e A xs := by
  rcases h with h | ⟨g, o, cur, hA, hg, hx⟩
  · exact .inl h
  · exact .inr ⟨g, o, cur, hA, k g cur hg, hx⟩
theorem Sees.below {w w' : World} {e : TypeId} {A : Option Addr} {xs : List Value} (h : Sees w e A xs) (k : Below w.heap.size w w') : Sees w' e A xs := h.keeps (keeps_below k)
theorem Sees.some_of {w : World} {e : TypeId} {A : Option Addr} {x : Value} {xs : List Value} (h : Sees w e A (x :: xs)) : ∃ g o, A = some ⟨g, o, none⟩ := by
  rcases h with ⟨_, h⟩ | ⟨g, o, cur, hA, _, _⟩
  · cases h
  · exact ⟨g, o, hA⟩
theorem Sees.addr {w : World} {e : TypeId} {a : Addr} {xs : List Value} (h : Sees w e (some a) xs) : a = ⟨a.block, a.off, none⟩ := by
  rcases h with ⟨h, _⟩ | ⟨g, o, cur, hA, _, _⟩
  · cases h
  · cases hA; rfl
theorem Sees.cell {w : World} {e : TypeId} {g o : Nat} {xs : List Value} (h : Sees w e (some ⟨g, o, none⟩) xs) {j : Nat} {u : Value} (hj : xs[j]? = some u) : w.cell? ⟨g, o + j, none⟩ = some u := by
  rcases h with ⟨h, _⟩ | ⟨g', o', cur, hA, hg, hx⟩
  · cases h
  · cases hA; rw [Lib.cell_of_heap hg]; exact hx j u hj
theorem Sees.cells {w : World} {e : TypeId} {a : Addr} {xs : List Value} (h : Sees w e (some a) xs) : ∀ j u, xs[j]? = some u → w.cell? (a.add j) = some u := by
  intro j u hj
  have ha := h.addr
  obtain ⟨g, o, s⟩ := a
  cases ha
  have : (⟨g, o, none⟩ : Addr).add j = ⟨g, o + j, none⟩ := by unfold Addr.add; split <;> simp_all
  rw [this]; exact h.cell hj
theorem Sees.drop {w : World} {e : TypeId} {g o : Nat} {xs : List Value} (h : Sees w e (some ⟨g, o, none⟩) xs) (k : Nat) : Sees w e (some ⟨g, o + k, none⟩) (xs.drop k) := by
  rcases h with ⟨h, _⟩ | ⟨g', o', cur, hA, hg, hx⟩
  · cases h
  · cases hA
    refine .inr ⟨g, o + k, cur, rfl, hg, fun j u hj => ?_⟩
    rw [List.getElem?_drop] at hj
    have := hx _ _ hj
    rwa [← Nat.add_assoc] at this
theorem Sees.same {w : World} {e : TypeId} {g o : Nat} {xs : List Value} (h : Sees w e (some ⟨g, o, none⟩) xs) {k : Nat} (hk : xs.length ≤ k) : Sees w e (some ⟨g, o, none⟩) (xs.drop k) := by
  rw [List.drop_eq_nil_of_le hk]
  rcases h with ⟨h, _⟩ | ⟨g', o', cur, hA, hg, hx⟩
  · cases h
  · cases hA; exact .inr ⟨g, o, cur, rfl, hg, fun j u hj => by simp at hj⟩
theorem Sees.take {w : World} {e : TypeId} {A : Option Addr} {xs : List Value} (h : Sees w e A xs) (k : Nat) : Sees w e A (xs.take k) := by
  rcases h with ⟨h1, h2⟩ | ⟨g, o, cur, hA, hg, hx⟩
  · exact .inl ⟨h1, by rw [h2]; simp⟩
  · refine .inr ⟨g, o, cur, hA, hg, fun j u hj => hx j u ?_⟩
    rw [List.getElem?_take] at hj
    split at hj
    · exact hj
    · cases hj
theorem Sees.nil_ {w : World} {e : TypeId} {A : Option Addr} {xs : List Value} (h : Sees w e A xs) : Sees w e A [] := by
  have := h.take 0
  rwa [List.take_zero] at this
theorem Sees.mapAdd {w : World} {e : TypeId} {A : Option Addr} {xs : List Value} (h : Sees w e A xs) (k : Nat) : Sees w e (A.map (fun x => x.add k)) (xs.drop k) := by
  rcases h with ⟨rfl, rfl⟩ | ⟨g, o, cur, rfl, hg, hx⟩
  · exact .inl ⟨rfl, by simp⟩
  · have : (⟨g, o, none⟩ : Addr).add k = ⟨g, o + k, none⟩ := by unfold Addr.add; split <;> simp_all
    rw [Option.map_some, this]
    exact Sees.drop (.inr ⟨g, o, cur, rfl, hg, hx⟩) k
theorem Sees.set_ {w : World} {e t : TypeId} {A : Option Addr} {xs : List Value} {p : Addr} {cs : Array Value} (h : Sees w e A xs) (hp : Blk w p.block t cs) (ht : e ≠ t) (u : Value) : Sees (w.setCell p u) e A xs :=
  h.keeps (keeps_set (Keeps.refl e w) hp ht u)
theorem sees_of_own {w : World} {base size n : Nat} {e : TypeId} {v : Value} {xs : List Value} (h : w.ownsRow base e size v n xs) : ∃ A c, v = .slice A n c ∧ n ≤ c ∧ Sees w e A xs := by
  obtain ⟨hl, ⟨rfl, rfl⟩ | ⟨g, cap, cur, rfl, _, hg, hn, _, _, htake⟩⟩ := h
  · refine ⟨none, 0, rfl, Nat.le_refl _, .inl ⟨rfl, List.eq_nil_of_length_eq_zero (by simpa using hl)⟩⟩
  · refine ⟨_, _, rfl, hn, .inr ⟨g, 0, cur, rfl, hg, fun j u hj => ?_⟩⟩
    rw [← htake, List.getElem?_take] at hj
    split at hj
    · rw [Nat.zero_add]; simpa using hj
    · cases hj
theorem bOnly2 {w w1 w2 : World} {row : Option Nat} (h : Below w.heap.size w w1) (hg : w1.grownBy w2 row) (hB : ∀ g, row = some g → w.heap.size ≤ g) : Below w.heap.size w w2 := h.grown hg h.size hB
theorem own_base {w : World} {base size n g : Nat} {e : TypeId} {v : Value} {xs : List Value} (h : w.ownsRow base e size v n xs) (hg : v.ownBlock = some g) : base ≤ g := by
  obtain ⟨_, ⟨rfl, _⟩ | ⟨g', cap, cur, rfl, hb, _⟩⟩ := h
  · cases hg
  · cases hg; exact hb
theorem own_empty {w : World} {base g : Nat} {e : TypeId} {size : Nat} (hb : base ≤ g) (h : Blk w g e #[]) : w.ownsRow base e size (.slice (some ⟨g, 0, none⟩) 0 0) 0 [] :=
  ⟨by simp, .inr ⟨g, 0, #[], rfl, hb, h, Nat.le_refl _, by simp, by simp, by simp⟩⟩

theorem Tryd.infoStr : (Tryd.prog.info? 9).map (fun i => (i.zero, i.size, i.bytes)) = some (some (.string ⟨#[]⟩), 1, 16) := by kernel_rfl

theorem eqlNil {P : Program} (w : World) (t e : TypeId) (a : Option Addr) (l c : Nat) (h : P.underlying t = some (.slice e)) : (binOp .eql t (.slice a l c) (.slice none 0 0)).run P w = .ok (.bool a.isNone) w := by
  simp only [binOp]
  simp [run_equal_slice_nil w t e a l c h]

set_option maxHeartbeats 1000000 in
set_option maxRecDepth 100000 in
theorem clItems_any (w : World) (A : Option Addr) (n c : Nat) (xs : List Value) (h : Sees w 9 A xs) (hl : xs.length = n) (hn : n ≤ 4000) (h1 : ∀ u ∈ xs, u.oneCell' = true) :
    Calls Tryd.prog 38 #[.slice A n c] w fun e w' => ∃ v, e = .returned v ∧ w'.ownsRow w.heap.size 9 1 v n xs ∧ Below w.heap.size w w' := by
  go_enter Tryd.func38, Tryd.ntmps38
  cases A with
  | none =>
    have he := fun w => eqlNil (P := Tryd.prog) w 69 9 none n c Tryd.underlying69
    have hx : xs = [] := by rcases h with ⟨_, h⟩ | ⟨_, _, _, h, _⟩; exact h; cases h
    subst hx
    simp at hl; subst hl
    go_wp2
    go_ret
    exact ⟨_, rfl, World.ownsRow_nil _ _ _ _, Below.refl _ _⟩
  | some a =>
    have he := fun w => eqlNil (P := Tryd.prog) w 69 9 (some a) n c Tryd.underlying69
    obtain ⟨i0, hi0, hz0, hz1, hz2⟩ := info_parts Tryd.infoStr
    have hown := own_empty (size := 1) (Nat.le_refl w.heap.size) (Blk.new w 9 #[])
    have HO := Lib.hid hown; have HL := Lib.hid hl; have HS := Lib.hid (h.below (bAlloc (Below.refl _ w) (.cells #[] 9))); have H1 := Lib.hid h1
    clear hown h hl h1
    go_wp2_with (at_builtin; refine wpList_append_own _ rfl (.tmp 5) (.tmp 6) 69 rfl w.heap.size 9 i0 (.string ⟨#[]⟩) 1 16 Tryd.underlying69 hi0 hz0 hz1 hz2 rfl (by decide) _ 0 [] rfl HO.out a n c xs rfl ?c1 ?c2 ?c3 ?c4 ?c5 ?c6 ?_)
    case c1 => rw [HL.out]; simp
    case c2 => exact HS.out.cells
    case c3 => exact H1.out
    case c4 => unfold maxLen; omega
    case c5 => omega
    case c6 => simp
    intro v' w' hown' hgr _
    have hb : Below w.heap.size w w' := bOnly (bAlloc (Below.refl _ w) (.cells #[] 9)) hgr (Nat.le_refl _)
    go_wp2
    go_ret
    exact ⟨_, rfl, by simpa using hown', hb⟩
theorem Tryd.infoPath : (Tryd.prog.info? 33).map (fun i => (i.zero, i.size, i.bytes)) = some (some (.agg #[.int .i64 0, .int .i64 0, .int .i64 0, .slice none 0 0, .int .i64 0, .bool false]), 6, 64) := by kernel_rfl
theorem Tryd.infoBool : (Tryd.prog.info? 4).map (fun i => (i.zero, i.size, i.bytes)) = some (some (.bool false), 1, 1) := by kernel_rfl

set_option maxHeartbeats 1000000 in
set_option maxRecDepth 100000 in
theorem clPaths_any (w : World) (A : Option Addr) (n c : Nat) (xs : List Value) (h : Sees w 33 A xs) (hl : xs.length = n * 6) (hn : n ≤ 4000) (h1 : ∀ u ∈ xs, u.oneCell' = true) :
    Calls Tryd.prog 18 #[.slice A n c] w fun e w' => ∃ v, e = .returned v ∧ w'.ownsRow w.heap.size 33 6 v n xs ∧ Below w.heap.size w w' := by
  go_enter Tryd.func18, Tryd.ntmps18
  cases A with
  | none =>
    have he := fun w => eqlNil (P := Tryd.prog) w 24 33 none n c Tryd.underlying24
    have hx : xs = [] := by rcases h with ⟨_, h⟩ | ⟨_, _, _, h, _⟩; exact h; cases h
    subst hx
    have hl : n = 0 := by simp at hl; omega
    subst hl
    go_wp2
    go_ret
    exact ⟨_, rfl, World.ownsRow_nil _ _ _ _, Below.refl _ _⟩
  | some a =>
    have he := fun w => eqlNil (P := Tryd.prog) w 24 33 (some a) n c Tryd.underlying24
    obtain ⟨i0, hi0, hz0, hz1, hz2⟩ := info_parts Tryd.infoPath
    have hown := own_empty (size := 6) (Nat.le_refl w.heap.size) (Blk.new w 33 #[])
    have HO := Lib.hid hown; have HL := Lib.hid hl; have HS := Lib.hid (h.below (bAlloc (Below.refl _ w) (.cells #[] 33))); have H1 := Lib.hid h1
    clear hown h hl h1
    go_wp2_with (at_builtin; refine wpList_append_own _ rfl (.tmp 5) (.tmp 6) 24 rfl w.heap.size 33 i0 (.agg #[.int .i64 0, .int .i64 0, .int .i64 0, .slice none 0 0, .int .i64 0, .bool false]) 6 64 Tryd.underlying24 hi0 hz0 hz1 hz2 rfl (by decide) _ 0 [] rfl HO.out a n c xs rfl ?c1 ?c2 ?c3 ?c4 ?c5 ?c6 ?_)
    case c1 => exact HL.out
    case c2 => exact HS.out.cells
    case c3 => exact H1.out
    case c4 => unfold maxLen; omega
    case c5 => omega
    case c6 => simp
    intro v' w' hown' hgr _
    have hb : Below w.heap.size w w' := bOnly (bAlloc (Below.refl _ w) (.cells #[] 33)) hgr (Nat.le_refl _)
    go_wp2
    go_ret
    exact ⟨_, rfl, by simpa using hown', hb⟩

set_option maxHeartbeats 1000000 in
set_option maxRecDepth 100000 in
theorem clBools_any (w : World) (A : Option Addr) (n c : Nat) (xs : List Value) (h : Sees w 4 A xs) (hl : xs.length = n) (hn : n ≤ 4000) (h1 : ∀ u ∈ xs, u.oneCell' = true) :
    Calls Tryd.prog 13 #[.slice A n c] w fun e w' => ∃ v, e = .returned v ∧ w'.ownsRow w.heap.size 4 1 v n xs ∧ Below w.heap.size w w' := by
  go_enter Tryd.func13, Tryd.ntmps13
  cases A with
  | none =>
    have he := fun w => eqlNil (P := Tryd.prog) w 23 4 none n c Tryd.underlying23
    have hx : xs = [] := by rcases h with ⟨_, h⟩ | ⟨_, _, _, h, _⟩; exact h; cases h
    subst hx
    simp at hl; subst hl
    go_wp2
    go_ret
    exact ⟨_, rfl, World.ownsRow_nil _ _ _ _, Below.refl _ _⟩
  | some a =>
    have he := fun w => eqlNil (P := Tryd.prog) w 23 4 (some a) n c Tryd.underlying23
    obtain ⟨i0, hi0, hz0, hz1, hz2⟩ := info_parts Tryd.infoBool
    have hown := own_empty (size := 1) (Nat.le_refl w.heap.size) (Blk.new w 4 #[])
    have HO := Lib.hid hown; have HL := Lib.hid hl; have HS := Lib.hid (h.below (bAlloc (Below.refl _ w) (.cells #[] 4))); have H1 := Lib.hid h1
    clear hown h hl h1
    go_wp2_with (at_builtin; refine wpList_append_own _ rfl (.tmp 5) (.tmp 6) 23 rfl w.heap.size 4 i0 (.bool false) 1 1 Tryd.underlying23 hi0 hz0 hz1 hz2 rfl (by decide) _ 0 [] rfl HO.out a n c xs rfl ?c1 ?c2 ?c3 ?c4 ?c5 ?c6 ?_)
    case c1 => rw [HL.out]; simp
    case c2 => exact HS.out.cells
    case c3 => exact H1.out
    case c4 => unfold maxLen; omega
    case c5 => omega
    case c6 => simp
    intro v' w' hown' hgr _
    have hb : Below w.heap.size w w' := bOnly (bAlloc (Below.refl _ w) (.cells #[] 4)) hgr (Nat.le_refl _)
    go_wp2
    go_ret
    exact ⟨_, rfl, by simpa using hown', hb⟩
end Go.Proofs.YtokaaniimakfjaaDoor
