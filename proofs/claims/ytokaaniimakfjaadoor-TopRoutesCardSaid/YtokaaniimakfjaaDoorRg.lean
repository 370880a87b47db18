/- A region whose order is drawn, walked in one order: a read that hangs on cells (T) is taken first; T is shown anew behind each other operation as long as none of E has come up; those of E wait for every such read. No program in sight. -/
import Derived.OrdersHeld
import Derived.StillTail
import Derived.RegionTactic
import Derived.Deep.RegionHeld
set_option linter.unusedSimpArgs false
set_option linter.unusedVariables false
set_option linter.unusedSectionVars false
namespace Go.Proofs.YtokaaniimakfjaaDoor
section
variable {P : Program} {ops : Array Oper} {Q : Exit → Act → World → Prop} {md : Region.Mode} {T : World → Prop} {E : List Nat}

/-- none of E has come up. -/
def cleanOf (E : List Nat) (L : Array Bool) : Bool := E.all fun e => !L.getD e true
theorem clean_set {L : Array Bool} {i : Nat} (h : i ∉ E) : cleanOf E (L.setIfInBounds i true) = cleanOf E L := by
  unfold cleanOf
  rw [Bool.eq_iff_iff, List.all_eq_true, List.all_eq_true]
  constructor <;> intro hh e he <;> have := hh e he <;> have hne : i ≠ e := (fun x => h (x ▸ he))
  · rwa [getD_set_ne true hne] at this
  · rwa [getD_set_ne true hne]
theorem clean_not {L : Array Bool} {j : Nat} (hj : j < L.size) (h : cleanOf E (L.setIfInBounds j true) = true) : j ∉ E := by
  intro he
  unfold cleanOf at h
  have := List.all_eq_true.1 h j he
  simp [hj] at this

/-- whatever order is drawn from here on; T holds behind each operation till one of E comes up. -/
def wpAnyT (P : Program) (md : Region.Mode) (ops : Array Oper) (Q : Exit → Act → World → Prop) (T : World → Prop) (E : List Nat) : Nat → Array Bool → Act → World → Prop
  | 0, L, a, w => Region.ready md ops L = [] ∧ Q .normal a w
  | f + 1, L, a, w => (Region.ready md ops L = [] → Q .normal a w) ∧ ∀ i ∈ Region.ready md ops L, wpOp P ops Q i (fun a' w' => (cleanOf E (L.setIfInBounds i true) = true → T w') ∧ wpAnyT P md ops Q T E f (L.setIfInBounds i true) a' w') a w

theorem wpAnyT_any : ∀ (f : Nat) (L : Array Bool) (a : Act) (w : World), wpAnyT P md ops Q T E f L a w → wpAny P md ops Q f L a w
  | 0, _, _, _, h => h
  | f + 1, _, _, _, h => ⟨h.1, fun i hi => wpOp_mono (fun a' w' h' => wpAnyT_any f _ a' w' h'.2) (h.2 i hi)⟩

theorem ready_not_waits {i j : Nat} {L : Array Bool} (hj : j ∈ Region.ready md ops L) (hi : L.getD i true = false) : Region.waitsFor md ops j i = false := by
  obtain ⟨_, oj, hoj, hall⟩ := mem_ready.1 hj
  cases h : Region.waitsFor md ops j i
  · rfl
  · obtain ⟨o', ho', e, he, hb, hon⟩ := Region.waitsFor_spec h
    have e1 : o' = oj := Option.some.inj (ho'.symm.trans hoj)
    subst e1
    have h2 := hall e he hb
    rw [hon, getD_both hi] at h2
    cases h2

/-- an operation that yields its value in every world of S may be taken first, if S holds in whatever world, or if T gives S and those of E wait for it. -/
theorem wpAnyT_first {S : World → Prop} {i : Nat} {oi : Oper} {v : Value} (hi : ops[i]? = some oi) (hsel : ∀ (j : Nat) (o : Oper) cs b, ops[j]? = some o → o.op ≠ .select cs b)
    (hQ : ∀ c a w, Q (.panic c) (a.put oi.dst v) w → Q (.panic c) a w) (hiE : i ∉ E) :
    ∀ (f : Nat) (L : Array Bool) (a : Act) (w : World),
      (∀ j oj, ops[j]? = some oj → j ≠ i → L.getD j true = false → (∀ e ∈ oj.after, Region.binds md e = true → e.on ≠ i) → oi.apart ops oj = true) →
      i ∈ Region.ready md ops L → YieldsIf P ops S oi v a → (∀ w, S w) ∨ ((∀ w, T w → S w) ∧ (∀ e ∈ E, Region.waitsFor md ops e i = true) ∧ cleanOf E L = true) → S w → (cleanOf E L = true → T w) →
      wpAnyT P md ops Q T E f (L.setIfInBounds i true) (a.put oi.dst v) w → wpAnyT P md ops Q T E (f + 1) L a w := by
  intro f
  induction f with
  | zero =>
    intro L a w _ hr hy _ hS hT H
    refine ⟨fun h => (by rw [h] at hr; cases hr), fun j hj => ?_⟩
    by_cases hji : j = i
    · subst hji; exact hy.wpOp hi hS ⟨fun h => hT (by rwa [clean_set hiE] at h), H⟩
    · have h1 := ready_mono hj hji
      rw [H.1] at h1
      cases h1
  | succ f ih =>
    intro L a w hfree hr hy hM hS hT H
    refine ⟨fun h => (by rw [h] at hr; cases hr), fun j hj => ?_⟩
    by_cases hji : j = i
    · subst hji; exact hy.wpOp hi hS ⟨fun h => hT (by rwa [clean_set hiE] at h), H⟩
    · have h1 := H.2 j (ready_mono hj hji)
      have hun := (mem_ready.1 hr).1
      have hnw := ready_not_waits hj hun
      obtain ⟨hjun, oj, hoj, hall⟩ := mem_ready.1 hj
      have hnot : ∀ e ∈ oj.after, Region.binds md e = true → e.on ≠ i := by
        intro e he hb heq
        have h2 := hall e he hb
        rw [heq, getD_both hun] at h2
        cases h2
      have h2 := wpOp_putIf hoj (hfree j oj hoj hji hjun hnot) (fun cs b => hsel i oi cs b hi) (fun cs b => hsel j oj cs b hoj) hQ hy h1
      have hfree' : ∀ k ok, ops[k]? = some ok → k ≠ i → (L.setIfInBounds j true).getD k true = false → (∀ e ∈ ok.after, Region.binds md e = true → e.on ≠ i) → oi.apart ops ok = true := by
        intro k ok hk hki hu hno
        refine hfree k ok hk hki ?_ hno
        by_cases hjk : j = k
        · subst hjk; exact hjun
        · rw [getD_set_ne true hjk] at hu; exact hu
      refine wpOp_mono (fun a' w' h3 => ?_) h2
      obtain ⟨hy', hTj, H'⟩ := h3
      rw [Array.setIfInBounds_comm _ _ (fun h => hji h.symm)] at H'
      have hTj' : cleanOf E (L.setIfInBounds j true) = true → T w' := fun h => hTj (by rw [Array.setIfInBounds_comm _ _ (fun h => hji h.symm), clean_set hiE]; exact h)
      refine ⟨hTj', ?_⟩
      rcases hM with hM | ⟨hM1, hM2, hM3⟩
      · exact ih (L.setIfInBounds j true) a' w' hfree' (ready_mono hr (fun h => hji h.symm)) hy' (.inl hM) (hM w') hTj' H'
      · have hjE : j ∉ E := fun h => by rw [hM2 j h] at hnw; cases hnw
        have hc : cleanOf E (L.setIfInBounds j true) = true := by rw [clean_set hjE]; exact hM3
        exact ih (L.setIfInBounds j true) a' w' hfree' (ready_mono hr (fun h => hji h.symm)) hy' (.inr ⟨hM1, hM2, hc⟩) (hM1 _ (hTj' hc)) hTj' H'

/-- take number i first: it reads no memory. -/
theorem wpAnyT_pure {i : Nat} {oi : Oper} {v : Value} {f : Nat} {L : Array Bool} {a : Act} {w : World} (hi : ops[i]? = some oi)
    (hs : Region.noSelect ops = true) (hf : Region.free md ops L i = true) (hr : (Region.ready md ops L).contains i = true) (hE : E.contains i = false)
    (hQ : ∀ c a w, Q (.panic c) (a.put oi.dst v) w → Q (.panic c) a w) (hy : Region.wanted oi (yielded ops a.tmps) = true ∧ ∀ w, (execOp a.eval oi).run P w = .ok (.value v) w)
    (hT : cleanOf E L = true → T w)
    (h : wpAnyT P md ops Q T E f (L.setIfInBounds i true) (a.put oi.dst v) w) : wpAnyT P md ops Q T E (f + 1) L a w :=
  wpAnyT_first (S := fun _ => True) hi (Region.noSelect_spec hs) hQ (fun h => by rw [List.contains_iff_mem.2 h] at hE; cases hE) f L a w (Region.free_spec hi hf) (by simpa using hr)
    (.inl ⟨hy.1, fun w _ => hy.2 w⟩) (.inl fun _ => trivial) trivial hT h
/-- .. it reads cells of which T tells. -/
theorem wpAnyT_read {i : Nat} {oi : Oper} {v : Value} {f : Nat} {L : Array Bool} {a : Act} {w : World} (hi : ops[i]? = some oi)
    (hs : Region.noSelect ops = true) (hf : Region.free md ops L i = true) (hr : (Region.ready md ops L).contains i = true) (hE : E.contains i = false)
    (hE2 : (E.all fun e => Region.waitsFor md ops e i) = true) (hc : cleanOf E L = true)
    (hQ : ∀ c a w, Q (.panic c) (a.put oi.dst v) w → Q (.panic c) a w) (hy : Region.wanted oi (yielded ops a.tmps) = true ∧ ∀ w, T w → (execOp a.eval oi).run P w = .ok (.value v) w)
    (hT : T w)
    (h : wpAnyT P md ops Q T E f (L.setIfInBounds i true) (a.put oi.dst v) w) : wpAnyT P md ops Q T E (f + 1) L a w :=
  wpAnyT_first (S := T) hi (Region.noSelect_spec hs) hQ (fun h => by rw [List.contains_iff_mem.2 h] at hE; cases hE) f L a w (Region.free_spec hi hf) (by simpa using hr)
    (.inl hy) (.inr ⟨fun _ h => h, List.all_eq_true.1 hE2, hc⟩) hT (fun _ => hT) h
/-- the one that comes up next. -/
theorem wpAnyT_next {i : Nat} {o : Oper} {f : Nat} {L : Array Bool} {a : Act} {w : World} (hr : Region.ready md ops L = [i]) (ho : ops[i]? = some o)
    (h : ∀ K' : Act → World → Prop, (∀ a' w', (cleanOf E (L.setIfInBounds i true) = true → T w') → wpAnyT P md ops Q T E f (L.setIfInBounds i true) a' w' → K' a' w') → if Region.wanted o (yielded ops a.tmps) = true then Oper.wp P o a w K' Q else K' (a.put o.dst undef) w) :
    wpAnyT P md ops Q T E (f + 1) L a w :=
  ⟨fun h0 => (by rw [hr] at h0; cases h0), fun j hj => by
    rw [hr] at hj
    obtain rfl : j = i := by simpa using hj
    exact wpOp_step ho (fun K' hK => h K' (fun a' w' h1 h2 => hK a' w' ⟨h1, h2⟩))⟩
theorem wpAnyT_done {L : Array Bool} {a : Act} {w : World} (hr : Region.ready md ops L = []) (h : Q .normal a w) : ∀ f, wpAnyT P md ops Q T E f L a w
  | 0 => ⟨hr, h⟩
  | _ + 1 => ⟨fun _ => h, by rw [hr]; simp⟩
theorem wp_region_T {id : Nat} {a : Act} {w : World} (T : World → Prop) (E : List Nat) (hm : P.follows .mixedOrders = true)
    (h : wpAnyT P .any ops Q T E ops.size (Array.replicate ops.size false) a w.drew) : (Code.region id ops true).wp P Q a w :=
  wp_region_any hm (wpAnyT_any _ _ _ _ h)
end
end Go.Proofs.YtokaaniimakfjaaDoor
