/- TopRoutes: for every input the law returns true, and the input reads as it did. Conditions: what the row itself says; unicode/utf8's tables first and acceptRanges are as the program's text lays them (the card ties them). -/
import Derived.Test.YtokaaniimakfjaaDoorAmC
import Derived.Test.YtokaaniimakfjaaDoorAmG
set_option linter.unusedSimpArgs false
set_option linter.unusedVariables false
set_option linter.unusedSectionVars false
namespace Go.Proofs.YtokaaniimakfjaaDoor
open Go.ChangeShapes Go.WideShapes Go.ChangeAt Go.RowKit Go.Deep

set_option maxRecDepth 100000 in
theorem rtes_of_trod {H : Type} {enc : TypeId × Value → H} {W : World} {base : Nat} {v : Value} {d : DataW H} {p : List MemPlace}
    (hv : Value.okWide Tryd.prog W .any base 22 v) (h : DataW.Trod enc Tryd.prog W 0 (fun _ => true) true 22 v d p) :
    ∃ A n c l, v = .slice A n c ∧ l.length = n ∧ n ≤ c ∧ RtesAt W A l := by
  obtain ⟨a0, len, cap, rfl⟩ := okWide_slice Tryd.underlying22 hv
  obtain ⟨fuel, hf⟩ := h
  rcases open_slice_fields Tryd.underlying22 Tryd.underlying28 (by kernel_rfl) (by kernel_rfl) hf with ⟨hcs, hx⟩ | ⟨a, len', cap', m, D, Pl, hcs, _, hl, hm, hmm, hx, hi⟩
  · simp only [Value.cells, List.cons.injEq, and_true] at hcs
    cases hcs
    exact ⟨none, 0, 0, [], rfl, rfl, Nat.le_refl _, fun i h => by simp at h⟩
  · simp only [Value.cells, List.cons.injEq, and_true] at hcs
    cases hcs
    have hlm : len ≤ m := by rw [hmm]; split <;> omega
    obtain ⟨f, hf2⟩ : ∃ f : Nat → Rte, ∀ i, i < len → (f i).what < 256 ∧ (f i).at_ < 256 ∧ W.cell? (a.add (i * 3)) = some (.int .u8 (f i).what) ∧ W.cell? ⟨(a.add (i * 3)).block, (a.add (i * 3)).off + 1, none⟩ = some (.int .u8 (f i).at_) ∧ W.cell? ⟨(a.add (i * 3)).block, (a.add (i * 3)).off + 2, none⟩ = some (.string (f i).text) := by
      have : Inhabited Rte := ⟨⟨0, 0, ByteArray.empty⟩⟩
      refine choose_lt (α := Rte) (n := len) (p := fun i r => r.what < 256 ∧ r.at_ < 256 ∧ W.cell? (a.add (i * 3)) = some (.int .u8 r.what) ∧ W.cell? ⟨(a.add (i * 3)).block, (a.add (i * 3)).off + 1, none⟩ = some (.int .u8 r.at_) ∧ W.cell? ⟨(a.add (i * 3)).block, (a.add (i * 3)).off + 2, none⟩ = some (.string r.text)) (fun i hil => ?_)
      obtain ⟨ys, n, _, _, _, hfs⟩ := hi i (by omega)
      obtain ⟨v0, y0, c0, _, t0⟩ := hfs 0 _ rfl
      obtain ⟨v1, y1, c1, _, t1⟩ := hfs 1 _ rfl
      obtain ⟨v2, y2, c2, _, t2⟩ := hfs 2 _ rfl
      obtain ⟨x0, e0, _, w0⟩ := DataW.trod_int Tryd.underlying5 t0
      obtain ⟨x1, e1, _, w1⟩ := DataW.trod_int Tryd.underlying5 t1
      obtain ⟨x2, e2, _⟩ := DataW.trod_string Tryd.underlying9 t2
      simp only [List.cons.injEq, and_true] at e0 e1 e2
      subst e0; subst e1; subst e2
      obtain ⟨b0, b0'⟩ := bounds_u8 w0
      obtain ⟨b1, b1'⟩ := bounds_u8 w1
      obtain ⟨n0, rfl⟩ := Int.eq_ofNat_of_zero_le b0
      obtain ⟨n1, rfl⟩ := Int.eq_ofNat_of_zero_le b1
      have ea : ∀ k, a.add (i * 3 + (k + 1)) = ⟨(a.add (i * 3)).block, (a.add (i * 3)).off + (k + 1), none⟩ := by
        intro k
        rw [← Go.Deep.add_add]
        unfold Addr.add
        split <;> simp_all
      have c1' := c1
      have c2' := c2
      rw [show (1 : Nat) = 0 + 1 from rfl] at c1'
      exact ⟨⟨n0, n1, x2⟩, by simp; omega, by simp; omega, by simpa using c0, by rw [← ea 0]; exact c1, by rw [← ea 1]; exact c2⟩
    refine ⟨some a, len, cap, (List.range len).map f, rfl, by simp, hl, fun i hi => ?_⟩
    simp only [List.length_map, List.length_range] at hi
    obtain ⟨h1, h2, h3, h4, h5⟩ := hf2 i hi
    simp only [List.getElem_map, List.getElem_range]
    exact ⟨a, rfl, h1, h2, h3, h4, h5⟩
set_option maxRecDepth 100000 in
theorem routes_contract (H : Type) (enc : TypeId × Value → H) (W : World) (base : Nat) (args : Array Value) (ds gs : List (DataW H)) (before : List MemPlace)
    (hval : ∀ (j : Nat) t v, Tryd.f3.params[j]? = some t → args[j]? = some v → Value.okWide Tryd.prog W .any base t v)
    (hW : DataW.Whole enc Tryd.prog Tryd.f3.params.toList Rows.topRoutesSpec.vars false W args.toList ds gs before) :
    Calls Tryd.prog 3 args W fun e W' => ∃ v, e = .returned v ∧ Rows.topRoutesSpec.post enc Tryd.prog Tryd.f3 false true false false W args v W' := by
  have hW' := hW
  obtain ⟨p, q, hA0, hV, rfl, hfz, hnd⟩ := hW
  have hA : DataW.TrodAll enc Tryd.prog W 0 (fun _ => true) true Tryd.f3.params.toList args.toList ds p := hA0
  rw [Tryd.params3] at hA hval
  obtain ⟨v0, v1, d0, d1, p0, p1, rfl, rfl, rfl, h0, h1⟩ := trodAll_two hA
  obtain ⟨rfl, rfl⟩ := trodVars_none hV
  obtain ⟨A0, n0, c0, xs, rfl, hx, hc0, R0⟩ := rtes_of_trod (hval 0 _ _ rfl rfl) h0
  obtain ⟨A1, n1, c1, l, rfl, hl, hc1, R1⟩ := rtes_of_trod (hval 1 _ _ rfl rfl) h1
  clear hA0
  simp only [List.append_nil] at hW'
  refine (lRoutes_any W A0 A1 n0 c0 n1 c1 xs l hx hl hc0 hc1 R0 R1).mono fun e W' ⟨he, hb⟩ => ?_
  subst he
  have hlt : ∀ x ∈ p0 ++ p1, x.block < W.heap.size := fun x hx => hW'.lt x hx
  refine ⟨_, rfl, post_of_below (pa := p0 ++ p1) (pv := []) hW' (fun _ _ _ => trodAll_mk1 (shut_bool Tryd.underlying4 _)) (fun sp hsp => trodAll_mk2 ?_ ?_) (fun _ _ => rfl) (by simp) hb (ok_one (by kernel_rfl) rfl (okWide_bool_mk Tryd.underlying4 _))⟩
  · exact Go.WideElems.Trod_stays (by kernel_rfl) (by kernel_rfl) (of_decide_eq_true (by kernel_rfl)) h0 (fun x hx => hb.same (hlt x (List.mem_append_left _ hx))) (fun x hx => hsp x (List.mem_append_left _ hx))
  · exact Go.WideElems.Trod_stays (by kernel_rfl) (by kernel_rfl) (of_decide_eq_true (by kernel_rfl)) h1 (fun x hx => hb.same (hlt x (List.mem_append_right _ hx))) (fun x hx => hsp x (List.mem_append_right _ hx))

set_option maxRecDepth 100000 in
theorem routes_laid (os : Os) : laidMet Tryd.prog Rows.topRoutesRow.laid ((laidWorld os).forCall (fun _ _ => 0) ⟨#[], #[.slice none 0 0, .slice none 0 0], []⟩).memory :=
  laidMet_of_run' 8 (by kernel_rfl) (by kernel_rfl)
set_option maxRecDepth 100000 in
theorem routes_reads (os : Os) {H : Type} (enc : TypeId × Value → H) : ∃ places, DataW.whole enc Tryd.prog ((laidWorld os).forCall (fun _ _ => 0) ⟨#[], #[.slice none 0 0, .slice none 0 0], []⟩).memory Tryd.f3.params.toList Rows.topRoutesSpec.vars false #[Value.slice none 0 0, Value.slice none 0 0].toList 8 = some ([.nil, .nil], [], places) :=
  ⟨[], by kernel_rfl⟩

set_option maxRecDepth 100000 in
theorem routes_lifted (os : Os) (started : os.Started) (H : Type) (enc : TypeId × Value → H) (F : Stop.Interp) :
    ReturnsInHanded {} Tryd.checked os 3 .any ((OpenSpec.ofChange Rows.topRoutesSpec).preRow enc Tryd.prog Tryd.f3 Rows.topRoutesRow.domain false Rows.topRoutesRow.laid) (((OpenSpec.ofChange Rows.topRoutesSpec).at F).post enc Tryd.prog Tryd.f3 false true false false) := by
  obtain ⟨places, hx⟩ := routes_reads os enc
  refine returnsInHanded_of_row (C := Tryd.checked) (s := OpenSpec.ofChange Rows.topRoutesSpec) rowOwn started (by kernel_rfl) Tryd.func3
    (witness_row_at (enc := enc) (C := Tryd.checked) false (laidWorld os) #[.slice none 0 0, .slice none 0 0] rfl (by kernel_rfl) (by kernel_rfl) (by kernel_rfl)
      (OpenSpec.preRow_of_cond 8 hx (by kernel_rfl) (fun k hk => by cases hk) (by kernel_rfl) (routes_laid os))) ?_
  intro W base args ds gs before hval hW _ _ _ hL _ _
  exact routes_contract H enc W base args ds gs before hval hW

set_option maxRecDepth 100000 in
theorem routes_said : Rows.TopRoutesSaid :=
  OpenClaim.holds_of_cond 3 Tryd.f3 rfl rfl rfl rfl rfl rfl rfl ⟨rfl, rfl, rfl, rfl, rfl⟩ rfl rfl rfl rfl rfl (by kernel_rfl) Tryd.func3 (by kernel_rfl)
    (of_decide_eq_true (by kernel_rfl)) (by unfold Func.isWrapper; first | (rw [if_pos (by decide +kernel)]; kernel_rfl) | (rw [if_neg (by decide +kernel)]; exact ⟨rfl, rfl⟩))
    (fun os started H enc _ F => by rw [OpenClaim.pre_eq_preRow]; exact routes_lifted os started H enc F)

set_option maxRecDepth 100000 in
theorem routes_plain (f : FuncId) (fn : Func) (hf : Tryd.pinned.checked.prog.funcNamed "campanile/campaniletop.TopRoutes" = some f) (hfn : Tryd.pinned.checked.prog.funcs[f]? = some fn) :
    false = Tryd.pinned.checked.prog.looks [] ∧ ∀ (j : Nat) t, fn.params[j]? = some t → Tryd.pinned.checked.prog.wantsStandIn t = false := by
  obtain rfl : f = 3 := Option.some.inj ((show Tryd.prog.funcNamed "campanile/campaniletop.TopRoutes" = some 3 by kernel_rfl).symm.trans hf) |>.symm
  obtain rfl : fn = Tryd.f3 := (Option.some.inj (Tryd.func3.symm.trans hfn)).symm
  refine ⟨by kernel_rfl, fun j t ht => ?_⟩
  rw [Tryd.params3] at ht
  obtain rfl : t = 22 := by simpa using Array.mem_of_getElem? ht
  exact (show Tryd.prog.wantsStandIn 22 = false by kernel_rfl)

set_option maxRecDepth 100000 in
theorem routes_card : Rows.TopRoutesCardSaid :=
  Claim7.holds_tied_plain_at .later [] _ _ _ _ routes_said (fun _ h => by cases h) (by kernel_rfl) (fun _ h => by cases h) topRoutes_row_tie rfl ⟨rfl, rfl⟩ (by kernel_rfl) rfl routes_plain (by kernel_rfl)
#print axioms routes_card
end Go.Proofs.YtokaaniimakfjaaDoor
