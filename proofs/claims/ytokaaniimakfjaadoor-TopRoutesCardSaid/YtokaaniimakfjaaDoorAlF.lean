/- stuff.Stuff. -/
import Derived.Test.YtokaaniimakfjaaDoorAlE
set_option linter.unusedSimpArgs false
set_option linter.unusedVariables false
set_option linter.unusedSectionVars false
namespace Go.Proofs.YtokaaniimakfjaaDoor
open Go.RowKit

def bitCells (l : List Bool) : List Value := l.map fun b => .int .u8 (bitN b)
theorem bitCells_length (l : List Bool) : (bitCells l).length = l.length := by simp [bitCells]
theorem bitCells_snoc (l : List Bool) (c : Bool) : bitCells (l ++ [c]) = bitCells l ++ [.int .u8 (bitN c)] := by simp [bitCells]

/-- what Stuff's closure works on -/
structure SInv (B gx gs go : Nat) (s : St) (l : List Bool) (w : World) : Prop where
  bx : B ≤ gx
  bs : B ≤ gs
  bo : B ≤ go
  hx : Blk w gx 100 #[.pointer (some ⟨gs, 0, none⟩)]
  hs : Blk w gs 104 (stVals s)
  ho : ∃ v, Blk w go 87 #[v] ∧ w.ownsRow B 5 1 v l.length (bitCells l)

theorem own_blk_ne {w : World} {g : Nat} {t : TypeId} {cs : Array Value} {base : Nat} {e : TypeId} {size n : Nat} {v : Value} {xs : List Value} (h : w.ownsRow base e size v n xs) (hg : Blk w g t cs) (hne : e ≠ t) : v.ownBlock ≠ some g := by
  rcases h.2 with ⟨rfl, _⟩ | ⟨g', cap, cur, rfl, _, hh, _⟩
  · simp [Value.ownBlock]
  · intro he
    have : g' = g := by simpa [Value.ownBlock] using he
    subst this
    exact Blk.ne_ (t := e) hh hg hne rfl
theorem own_slice {w : World} {base n : Nat} {e : TypeId} {size : Nat} {v : Value} {xs : List Value} (h : w.ownsRow base e size v n xs) : ∃ A c, v = .slice A n c := by
  rcases h.2 with ⟨rfl, rfl⟩ | ⟨g, cap, cur, rfl, _⟩
  · exact ⟨none, 0, rfl⟩
  · exact ⟨_, cap, rfl⟩

theorem own_string {w : World} {base n : Nat} {v : Value} {xs : List Int} (h : w.ownsRow base 5 1 v n (xs.map (Value.int .u8))) :
    (convert 87 9 v).run Tryd.prog w = .ok (.string (strOfNums xs)) w := by
  have hl : xs.length = n := by have := h.1; simpa using this
  rcases h.2 with ⟨rfl, hn⟩ | ⟨g, cap, cur, rfl, _⟩
  · obtain rfl : xs = [] := List.eq_nil_of_length_eq_zero (by omega)
    exact run_convert_bytes_nil (P := Tryd.prog) w 87 5 Tryd.underlying87 Tryd.underlying5 0 0 9 Tryd.underlying9
  · refine run_convert_bytes_arg (P := Tryd.prog) w 87 5 Tryd.underlying87 Tryd.underlying5 g 0 n cap xs hl (fun i hi => ?_) 9 Tryd.underlying9
    have := h.cells (g := g) rfl i (.int .u8 (xs.getD i 0)) (by simp [List.getElem?_eq_getElem (show i < xs.length by omega), List.getD_eq_getElem?_getD])
    rwa [show ((⟨g, 0, none⟩ : Addr).add i) = ⟨g, 0 + i, none⟩ by unfold Addr.add; split <;> simp_all] at this
set_option maxHeartbeats 1000000 in
set_option maxRecDepth 100000 in
theorem sStuff1_any (B gx gs go : Nat) (s : St) (l : List Bool) (c : Bool) (w : World) (hs : StOk s) (hi : SInv B gx gs go s l w) (hl : l.length ≤ 10000) (hB : B ≤ w.heap.size) :
    Calls Tryd.prog 45 #[.int .u8 (bitN c), .pointer (some ⟨gx, 0, none⟩), .pointer (some ⟨go, 0, none⟩)] w fun e w' => e = .returned (.tuple #[]) ∧ SInv B gx gs go (stStep s c).1 (l ++ [c]) w' ∧ Below B w w' := by
  obtain ⟨i0, hi0, hz0, hz1, hz2⟩ := info_parts Tryd.infoU8
  obtain ⟨bx, bs, bo, hx, hsb, v, ho, hown⟩ := hi
  have x0 := hx.cell 0
  have hS := fun w => sstep_any s c gs w hs
  have HS := Lib.hid hS; clear hS
  have Hx := Lib.hid hx; have Hsb := Lib.hid hsb; have Ho := Lib.hid ho; have Hown := Lib.hid hown
  clear hx hsb ho hown
  go_enter Tryd.func45, Tryd.ntmps45
  go_wp2_with (first
    | (go_at_call 46; refine (HS.out _ Hsb.out).mono ?_; rintro e w1 ⟨rfl, hs1, hg1⟩; have ho1 := Lib.hid (Blk.grown Ho.out hg1 (by intro h; exact Blk.ne_ Ho.out Hsb.out (by decide) (Option.some.inj h))); have o0 := ho1.out.cell 0; have Hs1 := Lib.hid hs1; have Hown1 := Lib.hid (Hown.out.kept hg1 (.inr (own_blk_ne Hown.out Hsb.out (by decide)))); have Hg1 := Lib.hid hg1; clear hs1 hg1; have hsz1 := Hg1.out.size)
    | (at_builtin; refine wpList_append_own _ rfl (.tmp 7) (.tmp 9) 87 rfl B 5 i0 (.int .u8 0) 1 1 Tryd.underlying87 hi0 hz0 hz1 hz2 rfl (by decide) v l.length (bitCells l) rfl (Hown1.out.alloc _) ⟨w1.heap.size, 0, none⟩ 1 1 [.int .u8 (bitN c)] rfl rfl ?c1 ?c2 ?c3 ?c4 ?c5 ?_))
  case c1 => exact cell_one_new _ _ _
  case c2 => intro u hu; simp at hu; subst hu; rfl
  case c3 => unfold maxLen; omega
  case c4 => omega
  case c5 => simp; omega
  · intro v' w2 hown2 hgrow _
    have hne : v.ownBlock ≠ some go := own_blk_ne Hown1.out ho1.out (by decide)
    have ho2 := Blk.grown (ho1.out.alloc (.cells #[.int .u8 (bitN c)] 5)) hgrow (fun h => hne h.symm)
    have hs2 := Blk.grown (Hs1.out.alloc (.cells #[.int .u8 (bitN c)] 5)) hgrow (fun h => own_blk_ne Hown1.out Hs1.out (by decide) h.symm)
    have hx1 := Blk.grown Hx.out Hg1.out (fun h => Blk.ne_ Hx.out Hsb.out (by decide) (Option.some.inj h))
    have hx2 := Blk.grown (hx1.alloc (.cells #[.int .u8 (bitN c)] 5)) hgrow (fun h => own_blk_ne Hown1.out hx1 (by decide) h.symm)
    have hB2 : Below B w w2 := (((Below.refl B w).grown Hg1.out hB (by intro k hk; cases hk; exact bs)).alloc (by omega) _).grown hgrow (by simp; omega) (fun k hk => (Hown1.out.lt k hk).1)
    obtain ⟨A, cp, rfl⟩ := own_slice hown2
    have p0 := ho2.cell 0
    have p1 := ho2.frozen 0
    have Hown2 := Lib.hid hown2; have Ho2 := Lib.hid ho2; have Hs2 := Lib.hid hs2; have Hx2 := Lib.hid hx2; have HB2 := Lib.hid hB2
    clear hown2 ho2 hs2 hx2 hx1 hB2 hgrow hne
    go_wp2
    go_end0
    have hgo : w2.grownBy (w2.setCell ⟨go, 0, none⟩ (.slice A (l.length + 1) cp)) (some go) := only_setCell (World.grownBy.refl _ _) (.inl rfl) _
    refine ⟨rfl, ⟨bx, bs, bo, Hx2.out.grown hgo (fun h => Blk.ne_ Hx2.out Ho2.out (by decide) (Option.some.inj h)), Hs2.out.grown hgo (fun h => Blk.ne_ Hs2.out Ho2.out (by decide) (Option.some.inj h)), _, Ho2.out.set_ 0 _, ?_⟩, HB2.out.setCell bo _⟩
    have := Hown2.out.kept hgo (.inr (own_blk_ne Hown2.out Ho2.out (by decide)))
    rw [bitCells_snoc, List.length_append]
    exact this

theorem SInv.drawn {B gx gs go : Nat} {s : St} {l : List Bool} {w : World} (h : SInv B gx gs go s l w) {s' : St} {l' : List Bool} (e : s = s') (e' : l = l') : SInv B gx gs go s' l' w := by subst e; subst e'; exact h

set_option maxHeartbeats 1000000 in
set_option maxRecDepth 100000 in
theorem sStuff_any (l : List Bool) (w : World) (hl : l.length ≤ 2000) :
    Calls Tryd.prog 31 #[.string (bstr l)] w fun e w' => e = .returned (.tuple #[.string (bstr (stuffF l).2), .int .i64 0]) ∧ Below w.heap.size w w' := by
  have hR := fun w => bRight_any l w (by omega)
  have HR := Lib.hid hR; clear hR
  have hsz : (bstr l).size = l.length := size_bstr l
  have hby := fun k h h' => bstr_get l k h h'
  generalize ht : bstr l = t at *
  have Hsz := Lib.hid hsz; have Hby := Lib.hid hby
  have hts : t.size ≤ 2000 := by omega
  clear hsz hby ht
  go_enter Tryd.func31, Tryd.ntmps31
  go_wp2_with (go_at_call 32; refine (HR.out _).mono ?_; rintro e w1 ⟨rfl, hb1⟩)
  have hi0 : SInv w1.heap.size (w1.heap.size + 1 + 1) (w1.heap.size + 1) w1.heap.size none [] (((w1.alloc (.cells #[.slice none 0 0] 87)).alloc (.cells #[.int .u8 0, .int .i64 0] 104)).alloc (.cells #[.pointer (some ⟨w1.heap.size + 1, 0, none⟩)] 100)) :=
    ⟨by omega, by omega, by omega, Blk.new' (by simp), (Blk.new' (by simp)).alloc _, _, ((Blk.new' rfl).alloc _).alloc _, World.ownsRow_nil _ _ _ _⟩
  have hw0 : Below w1.heap.size w1 (((w1.alloc (.cells #[.slice none 0 0] 87)).alloc (.cells #[.int .u8 0, .int .i64 0] 104)).alloc (.cells #[.pointer (some ⟨w1.heap.size + 1, 0, none⟩)] 100)) := bAlloc (bAlloc (bAlloc (Below.refl _ _) _) _) _
  have Hi0 := Lib.hid hi0; have Hw0 := Lib.hid hw0
  clear hi0 hw0
  go_loopw [16] (fun i wr => ∃ k : Nat, k ≤ t.size ∧ i = .int .i64 k ∧ SInv w1.heap.size (w1.heap.size + 1 + 1) (w1.heap.size + 1) w1.heap.size (stuffF (l.take k)).1 (stuffF (l.take k)).2 wr ∧ Below w1.heap.size w1 wr) (fun i _ => t.size - (intOf i).toNat)
  case atStart => exact ⟨0, Nat.zero_le _, rfl, Hi0.out, Hw0.out⟩
  case round =>
    obtain ⟨k, hk, rfl, hi, hb⟩ := hrel
    have hbs := hb.size
    by_cases hlt : k < t.size
    · have hkl : k < l.length := by rw [← Hsz.out]; exact hlt
      have hby := Hby.out k hlt hkl
      have HB := Lib.hid hby; clear hby
      have hok := stuffF_ok l k
      have hstep := stuffF_take l k hkl
      have Hstep := Lib.hid hstep; clear hstep
      obtain ⟨q, hq⟩ : ∃ q, q = stuffF (l.take k) := ⟨_, rfl⟩
      rw [← hq] at hok hi
      obtain ⟨hok1, hok2⟩ := hok
      have hlen : q.2.length ≤ 10000 := by omega
      have Hq := Lib.hid hq; clear hq
      obtain ⟨c, hc⟩ : ∃ c, c = l[k] := ⟨_, rfl⟩
      have Hc := Lib.hid hc
      rw [← hc] at HB
      clear hc
      have hs1 := stStep_ok q.1 c hok1
      have Hi := Lib.hid hi; have Hb := Lib.hid hb; clear hi hb
      by_cases h5 : stN (stStep q.1 c).1 = 5
      · have hacc : stuffAcc q c = ((stStep (stStep q.1 c).1 !c).1, q.2 ++ [c] ++ [!c]) := by unfold stuffAcc; rw [if_pos h5]
        have Hacc := Lib.hid hacc; clear hacc
        have H5 := Lib.hid h5; clear h5
        go_wp2_with (first
          | (go_at_call 45; rw [HB.out]; refine (sStuff1_any w1.heap.size _ _ _ q.1 q.2 c _ hok1 Hi.out hlen hbs).mono ?_; rintro e w2 ⟨rfl, hi2, hb2⟩; have x0 := hi2.hx.cell 0; have s1 := hi2.hs.cell 1; simp only [stVals, H5.out] at s1; have Hi2 := Lib.hid hi2; have Hb2 := Lib.hid (Hb.out.trans hb2); clear hi2 hb2; have hbs2 := Hb2.out.size)
          | (go_at_call 47; rw [HB.out]; refine (sOther_any c _).mono ?_; rintro e w3 ⟨rfl, rfl⟩)
          | (go_at_call 45; refine (sStuff1_any w1.heap.size _ _ _ _ _ (!c) _ hs1 Hi2.out (by simp; omega) hbs2).mono ?_; rintro e w4 ⟨rfl, hi4, hb4⟩; have Hi4 := Lib.hid hi4; have Hb4 := Lib.hid (Hb2.out.trans hb4); clear hi4 hb4))
        go_roundw
        case rel => exact ⟨k + 1, by omega, by go_num, by rw [Hstep.out, ← Hq.out, ← Hc.out, Hacc.out]; exact Hi4.out, Hb4.out⟩
        case measure => simp [intOf]; omega
      · have hacc : stuffAcc q c = ((stStep q.1 c).1, q.2 ++ [c]) := by unfold stuffAcc; rw [if_neg h5]
        have Hacc := Lib.hid hacc; clear hacc
        have h5' : (((stN (stStep q.1 c).1 : Nat) : Int) == 5) = false := beq_eq_false_iff_ne.2 (by omega)
        clear h5
        go_wp2_with (first
          | (go_at_call 45; rw [HB.out]; refine (sStuff1_any w1.heap.size _ _ _ q.1 q.2 c _ hok1 Hi.out hlen hbs).mono ?_; rintro e w2 ⟨rfl, hi2, hb2⟩; have x0 := hi2.hx.cell 0; have s1 := hi2.hs.cell 1; simp only [stVals] at s1; have Hi2 := Lib.hid hi2; have Hb2 := Lib.hid (Hb.out.trans hb2); clear hi2 hb2; have hbs2 := Hb2.out.size))
        go_roundw
        case rel => exact ⟨k + 1, by omega, by go_num, by rw [Hstep.out, ← Hq.out, ← Hc.out, Hacc.out]; exact Hi2.out, Hb2.out⟩
        case measure => simp [intOf]; omega
    · have hkl : l.take k = l := List.take_of_length_le (by rw [← Hsz.out]; omega)
      rw [hkl] at hi
      have Hkl := Lib.hid hkl; clear hkl
      have hlen := (stuffF_okAll l).2
      have hlen2 : (stuffF l).2.length ≤ 4000 := by have := Hsz.out; omega
      clear hlen
      obtain ⟨bx, bs, bo, hx, hs, v, ho, hown⟩ := hi
      obtain ⟨A, cp, rfl⟩ := own_slice hown
      have o0 := ho.cell 0
      have Hb := Lib.hid hb; clear hb
      have hcv : (convert 87 9 (.slice A (stuffF l).2.length cp)).run Tryd.prog wr = .ok (.string (bstr (stuffF l).2)) wr := by
        rcases hown.2 with ⟨he, h0⟩ | ⟨g, cap, cur, he, _⟩
        · have e2 : (stuffF l).2 = [] := List.eq_nil_of_length_eq_zero h0
          injection he with e3 e4 e5
          subst e3
          rw [e2]
          exact run_convert_bytes_nil (P := Tryd.prog) wr 87 5 Tryd.underlying87 Tryd.underlying5 _ _ 9 Tryd.underlying9
        · injection he with e3 e4 e5
          subst e3
          refine run_convert_bytes_arg (P := Tryd.prog) wr 87 5 Tryd.underlying87 Tryd.underlying5 g 0 _ cp ((stuffF l).2.map bitN) (by simp) (fun i hi => ?_) 9 Tryd.underlying9
          have := hown.cells (g := g) rfl i (.int .u8 (((stuffF l).2.map bitN).getD i 0)) (by simp [bitCells, List.getD_eq_getElem?_getD, hi])
          rwa [show ((⟨g, 0, none⟩ : Addr).add i) = ⟨g, 0 + i, none⟩ by unfold Addr.add; split <;> simp_all] at this
      have Hown := Lib.hid hown; clear hown ho hs hx
      go_wp2
      go_ret2
      exact ⟨rfl, below_then2 hb1 Hb.out⟩
end Go.Proofs.YtokaaniimakfjaaDoor
