/- ring. -/
import Derived.Test.YtokaaniimakfjaaDoorAlO
set_option linter.unusedSimpArgs false
set_option linter.unusedVariables false
set_option linter.unusedSectionVars false
namespace Go.Proofs.YtokaaniimakfjaaDoor
open Go.RowKit

set_option maxHeartbeats 1000000 in
set_option maxRecDepth 100000 in
theorem rgRight_any (w : World) (A : Option Addr) (n c m : Nat) (best : Bool) (hm : 1 ≤ m) (hm2 : m ≤ 16) (hn : n ≤ m) :
    Calls Tryd.prog 23 #[.agg #[.slice A n c, .int .i64 m, .bool best]] w fun e w' => e = .returned (.bool true) ∧ Below w.heap.size w w' := by
  have h1 : (1 : Int) ≤ m := by omega
  have h2 : (m : Int) ≤ 16 := by omega
  have h3 : (n : Int) ≤ m := by omega
  have hb := Lib.hid (bAlloc (Below.refl _ w) (.cells #[.slice A n c, .int .i64 m, .bool best] 31))
  go_enter Tryd.func23, Tryd.ntmps23
  go_wp2
  go_ret
  exact ⟨by simp, hb.out⟩

set_option maxHeartbeats 1000000 in
set_option maxRecDepth 100000 in
theorem rgRoom_any (w : World) (A : Option Addr) (n c m : Nat) (best : Bool) (hm : 1 ≤ m) (hm2 : m ≤ 16) (hn : n ≤ m) :
    Calls Tryd.prog 26 #[.agg #[.slice A n c, .int .i64 m, .bool best]] w fun e w' => e = .returned (.int .i64 (m - n : Nat)) ∧ Below w.heap.size w w' := by
  have h3 : (n : Int) ≤ m := by omega
  have hw : IntKind.i64.wrap ((m : Int) - (n : Int)) = ((m - n : Nat) : Int) := by rw [IntWalk.i64_in] <;> omega
  have HR := Lib.hid (fun w => rgRight_any w A n c m best hm hm2 hn)
  have hk := Blk.new w 31 #[.slice A n c, .int .i64 m, .bool best]
  have HB := Lib.hid (bAlloc (Below.refl _ w) (.cells #[.slice A n c, .int .i64 m, .bool best] 31))
  have HK := Lib.hid hk
  clear hk
  go_enter Tryd.func26, Tryd.ntmps26
  go_wp2_with (go_at_call 23; refine (HR.out _).mono ?_; rintro e w1 ⟨rfl, hb1⟩; have HB1 := Lib.hid (below_then2 HB.out hb1); have HK1 := Lib.hid (HK.out.belowS hb1); have c0 := HK1.out.cell 0; have c1 := HK1.out.cell 1; clear hb1)
  go_ret
  exact ⟨by simp [hw], HB1.out⟩

set_option maxHeartbeats 1000000 in
set_option maxRecDepth 100000 in
theorem rgBehind_any (w : World) (A : Option Addr) (n c : Nat) (l : List ByteArray) (s : ByteArray) (k : Nat) (hl : l.length = n) (hS : Sees w 9 A (l.map Value.string)) (hc : n ≤ c) (hn : n ≤ 16) (hk : k ≤ n) :
    Calls Tryd.prog 27 #[.slice A n c, .string s, .int .i64 k] w fun e w' => ∃ v, e = .returned v ∧ w'.ownsRow w.heap.size 9 1 v (n - k + 1) ((l.drop k ++ [s]).map Value.string) ∧ Below w.heap.size w w' := by
  have h0 : (0 : Int) ≤ k := by omega
  have h1 : (k : Int) ≤ n := by omega
  obtain ⟨i0, hi0, hz0, hz1, hz2⟩ := info_parts Tryd.infoStr
  have hone : ∀ u ∈ (l.drop k).map Value.string, u.oneCell' = true := by
    intro u hu; rw [List.mem_map] at hu; obtain ⟨x, _, rfl⟩ := hu; rfl
  have hlen : (l.drop k).length = n - k := by simp; omega
  by_cases hck : c = k
  all_goals
    first
      | (have hC := clItems_any w A (n - k) 0 ((l.drop k).map Value.string) (by rw [List.drop_eq_nil_of_le (by omega)]; exact hS.nil_) (by rw [List.length_map]; exact hlen) (by omega) hone; fail_if_success (have : ¬ c = k := hck))
      | have hC := clItems_any w (A.map (fun x => x.add k)) (n - k) (c - k) ((l.drop k).map Value.string) (by rw [List.map_drop]; exact hS.mapAdd k) (by rw [List.length_map]; exact hlen) (by omega) hone
    have HC := Lib.hid hC; have HLN := Lib.hid hlen
    clear hC hS hl hone hlen
    go_enter Tryd.func27, Tryd.ntmps27
    go_wp2_with (first
      | (go_at_call 38; refine (HC.out).mono ?_; rintro e w1 ⟨v1, rfl, hown1, hb1⟩; have HB1 := Lib.hid hb1; have HO1 := Lib.hid (hown1.alloc (.cells #[.string s] 9)); clear hown1 hb1)
      | (at_builtin; refine wpList_append_own _ rfl (.tmp 10) (.tmp 12) 69 rfl w.heap.size 9 i0 (.string ⟨#[]⟩) 1 16 Tryd.underlying69 hi0 hz0 hz1 hz2 rfl (by decide) v1 (n - k) _ rfl HO1.out ⟨w1.heap.size, 0, none⟩ 1 1 [.string s] rfl rfl ?c1 ?c2 ?c3 ?c4 ?c5 ?_))
    case c1 => exact cell_one_new _ _ _
    case c2 => intro u hu; simp at hu; subst hu; rfl
    case c3 => unfold maxLen; omega
    case c4 => omega
    case c5 => have := HB1.out.size; simp; omega
    intro v' w' hown' hgr _
    have hb : Below w.heap.size w w' := by
      refine bOnly2 (bAlloc HB1.out (.cells #[.string s] 9)) hgr ?_
      intro g hg
      exact own_base HO1.out hg
    go_wp2
    go_ret
    exact ⟨_, rfl, by rw [List.map_append, List.map_drop]; exact hown', hb⟩

abbrev zRing : Array Value := #[.slice none 0 0, .int .i64 0, .bool false]
/-- the two blocks of a call: the box of the ring, and the result's. -/
structure GInv (w0 : World) (cs rs : Array Value) (W : World) : Prop where
  box : Blk W w0.heap.size 31 cs
  res : Blk W (w0.heap.size + 1) 31 rs
  below : Below w0.heap.size w0 W
theorem GInv.start (w : World) (cs rs : Array Value) : GInv w cs rs ((w.alloc (.cells cs 31)).alloc (.cells rs 31)) :=
  ⟨(Blk.new' rfl).alloc _, Blk.new' (by simp), bAlloc (bAlloc (Below.refl _ _) _) _⟩
theorem GInv.step {w0 W W' : World} {cs rs : Array Value} (h : GInv w0 cs rs W) (hb : Below W.heap.size W W') : GInv w0 cs rs W' :=
  ⟨h.box.belowS hb, h.res.belowS hb, below_then2 h.below hb⟩
theorem GInv.put {w0 W : World} {cs rs : Array Value} (h : GInv w0 cs rs W) (i : Nat) (u : Value) : GInv w0 (cs.setIfInBounds i u) rs (W.setCell ⟨w0.heap.size, i, none⟩ u) :=
  ⟨h.box.set_ i u, h.res.far (by simp) u, h.below.setCell (by simp) u⟩
theorem GInv.give {w0 W : World} {cs rs : Array Value} (h : GInv w0 cs rs W) (i : Nat) (u : Value) : GInv w0 cs (rs.setIfInBounds i u) (W.setCell ⟨w0.heap.size + 1, i, none⟩ u) :=
  ⟨h.box.far (by simp) u, h.res.set_ i u, h.below.setCell (by simp) u⟩

set_option maxHeartbeats 1000000 in
set_option maxRecDepth 100000 in
theorem rgPut_room (w : World) (A : Option Addr) (n c m : Nat) (best : Bool) (l : List ByteArray) (s : ByteArray) (hl : l.length = n) (hS : Sees w 9 A (l.map Value.string)) (hc : n ≤ c) (hm : 1 ≤ m) (hm2 : m ≤ 16) (hn : n < m) :
    Calls Tryd.prog 12 #[.agg #[.slice A n c, .int .i64 m, .bool best], .string s] w fun e w' => ∃ A' c', e = .returned (.tuple #[.agg #[.slice A' (n + 1) c', .int .i64 m, .bool best], .int .i64 0, .int .i64 0]) ∧ n + 1 ≤ c' ∧ Sees w' 9 A' ((l ++ [s]).map Value.string) ∧ Below w.heap.size w w' := by
  have HR := Lib.hid (fun w => rgRight_any w A n c m best hm hm2 (by omega))
  have HM := Lib.hid (fun w => rgRoom_any w A n c m best hm hm2 (by omega))
  have HB := Lib.hid (fun w hS => rgBehind_any w A n c l s 0 hl hS hc (by omega) (by omega))
  have HI := Lib.hid (GInv.start w #[.slice A n c, .int .i64 m, .bool best] zRing)
  have HS := Lib.hid hS
  have hroom : (0 : Int) < ((m - n : Nat) : Int) := by omega
  clear hS hl
  go_enter Tryd.func12, Tryd.ntmps12
  go_wp2_with (first
    | (go_at_call 23; refine (HR.out _).mono ?_; rintro e w1 ⟨rfl, hb1⟩; replace HI := Lib.hid (HI.out.step hb1); have c0 := HI.out.box.cell 0; have c1 := HI.out.box.cell 1; have c2 := HI.out.box.cell 2; clear hb1)
    | (go_at_call 26; refine (HM.out _).mono ?_; rintro e w2 ⟨rfl, hb2⟩; replace HI := Lib.hid (HI.out.step hb2); clear c0 c1 c2; have c0 := HI.out.box.cell 0; have c1 := HI.out.box.cell 1; have c2 := HI.out.box.cell 2; clear hb2)
    | (go_at_call 27; refine (HB.out _ (HS.out.keeps (keeps_old HI.out.below))).mono ?_; rintro e w3 ⟨v3, rfl, hown3, hb3⟩; obtain ⟨A3, c3, rfl, hc3, hs3⟩ := sees_of_own hown3; have HS3 := Lib.hid hs3; replace HI := Lib.hid (HI.out.step hb3); clear c0 c1 c2 hs3 hown3; have c0 := HI.out.box.cell 0; have c1 := HI.out.box.cell 1; have c2 := HI.out.box.cell 2; have q0 := HI.out.box.frozen 0; have r0 := HI.out.res.cell 0; have r1 := HI.out.res.cell 1; have r2 := HI.out.res.cell 2; have s0 := HI.out.res.frozen 0; have s1 := HI.out.res.frozen 1; have s2 := HI.out.res.frozen 2; clear hb3))
  have hsF : Sees ((((w3.setCell ⟨w.heap.size, 0, none⟩ (.slice A3 (n + 1) c3)).setCell ⟨w.heap.size + 1, 0, none⟩ (.slice A3 (n + 1) c3)).setCell ⟨w.heap.size + 1, 1, none⟩ (.int .i64 m)).setCell ⟨w.heap.size + 1, 2, none⟩ (.bool best)) 9 A3 ((l ++ [s]).map Value.string) :=
    (((HS3.out.set_ HI.out.box (by decide) _).set_ (HI.out.put 0 _).res (by decide) _).set_ ((HI.out.put 0 _).give 0 _).res (by decide) _).set_ (((HI.out.put 0 _).give 0 _).give 1 _).res (by decide) _
  have HF := Lib.hid ((((HI.out.put 0 (.slice A3 (n + 1) c3)).give 0 (.slice A3 (n + 1) c3)).give 1 (.int .i64 m)).give 2 (.bool best))
  generalize (((w3.setCell _ _).setCell _ _).setCell _ _).setCell _ _ = w9 at hsF HF ⊢
  have d0 := HF.out.res.cell 0
  have d1 := HF.out.res.cell 1
  have d2 := HF.out.res.cell 2
  exact bodyPost_ret (v := .tuple #[.agg #[.slice A3 (n + 1) c3, .int .i64 m, .bool best], .int .i64 0, .int .i64 0]) (by simp [results, Tryd.results12, go_sem, d0, d1, d2]) rfl ⟨A3, c3, rfl, by omega, hsF, HF.out.below⟩

set_option maxHeartbeats 1000000 in
set_option maxRecDepth 100000 in
theorem rgPut_best (w : World) (A : Option Addr) (n c m : Nat) (hn1 : 1 ≤ n) (l : List ByteArray) (s : ByteArray) (hl : l.length = n) (hS : Sees w 9 A (l.map Value.string)) (hc : n ≤ c) (hm : 1 ≤ m) (hm2 : m ≤ 16) (hn : n = m) :
    Calls Tryd.prog 12 #[.agg #[.slice A n c, .int .i64 m, .bool true], .string s] w fun e w' => ∃ A' c', e = .returned (.tuple #[.agg #[.slice A' n c', .int .i64 m, .bool true], .int .i64 1, .int .i64 0]) ∧ n ≤ c' ∧ Sees w' 9 A' ((l.drop 1 ++ [s]).map Value.string) ∧ Below w.heap.size w w' := by
  subst hn
  have HR := Lib.hid (fun w => rgRight_any w A n c n true hm hm2 (by omega))
  have hz : n - n = 0 := by omega
  have hM : ∀ w, Calls Tryd.prog 26 #[.agg #[.slice A n c, .int .i64 n, .bool true]] w fun e w' => e = .returned (.int .i64 0) ∧ Below w.heap.size w w' := by
    intro w; have h := rgRoom_any w A n c n true hm hm2 (by omega); rw [hz] at h; exact h
  have HM := Lib.hid hM
  clear hM hz
  have HB := Lib.hid (fun w hS => rgBehind_any w A n c l s 1 hl hS hc (by omega) (by omega))
  have HI := Lib.hid (GInv.start w #[.slice A n c, .int .i64 n, .bool true] zRing)
  have HS := Lib.hid hS
  have hn2 : n - 1 + 1 = n := by omega
  clear hS hl
  go_enter Tryd.func12, Tryd.ntmps12
  go_wp2_with (first
    | (go_at_call 23; refine (HR.out _).mono ?_; rintro e w1 ⟨rfl, hb1⟩; replace HI := Lib.hid (HI.out.step hb1); have c0 := HI.out.box.cell 0; have c1 := HI.out.box.cell 1; have c2 := HI.out.box.cell 2; clear hb1)
    | (go_at_call 26; refine (HM.out _).mono ?_; rintro e w2 ⟨rfl, hb2⟩; replace HI := Lib.hid (HI.out.step hb2); clear c0 c1 c2; have c0 := HI.out.box.cell 0; have c1 := HI.out.box.cell 1; have c2 := HI.out.box.cell 2; clear hb2)
    | (go_at_call 27; refine (HB.out _ (HS.out.keeps (keeps_old HI.out.below))).mono ?_; rintro e w3 ⟨v3, rfl, hown3, hb3⟩; obtain ⟨A3, c3, rfl, hc3, hs3⟩ := sees_of_own hown3; rw [hn2] at hc3 ⊢; have HS3 := Lib.hid hs3; replace HI := Lib.hid (HI.out.step hb3); clear c0 c1 c2 hs3 hown3; have c0 := HI.out.box.cell 0; have c1 := HI.out.box.cell 1; have c2 := HI.out.box.cell 2; have q0 := HI.out.box.frozen 0; have r0 := HI.out.res.cell 0; have r1 := HI.out.res.cell 1; have r2 := HI.out.res.cell 2; have s0 := HI.out.res.frozen 0; have s1 := HI.out.res.frozen 1; have s2 := HI.out.res.frozen 2; clear hb3))
  have hsF : Sees ((((w3.setCell ⟨w.heap.size, 0, none⟩ (.slice A3 n c3)).setCell ⟨w.heap.size + 1, 0, none⟩ (.slice A3 n c3)).setCell ⟨w.heap.size + 1, 1, none⟩ (.int .i64 n)).setCell ⟨w.heap.size + 1, 2, none⟩ (.bool true)) 9 A3 ((l.drop 1 ++ [s]).map Value.string) :=
    (((HS3.out.set_ HI.out.box (by decide) _).set_ (HI.out.put 0 _).res (by decide) _).set_ ((HI.out.put 0 _).give 0 _).res (by decide) _).set_ (((HI.out.put 0 _).give 0 _).give 1 _).res (by decide) _
  have HF := Lib.hid ((((HI.out.put 0 (.slice A3 n c3)).give 0 (.slice A3 n c3)).give 1 (.int .i64 n)).give 2 (.bool true))
  generalize (((w3.setCell _ _).setCell _ _).setCell _ _).setCell _ _ = w9 at hsF HF ⊢
  have d0 := HF.out.res.cell 0
  have d1 := HF.out.res.cell 1
  have d2 := HF.out.res.cell 2
  exact bodyPost_ret (v := .tuple #[.agg #[.slice A3 n c3, .int .i64 n, .bool true], .int .i64 1, .int .i64 0]) (by simp [results, Tryd.results12, go_sem, d0, d1, d2]) rfl ⟨A3, c3, rfl, by omega, hsF, HF.out.below⟩

set_option maxHeartbeats 1000000 in
set_option maxRecDepth 100000 in
theorem rgPut_busy (w : World) (A : Option Addr) (n c m : Nat)  (l : List ByteArray) (s : ByteArray) (hl : l.length = n) (hS : Sees w 9 A (l.map Value.string)) (hc : n ≤ c) (hm : 1 ≤ m) (hm2 : m ≤ 16) (hn : n = m) :
    Calls Tryd.prog 12 #[.agg #[.slice A n c, .int .i64 m, .bool false], .string s] w fun e w' => e = .returned (.tuple #[.agg zRing, .int .i64 0, .int .i64 20]) ∧ Below w.heap.size w w' := by
  subst hn
  have HR := Lib.hid (fun w => rgRight_any w A n c n false hm hm2 (by omega))
  have hz : n - n = 0 := by omega
  have hM : ∀ w, Calls Tryd.prog 26 #[.agg #[.slice A n c, .int .i64 n, .bool false]] w fun e w' => e = .returned (.int .i64 0) ∧ Below w.heap.size w w' := by
    intro w; have h := rgRoom_any w A n c n false hm hm2 (by omega); rw [hz] at h; exact h
  have HM := Lib.hid hM
  clear hM hz
  have HI := Lib.hid (GInv.start w #[.slice A n c, .int .i64 n, .bool false] zRing)
  have HS := Lib.hid hS
  clear hS hl
  go_enter Tryd.func12, Tryd.ntmps12
  go_wp2_with (first
    | (go_at_call 23; refine (HR.out _).mono ?_; rintro e w1 ⟨rfl, hb1⟩; replace HI := Lib.hid (HI.out.step hb1); have c0 := HI.out.box.cell 0; have c1 := HI.out.box.cell 1; have c2 := HI.out.box.cell 2; clear hb1)
    | (go_at_call 26; refine (HM.out _).mono ?_; rintro e w2 ⟨rfl, hb2⟩; replace HI := Lib.hid (HI.out.step hb2); clear c0 c1 c2; have c0 := HI.out.box.cell 0; have c1 := HI.out.box.cell 1; have c2 := HI.out.box.cell 2; have r0 := HI.out.res.cell 0; have r1 := HI.out.res.cell 1; have r2 := HI.out.res.cell 2; have s0 := HI.out.res.frozen 0; have s1 := HI.out.res.frozen 1; have s2 := HI.out.res.frozen 2; clear hb2))
  have HF := Lib.hid (((HI.out.give 0 (.slice none 0 0)).give 1 (.int .i64 0)).give 2 (.bool false))
  generalize ((w2.setCell _ _).setCell _ _).setCell _ _ = w9 at HF ⊢
  have d0 := HF.out.res.cell 0
  have d1 := HF.out.res.cell 1
  have d2 := HF.out.res.cell 2
  exact bodyPost_ret (v := .tuple #[.agg zRing, .int .i64 0, .int .i64 20]) (by simp [results, Tryd.results12, go_sem, d0, d1, d2]) rfl ⟨rfl, HF.out.below⟩

set_option maxHeartbeats 1000000 in
set_option maxRecDepth 100000 in
theorem rgTake_any (w : World) (A : Option Addr) (n c m : Nat) (best : Bool) (x : ByteArray) (l : List ByteArray) (hl : l.length + 1 = n) (hS : Sees w 9 A ((x :: l).map Value.string)) (hc : n ≤ c) (hm : 1 ≤ m) (hm2 : m ≤ 16) (hn : n ≤ m) :
    Calls Tryd.prog 17 #[.agg #[.slice A n c, .int .i64 m, .bool best]] w fun e w' => ∃ A' c', e = .returned (.tuple #[.agg #[.slice A' (n - 1) c', .int .i64 m, .bool best], .string x, .int .i64 0]) ∧ n - 1 ≤ c' ∧ Sees w' 9 A' (l.map Value.string) ∧ Below w.heap.size w w' := by
  have HR := Lib.hid (fun w => rgRight_any w A n c m best hm hm2 hn)
  have HI := Lib.hid (GInv.start w #[.slice A n c, .int .i64 m, .bool best] zRing)
  obtain ⟨g, o, rfl⟩ := hS.some_of
  have HS := Lib.hid hS
  have h1n : 1 ≤ n := by omega
  have h1c : 1 ≤ c := by omega
  have h0n : (0 : Int) < n := by omega
  have h1I : (1 : Int) ≤ n := by omega
  have hz : ¬ ((n : Int) = 0) := by omega
  have hzb : ((n : Int) == 0) = false := by simp; omega
  clear hS
  by_cases hc1 : c = 1
  · subst hc1
    have hn1 : n = 1 := by omega
    subst hn1
    go_enter Tryd.func17, Tryd.ntmps17
    go_wp2_with (go_at_call 23; refine (HR.out _).mono ?_; rintro e w1 ⟨rfl, hb1⟩; replace HI := Lib.hid (HI.out.step hb1); have c0 := HI.out.box.cell 0; have c1 := HI.out.box.cell 1; have c2 := HI.out.box.cell 2; have q0 := HI.out.box.frozen 0; have r0 := HI.out.res.cell 0; have r1 := HI.out.res.cell 1; have r2 := HI.out.res.cell 2; have s0 := HI.out.res.frozen 0; have s1 := HI.out.res.frozen 1; have s2 := HI.out.res.frozen 2; have HS1 := Lib.hid (HS.out.keeps (keeps_below HI.out.below)); have e0 := (HS.out.keeps (keeps_below HI.out.below)).cell (j := 0) rfl; rw [Nat.add_zero] at e0; clear hb1)
    have hl0 : l = [] := List.eq_nil_of_length_eq_zero (by omega)
    have hs2 : Sees w1 9 (some ⟨g, o, none⟩) (l.map Value.string) := by rw [hl0]; exact HS1.out.nil_
    have HS2 := Lib.hid hs2; clear hs2
    have hsF : Sees ((((w1.setCell ⟨w.heap.size, 0, none⟩ (.slice (some ⟨g, o, none⟩) 0 0)).setCell ⟨w.heap.size + 1, 0, none⟩ (.slice (some ⟨g, o, none⟩) 0 0)).setCell ⟨w.heap.size + 1, 1, none⟩ (.int .i64 m)).setCell ⟨w.heap.size + 1, 2, none⟩ (.bool best)) 9 (some ⟨g, o, none⟩) (l.map Value.string) :=
      (((HS2.out.set_ HI.out.box (by decide) _).set_ (HI.out.put 0 _).res (by decide) _).set_ ((HI.out.put 0 _).give 0 _).res (by decide) _).set_ (((HI.out.put 0 _).give 0 _).give 1 _).res (by decide) _
    have HF := Lib.hid ((((HI.out.put 0 (.slice (some ⟨g, o, none⟩) 0 0)).give 0 (.slice (some ⟨g, o, none⟩) 0 0)).give 1 (.int .i64 m)).give 2 (.bool best))
    generalize (((w1.setCell _ _).setCell _ _).setCell _ _).setCell _ _ = w9 at hsF HF ⊢
    have d0 := HF.out.res.cell 0
    have d1 := HF.out.res.cell 1
    have d2 := HF.out.res.cell 2
    exact bodyPost_ret (v := .tuple #[.agg #[.slice (some ⟨g, o, none⟩) 0 0, .int .i64 m, .bool best], .string x, .int .i64 0]) (by simp [results, Tryd.results17, go_sem, d0, d1, d2]) rfl ⟨_, _, rfl, by omega, hsF, HF.out.below⟩
  · clear hl
    go_enter Tryd.func17, Tryd.ntmps17
    go_wp2_with (go_at_call 23; refine (HR.out _).mono ?_; rintro e w1 ⟨rfl, hb1⟩; replace HI := Lib.hid (HI.out.step hb1); have c0 := HI.out.box.cell 0; have c1 := HI.out.box.cell 1; have c2 := HI.out.box.cell 2; have q0 := HI.out.box.frozen 0; have r0 := HI.out.res.cell 0; have r1 := HI.out.res.cell 1; have r2 := HI.out.res.cell 2; have s0 := HI.out.res.frozen 0; have s1 := HI.out.res.frozen 1; have s2 := HI.out.res.frozen 2; have HS1 := Lib.hid (HS.out.keeps (keeps_below HI.out.below)); have e0 := (HS.out.keeps (keeps_below HI.out.below)).cell (j := 0) rfl; rw [Nat.add_zero] at e0; clear hb1)
    have HS2 := Lib.hid (HS1.out.drop 1)
    have hsF : Sees ((((w1.setCell ⟨w.heap.size, 0, none⟩ (.slice (some ⟨g, o + 1, none⟩) (n - 1) (c - 1))).setCell ⟨w.heap.size + 1, 0, none⟩ (.slice (some ⟨g, o + 1, none⟩) (n - 1) (c - 1))).setCell ⟨w.heap.size + 1, 1, none⟩ (.int .i64 m)).setCell ⟨w.heap.size + 1, 2, none⟩ (.bool best)) 9 (some ⟨g, o + 1, none⟩) (l.map Value.string) :=
      (((HS2.out.set_ HI.out.box (by decide) _).set_ (HI.out.put 0 _).res (by decide) _).set_ ((HI.out.put 0 _).give 0 _).res (by decide) _).set_ (((HI.out.put 0 _).give 0 _).give 1 _).res (by decide) _
    have HF := Lib.hid ((((HI.out.put 0 (.slice (some ⟨g, o + 1, none⟩) (n - 1) (c - 1))).give 0 (.slice (some ⟨g, o + 1, none⟩) (n - 1) (c - 1))).give 1 (.int .i64 m)).give 2 (.bool best))
    generalize (((w1.setCell _ _).setCell _ _).setCell _ _).setCell _ _ = w9 at hsF HF ⊢
    have d0 := HF.out.res.cell 0
    have d1 := HF.out.res.cell 1
    have d2 := HF.out.res.cell 2
    exact bodyPost_ret (v := .tuple #[.agg #[.slice (some ⟨g, o + 1, none⟩) (n - 1) (c - 1), .int .i64 m, .bool best], .string x, .int .i64 0]) (by simp [results, Tryd.results17, go_sem, d0, d1, d2]) rfl ⟨_, _, rfl, by omega, hsF, HF.out.below⟩
end Go.Proofs.YtokaaniimakfjaaDoor
