/- paths in memory; slices.IndexFunc, ContainsFunc. -/
import Derived.Test.YtokaaniimakfjaaDoorAlP
set_option linter.unusedSimpArgs false
set_option linter.unusedVariables false
set_option linter.unusedSectionVars false
namespace Go.Proofs.YtokaaniimakfjaaDoor
open Go.RowKit

structure Pth where
  fr : Nat
  to : Nat
  set : Nat
  items : List ByteArray
  cap : Nat
  best : Bool

/-- a path that may be, and what its cells hold; iv is the slice of what waits. -/
structure Pth.ok (p : Pth) : Prop where
  fr : p.fr ≤ 2
  to : p.to ≤ 2
  set : p.set ≤ 2
  cap1 : 1 ≤ p.cap
  cap3 : p.cap ≤ 3
  len : p.items.length ≤ p.cap
  size : ∀ s ∈ p.items, s.size ≤ 8
abbrev pcells (p : Pth) (iv : Option Addr × Nat) : List Value := [.int .i64 p.fr, .int .i64 p.to, .int .i64 p.set, .slice iv.1 p.items.length iv.2, .int .i64 p.cap, .bool p.best]
def flatP : List Pth → List (Option Addr × Nat) → List Value
  | p :: ps, iv :: ivs => pcells p iv ++ flatP ps ivs
  | _, _ => []
theorem length_flatP : ∀ (ps : List Pth) (ivs : List (Option Addr × Nat)), ivs.length = ps.length → (flatP ps ivs).length = ps.length * 6
  | [], _, _ => by simp [flatP]
  | p :: ps, [], h => by simp at h
  | p :: ps, iv :: ivs, h => by
    rw [flatP, List.length_append, length_flatP ps ivs (by simpa using h)]
    simp; omega
theorem flatP_get : ∀ (ps : List Pth) (ivs : List (Option Addr × Nat)) (_ : ivs.length = ps.length) (k i : Nat) (hk : k < ps.length) (hk' : k < ivs.length), i < 6 → (flatP ps ivs)[k * 6 + i]? = (pcells ps[k] ivs[k])[i]?
  | [], _, _, k, i, hk, _, _ => by simp at hk
  | p :: ps, [], h, _, _, _, _, _ => by simp at h
  | p :: ps, iv :: ivs, h, 0, i, hk, hk', hi => by
    rw [flatP, List.getElem?_append_left (by simp; omega)]; simp
  | p :: ps, iv :: ivs, h, k + 1, i, hk, hk', hi => by
    rw [flatP, List.getElem?_append_right (by simp; omega)]
    have h1 : (k + 1) * 6 + i - (pcells p iv).length = k * 6 + i := by simp; omega
    rw [h1]
    simp only [List.length_cons, Nat.add_lt_add_iff_right] at hk hk'
    rw [flatP_get ps ivs (by simpa using h) k i hk hk' hi]
    simp only [List.getElem_cons_succ]
theorem flatP_one : ∀ (ps : List Pth) (ivs : List (Option Addr × Nat)) (u : Value), u ∈ flatP ps ivs → u.oneCell' = true
  | [], _, u, h => by simp [flatP] at h
  | p :: ps, [], u, h => by simp [flatP] at h
  | p :: ps, iv :: ivs, u, h => by
    rw [flatP, List.mem_append] at h
    rcases h with h | h
    · simp only [pcells, List.mem_cons, List.not_mem_nil, or_false] at h
      rcases h with h | h | h | h | h | h <;> (subst h; rfl)
    · exact flatP_one ps ivs u h

/-- A points at the cells of the paths ps; the slices of what waits are ivs. -/
structure PathsIv (w : World) (A : Option Addr) (ps : List Pth) (ivs : List (Option Addr × Nat)) : Prop where
  len : ivs.length = ps.length
  row : Sees w 33 A (flatP ps ivs)
  item : ∀ k (h : k < ps.length) (h' : k < ivs.length), ps[k].items.length ≤ ivs[k].2 ∧ Sees w 9 ivs[k].1 (ps[k].items.map Value.string)
def PathsAt (w : World) (A : Option Addr) (ps : List Pth) : Prop := ∃ ivs, PathsIv w A ps ivs
theorem PathsIv.keeps {w w' : World} {A : Option Addr} {ps : List Pth} {ivs : List (Option Addr × Nat)} (h : PathsIv w A ps ivs) (k1 : Keeps 33 w w') (k2 : Keeps 9 w w') : PathsIv w' A ps ivs :=
  ⟨h.len, h.row.keeps k1, fun k hk hk' => ⟨(h.item k hk hk').1, (h.item k hk hk').2.keeps k2⟩⟩
theorem PathsAt.keeps {w w' : World} {A : Option Addr} {ps : List Pth} (h : PathsAt w A ps) (k1 : Keeps 33 w w') (k2 : Keeps 9 w w') : PathsAt w' A ps := by
  obtain ⟨ivs, h⟩ := h; exact ⟨ivs, h.keeps k1 k2⟩
theorem PathsAt.below {w w' : World} {A : Option Addr} {ps : List Pth} (h : PathsAt w A ps) (k : Below w.heap.size w w') : PathsAt w' A ps := h.keeps (keeps_below k) (keeps_below k)
theorem PathsIv.cell {w : World} {g o : Nat} {ps : List Pth} {ivs : List (Option Addr × Nat)} (h : PathsIv w (some ⟨g, o, none⟩) ps ivs) (k i : Nat) (hk : k < ps.length) (hi : i < 6) : w.cell? ⟨g, o + k * 6 + i, none⟩ = (pcells ps[k] (ivs[k]'(by rw [h.len]; exact hk)))[i]? := by
  have hk' : k < ivs.length := by rw [h.len]; exact hk
  have h1 := flatP_get ps ivs h.len k i hk hk' hi
  have hlt : i < (pcells ps[k] ivs[k]).length := by simp; omega
  rw [List.getElem?_eq_getElem hlt] at h1 ⊢
  rw [Nat.add_assoc]
  exact h.row.cell h1
theorem PathsIv.isSome {w : World} {A : Option Addr} {ps : List Pth} {ivs : List (Option Addr × Nat)} (h : PathsIv w A ps ivs) (k : Nat) (hk : k < ps.length) : ∃ g o, A = some ⟨g, o, none⟩ := by
  cases ps with
  | nil => simp at hk
  | cons p ps =>
    cases ivs with
    | nil => have := h.len; simp at this
    | cons iv ivs => exact h.row.some_of
theorem PathsIv.take_ {w : World} {A : Option Addr} {ps : List Pth} {ivs : List (Option Addr × Nat)} (h : PathsIv w A ps ivs) (m : Nat) : PathsAt w A (ps.take m) := by
  refine ⟨ivs.take m, by rw [List.length_take, List.length_take, h.len], ?_, fun k hk hk' => ?_⟩
  · have := h.row.take (m * 6)
    have e : ∀ (m : Nat) (ps : List Pth) (ivs : List (Option Addr × Nat)), (flatP ps ivs).take (m * 6) = flatP (ps.take m) (ivs.take m) := by
      intro m
      induction m with
      | zero => intro ps ivs; simp [flatP]
      | succ m ih =>
        intro ps ivs
        cases ps with
        | nil => simp [flatP]
        | cons p ps =>
          cases ivs with
          | nil => simp [flatP]
          | cons iv ivs =>
            rw [List.take_succ_cons, List.take_succ_cons, flatP, flatP, ← ih ps ivs, show (m + 1) * 6 = (pcells p iv).length + m * 6 by simp; omega, List.take_length_add_append]
    rwa [e] at this
  · rw [List.length_take] at hk hk'
    have := h.item k (by omega) (by omega)
    simpa using this

set_option maxHeartbeats 1000000 in
set_option maxRecDepth 100000 in
theorem pRight1_any (w : World) (s : ByteArray) (hs : s.size ≤ 8) : Calls Tryd.prog 21 #[.string s] w fun e w' => e = .returned (.bool false) ∧ Below w.heap.size w w' := by
  have h1 : (s.size : Int) ≤ 8 := by omega
  go_enter Tryd.func21, Tryd.ntmps21
  go_wp2
  go_ret
  exact ⟨by simp; omega, Below.refl _ _⟩

set_option maxHeartbeats 1000000 in
set_option maxRecDepth 100000 in
theorem ixStrs_any (w : World) (A : Option Addr) (c : Nat) (l : List ByteArray) (hS : Sees w 9 A (l.map Value.string)) (hl : l.length ≤ 16) (hs : ∀ s ∈ l, s.size ≤ 8) :
    Calls Tryd.prog 37 #[.slice A l.length c, .func (.func 21) #[] #[]] w fun e w' => e = .returned (.int .i64 (-1)) ∧ Below w.heap.size w w' := by
  have HS := Lib.hid hS
  have HZ := Lib.hid hs
  clear hS hs
  obtain ⟨n, hn⟩ : ∃ n, n = l.length := ⟨_, rfl⟩
  rw [← hn] at hl ⊢
  have HN := Lib.hid hn
  clear hn
  go_enter Tryd.func37, Tryd.ntmps37
  go_wp2
  go_loopw [8] (fun s8 wr => ∃ k : Nat, k ≤ n ∧ s8 = .int .i64 (k : Nat) ∧ Below w.heap.size w wr) (fun s8 _ => n - (intOf s8).toNat)
  case atStart => exact ⟨0, by omega, rfl, Below.refl _ _⟩
  case round =>
    obtain ⟨k, hk, rfl, hbk⟩ := hrel
    have HBk := Lib.hid hbk
    clear hbk
    by_cases hlt : k < n
    · have hkl : k < l.length := by rw [← HN.out]; exact hlt
      have hx : (l.map Value.string)[k]? = some (.string l[k]) := by rw [List.getElem?_map, List.getElem?_eq_getElem hkl]; rfl
      have hz : l[k].size ≤ 8 := HZ.out _ (List.getElem_mem hkl)
      obtain ⟨g, o, hA⟩ : ∃ g o, A = some ⟨g, o, none⟩ := by
        rcases HS.out with ⟨_, h⟩ | ⟨g, o, cur, hA, _⟩
        · rw [h] at hx; simp at hx
        · exact ⟨g, o, hA⟩
      subst hA
      have e0 := (HS.out.keeps (keeps_below HBk.out)).cell hx
      have hkI : (k : Int) < n := by omega
      have hk0 : (0 : Int) ≤ k := by omega
      generalize l[k] = s at e0 hz
      clear hx hkl
      go_wp2_with (go_at_call 21; refine (pRight1_any _ _ hz).mono ?_; rintro e w1 ⟨rfl, hb1⟩; have HB1 := Lib.hid (below_then2 HBk.out hb1); clear hb1)
      go_roundw
      case rel => exact ⟨k + 1, by omega, by go_num, HB1.out⟩
      case measure => simp [intOf]; omega
    · have hk1 : k = n := by omega
      subst hk1
      go_wp2
      go_ret
      exact ⟨rfl, HBk.out⟩

set_option maxHeartbeats 1000000 in
set_option maxRecDepth 100000 in
theorem cfStrs_any (w : World) (A : Option Addr) (c : Nat) (l : List ByteArray) (hS : Sees w 9 A (l.map Value.string)) (hl : l.length ≤ 16) (hs : ∀ s ∈ l, s.size ≤ 8) :
    Calls Tryd.prog 24 #[.slice A l.length c, .func (.func 21) #[] #[]] w fun e w' => e = .returned (.bool false) ∧ Below w.heap.size w w' := by
  have HI := Lib.hid (ixStrs_any w A c l hS hl hs)
  clear hS hs
  go_enter Tryd.func24, Tryd.ntmps24
  go_wp2_with (go_at_call 37; refine HI.out.mono ?_; rintro e w1 ⟨rfl, hb1⟩; have HB1 := Lib.hid hb1; clear hb1)
  go_ret
  exact ⟨rfl, HB1.out⟩
end Go.Proofs.YtokaaniimakfjaaDoor
