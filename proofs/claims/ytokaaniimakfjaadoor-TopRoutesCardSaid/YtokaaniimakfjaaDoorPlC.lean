/- Plain words: what frame.stuffed reads. -/
import Derived.Test.YtokaaniimakfjaaDoorPlB
namespace Go.Proofs.YtokaaniimakfjaaDoor

def endIs (e : Option Nat) (n : Nat) : Bool := match e with | none => false | some m => n == m
def stGo : List Bool → Nat → St → List Bool → Option Nat → List Bool × Nat × Nat
  | [], i, x, out, e => if endIs e out.length && decide (stN x < 5) then (out, i, 0) else ([], 0, 3)
  | c :: r, i, x, out, e =>
    if endIs e out.length && decide (stN x < 5) then (out, i, 0) else
    if (stStep x c).2 = 3 then ([], 0, 10) else
    if (stStep x c).2 = 2 then stGo r (i + 1) (stStep x c).1 out e else
    match e with
    | some m => stGo r (i + 1) (stStep x c).1 (out ++ [c]) (some m)
    | none =>
      if out ++ [c] = [true] ∨ (sizeF (out ++ [c])).2 = 12 then ([], 0, 12) else
      if (sizeF (out ++ [c])).2 = 0 then stGo r (i + 1) (stStep x c).1 (out ++ [c]) (some ((sizeF (out ++ [c])).1 + 15)) else stGo r (i + 1) (stStep x c).1 (out ++ [c]) none
def stuffedF (s : List Bool) : List Bool × Nat × Nat := stGo s 0 none [] none
def endInt : Option Nat → Int
  | none => -1
  | some n => n
/-- an end that is known lies behind at least fifteen bits -/
def EndOk : Option Nat → Prop
  | none => True
  | some n => 15 ≤ n ∧ n ≤ 200
theorem sizeF_le (l : List Bool) : (sizeF l).1 ≤ 103 := by
  unfold sizeF
  split
  · simp
  · cases bitAt l 13 <;> simp only [Bool.false_eq_true, if_false, if_true, Nat.reduceSub]
    all_goals
      split
      · simp
      · split
        · simp
        · split
          · simp
          · omega
theorem stGo_stop {c : Bool} {r : List Bool} {i : Nat} {x : St} {out : List Bool} {e : Option Nat} (h : (endIs e out.length && decide (stN x < 5)) = true) : stGo (c :: r) i x out e = (out, i, 0) := by
  unfold stGo; rw [if_pos h]
theorem stGo_err {c : Bool} {r : List Bool} {i : Nat} {x : St} {out : List Bool} {e : Option Nat} (h : (endIs e out.length && decide (stN x < 5)) = false) (h3 : (stStep x c).2 = 3) : stGo (c :: r) i x out e = ([], 0, 10) := by
  unfold stGo; rw [if_neg (by rw [h]; decide), if_pos h3]
theorem stGo_stuff {c : Bool} {r : List Bool} {i : Nat} {x : St} {out : List Bool} {e : Option Nat} (h : (endIs e out.length && decide (stN x < 5)) = false) (h2 : (stStep x c).2 = 2) : stGo (c :: r) i x out e = stGo r (i + 1) (stStep x c).1 out e := by
  conv => lhs; unfold stGo
  rw [if_neg (by rw [h]; decide), if_neg (by omega), if_pos h2]
theorem stGo_some {c : Bool} {r : List Bool} {i : Nat} {x : St} {out : List Bool} {m : Nat} (h : (endIs (some m) out.length && decide (stN x < 5)) = false) (h1 : (stStep x c).2 = 1) : stGo (c :: r) i x out (some m) = stGo r (i + 1) (stStep x c).1 (out ++ [c]) (some m) := by
  conv => lhs; unfold stGo
  rw [if_neg (by rw [h]; decide), if_neg (by omega), if_neg (by omega)]
theorem stGo_none {c : Bool} {r : List Bool} {i : Nat} {x : St} {out : List Bool} (h1 : (stStep x c).2 = 1) : stGo (c :: r) i x out none =
    if out ++ [c] = [true] ∨ (sizeF (out ++ [c])).2 = 12 then ([], 0, 12) else
      if (sizeF (out ++ [c])).2 = 0 then stGo r (i + 1) (stStep x c).1 (out ++ [c]) (some ((sizeF (out ++ [c])).1 + 15)) else stGo r (i + 1) (stStep x c).1 (out ++ [c]) none := by
  conv => lhs; unfold stGo
  rw [if_neg (by simp [endIs]), if_neg (by omega), if_neg (by omega)]
theorem sizeF_pos (l : List Bool) (h : (sizeF l).2 = 0) : 4 ≤ (sizeF l).1 := by
  unfold sizeF at h ⊢
  split at h
  · simp at h
  · rename_i h14
    rw [if_neg h14]
    cases hb : bitAt l 13 <;> simp only [hb, Bool.false_eq_true, if_false, if_true, Nat.reduceSub] at h ⊢
    all_goals
      split at h
      · simp at h
      · rename_i h2
        rw [if_neg h2]
        split at h
        · simp at h
        · rename_i h3
          rw [if_neg h3]
          split <;> simp <;> omega
theorem endIs_int (e : Option Nat) (n : Nat) : (((n : Nat) : Int) == endInt e) = endIs e n := by
  cases e with
  | none =>
    show (((n : Nat) : Int) == -1) = false
    rw [beq_eq_false_iff_ne]; omega
  | some m =>
    show (((n : Nat) : Int) == ((m : Nat) : Int)) = (n == m)
    rw [Bool.eq_iff_iff]; simp only [beq_iff_eq]; omega
theorem stStep_kind (x : St) (c : Bool) : (stStep x c).2 = 1 ∨ (stStep x c).2 = 2 ∨ (stStep x c).2 = 3 := by
  cases x with
  | none => exact .inl rfl
  | some p =>
    obtain ⟨b, n⟩ := p
    unfold stStep
    by_cases h5 : n = 5 <;> by_cases hc : c = b <;> simp [h5, hc]
theorem endIs_pos {e : Option Nat} {n : Nat} (h : EndOk e) (h2 : endIs e n = true) : 15 ≤ n := by
  cases e with
  | none => simp [endIs] at h2
  | some m => simp [endIs] at h2; have := h.1; omega
end Go.Proofs.YtokaaniimakfjaaDoor
