/- pdur.Waits. -/
import Derived.Test.YtokaaniimakfjaaDoorAlS
set_option linter.unusedSimpArgs false
set_option linter.unusedVariables false
set_option linter.unusedSectionVars false
namespace Go.Proofs.YtokaaniimakfjaaDoor
open Go.RowKit

def waitsP (to : Nat) : List Pth → Nat
  | [] => 0
  | p :: ps => (if p.to = to then p.items.length else 0) + waitsP to ps
theorem waitsP_snoc (to : Nat) : ∀ (ps : List Pth) (p : Pth), waitsP to (ps ++ [p]) = waitsP to ps + (if p.to = to then p.items.length else 0)
  | [], p => by simp [waitsP]
  | q :: ps, p => by rw [List.cons_append, waitsP, waitsP_snoc to ps p, waitsP]; omega
theorem waitsP_le (to : Nat) : ∀ (ps : List Pth), (∀ p ∈ ps, p.items.length ≤ 16) → waitsP to ps ≤ ps.length * 16
  | [], _ => by simp [waitsP]
  | p :: ps, h => by
    have h1 := h p (List.mem_cons_self ..)
    have h2 := waitsP_le to ps (fun q hq => h q (List.mem_cons_of_mem _ hq))
    rw [waitsP, List.length_cons]
    split <;> omega

set_option maxHeartbeats 4000000 in
set_option maxRecDepth 100000 in
theorem pWaits_any (w : World) (A B : Option Addr) (n c cb : Nat) (ps : List Pth) (to : Nat) (hP : PathsAt w A ps) (hl : ps.length = n) (hok : PsOk ps) (hcn : n ≤ c) :
    Calls Tryd.prog 7 #[.agg #[.slice A n c, .slice B 3 cb], .int .i64 to] w fun e w' => e = .returned (.int .i64 (waitsP to ps : Nat)) ∧ Below w.heap.size w w' := by
  have HR := Lib.hid (fun w hP => pRight_any w A B n c cb ps hP hl hok hcn)
  obtain ⟨ivs, hP⟩ := hP
  have HP := Lib.hid hP
  have HL := Lib.hid hl
  have hn : n ≤ 6 := by rw [← hl]; exact hok.len
  have HOK := Lib.hid hok
  have hI : RBox w #[.slice A n c, .slice B 3 cb] (w.alloc (.cells #[.slice A n c, .slice B 3 cb] 26)) := ⟨Blk.new' rfl, bAlloc (Below.refl _ _) _⟩
  have HI := Lib.hid hI
  clear hP hl hok hI
  go_enter Tryd.func7, Tryd.ntmps7
  go_wp2_with (go_at_call 9; refine (HR.out _ ⟨ivs, HP.out.keeps (keeps_below HI.out.below) (keeps_below HI.out.below)⟩).mono ?_; rintro e w1 ⟨rfl, hb1⟩; replace HI := Lib.hid (HI.out.step hb1); have b0 := HI.out.box.cell 0; have b1 := HI.out.box.cell 1; clear hb1)
  go_loopw [5, 14] (fun s5 s wr => ∃ k : Nat, k ≤ n ∧ s = .int .i64 (k : Nat) ∧ s5 = .int .i64 (waitsP to (ps.take k) : Nat) ∧ Below w.heap.size w wr) (fun _ s _ => n - (intOf s).toNat)
  case atStart => exact ⟨0, by omega, rfl, rfl, HI.out.below⟩
  case round =>
    clear HI b0 b1
    obtain ⟨k, hk, rfl, rfl, hbk⟩ := hrel
    have HBk := Lib.hid hbk
    clear hbk
    by_cases hlt : k < n
    · have hkl : k < ps.length := by rw [HL.out]; exact hlt
      obtain ⟨g1, o1, hA⟩ := HP.out.isSome k hkl
      subst hA
      have hP' := HP.out.keeps (keeps_below HBk.out) (keeps_below HBk.out)
      have hok1 := HOK.out.ok _ (List.getElem_mem hkl)
      have hle : waitsP to (ps.take k) ≤ 6 * 16 := by
        have h1 := waitsP_le to (ps.take k) (fun p hp => by have h := HOK.out.ok p (List.mem_of_mem_take hp); have := h.len; have := h.cap3; omega)
        rw [List.length_take] at h1
        omega
      have hnx : waitsP to (ps.take (k + 1)) = waitsP to (ps.take k) + (if ps[k].to = to then ps[k].items.length else 0) := by
        rw [List.take_add_one, List.getElem?_eq_getElem hkl, Option.toList_some, waitsP_snoc]
      have e0 := hP'.cell k 0 hkl (by decide)
      have e1 := hP'.cell k 1 hkl (by decide)
      have e2 := hP'.cell k 2 hkl (by decide)
      have e3 := hP'.cell k 3 hkl (by decide)
      have e4 := hP'.cell k 4 hkl (by decide)
      have e5 := hP'.cell k 5 hkl (by decide)
      rw [Nat.add_zero] at e0
      have hkI : (k : Int) < n := by omega
      have hk0 : (0 : Int) ≤ k := by omega
      have hlen : ps[k].items.length ≤ 3 := by have := hok1.len; have := hok1.cap3; omega
      generalize (ivs[k]'(by rw [HP.out.len]; exact hkl)) = iv at e0 e1 e2 e3 e4 e5
      generalize ps[k] = q at e0 e1 e2 e3 e4 e5 hnx hlen
      obtain ⟨qf, qt, qs, qi, qc, qb⟩ := q
      simp only at hnx hlen
      simp only [pcells] at e0 e1 e2 e3 e4 e5
      have HB1 := Lib.hid (bAlloc HBk.out (.cells #[.int .i64 qf, .int .i64 qt, .int .i64 qs, .slice iv.1 qi.length iv.2, .int .i64 qc, .bool qb] 33))
      have hw : IntKind.i64.wrap ((waitsP to (ps.take k) : Nat) + (qi.length : Nat) : Int) = ((waitsP to (ps.take k) + qi.length : Nat) : Int) := by rw [IntWalk.i64_in] <;> omega
      have HNX := Lib.hid hnx
      clear hnx hkl hok1 hP'
      generalize waitsP to (ps.take k) = m at *
      by_cases ht : qt = to
      · subst ht
        go_wp2
        go_roundw
        case rel => exact ⟨k + 1, by omega, by go_num, by rw [HNX.out, if_pos rfl]; go_num, HB1.out⟩
        case measure => simp [intOf]; omega
      · have ht2 : ((qt : Int) == to) = false := by simp; omega
        go_wp2
        go_roundw
        case rel => exact ⟨k + 1, by omega, by go_num, by rw [HNX.out, if_neg ht]; go_num, HB1.out⟩
        case measure => simp [intOf]; omega
    · have hk1 : k = n := by omega
      have htk : ps.take k = ps := List.take_of_length_le (by rw [HL.out]; omega)
      rw [htk]
      clear htk
      subst hk1
      go_wp2
      go_ret
      exact ⟨rfl, HBk.out⟩
end Go.Proofs.YtokaaniimakfjaaDoor
