/- Plain laws: an escape alone. -/
import Derived.Test.YtmngkcpobmhnoaaGreatDoorKPl3
import Derived.Test.YtmngkcpobmhnoaaGreatDoorKPl1
set_option linter.all false
namespace Go.Proofs.YtmngkcpobmhnoaaGreatDoor.Sim.Pl
open Go.Proofs

def escLen : Bytes → Nat
 | [] => 0
 | c :: r => if isDig 8 c then (((c :: r).take 3).takeWhile (isDig 8)).length else if c = 120 then 1 + (r.takeWhile (isDig 16)).length else 1
theorem escLen_le (r : Bytes) : escLen r ≤ r.length := by
 cases r with
 | nil => exact Nat.le_refl _
 | cons c r =>
  rw [escLen]
  split
  ·exact Nat.le_trans (tw_le _ _) (by rw [List.length_take]; exact Nat.min_le_right _ _)
  ·split
   ·have := tw_le (isDig 16) r; simp; omega
   ·simp
theorem tw_tw {T : Type} (p : T → Bool) (l : List T) : (l.takeWhile p).takeWhile p = l.takeWhile p := by
 induction l with
 | nil => rfl
 | cons c r ih =>
  rw [List.takeWhile_cons]
  split
  ·rename_i h; rw [List.takeWhile_cons, if_pos h, ih]
  ·rfl
theorem escL_let (c : UInt8) : escL.lookup c ≠ none → isDig 8 c = false ∧ c ≠ 120 := by
 revert c; refine all8 ?_; decide +kernel
theorem esc_take (r : Bytes) : escS (r.take (escLen r)) = escS r ∧ ∀ w n, escS r = some (w, n) → n = escLen r := by
 cases r with
 | nil => exact ⟨rfl, fun w n h => by cases h⟩
 | cons c r =>
  cases hl : escL.lookup c with
  | some w =>
   obtain ⟨h1, h2⟩ := escL_let c (by rw [hl]; simp)
   have e : escLen (c :: r) = 1 := by simp [escLen, h1, h2]
   refine ⟨?_, fun w' n h => ?_⟩
   ·rw [e]; simp [escS, hl]
   ·simp [escS, hl] at h; rw [e]; exact h.2.symm
  | none =>
   by_cases hx : c = 120
   ·subst hx
    have e : escLen (120 :: r) = (r.takeWhile (isDig 16)).length + 1 := by
     have : isDig 8 120 = false := by decide
     simp only [escLen, this, Bool.false_eq_true, if_false, if_true]; omega
    have e2 : (120 :: r).take ((r.takeWhile (isDig 16)).length + 1) = 120 :: r.takeWhile (isDig 16) := by rw [List.take_succ_cons, take_take_while]
    refine ⟨?_, fun w n h => ?_⟩
    ·rw [e, e2]; simp only [escS, hl, if_true, tw_tw]
    ·rw [e]
     simp only [escS, hl, if_true] at h
     split at h
     ·cases h
     ·obtain ⟨v, _, h3⟩ := Option.map_eq_some_iff.1 h
      simp only [Prod.mk.injEq] at h3; exact h3.2.symm
   ·by_cases hd : isDig 8 c = true
    ·have e : escLen (c :: r) = (((c :: r).take 3).takeWhile (isDig 8)).length := by simp only [escLen, hd, if_true]
     have e2 := take_of_takeWhile (isDig 8) (c :: r) 3
     have hle : (((c :: r).take 3).takeWhile (isDig 8)).length ≤ 3 := Nat.le_trans (tw_le _ _) (by simp; omega)
     have e3 : ∃ t, ((c :: r).take 3).takeWhile (isDig 8) = c :: t := ⟨(r.take 2).takeWhile (isDig 8), by rw [List.take_succ_cons, List.takeWhile_cons, if_pos hd]⟩
     obtain ⟨t, ht⟩ := e3
     have e4 : ((c :: t).take 3).takeWhile (isDig 8) = c :: t := by
      rw [List.take_of_length_le (by rw [← ht]; exact hle), ← ht, tw_tw]
     refine ⟨?_, fun w n h => ?_⟩
     ·rw [e, e2, ht]
      simp only [escS, hl, if_neg hx, e4, ht]
     ·rw [e]
      simp only [escS, hl, if_neg hx] at h
      split at h
      ·cases h
      ·obtain ⟨v, _, h3⟩ := Option.map_eq_some_iff.1 h
       simp only [Prod.mk.injEq] at h3; exact h3.2.symm
    ·have hd : isDig 8 c = false := by simpa using hd
     have e : escLen (c :: r) = 1 := by simp [escLen, hd, hx]
     have e1 : ∀ r : Bytes, ((c :: r).take 3).takeWhile (isDig 8) = [] := fun r => by rw [List.take_succ_cons, List.takeWhile_cons, if_neg (by simp [hd])]
     have e2 : ∀ r : Bytes, escS (c :: r) = none := fun r => by simp only [escS, hl, if_neg hx, e1, if_true]
     rw [e]
     exact ⟨by rw [e2]; exact e2 [], fun w n h => by rw [e2] at h; cases h⟩
theorem charT_esc (r : Bytes) : charT (92 :: r.take (escLen r)) = (escS r).map fun p => UInt8.ofNat p.1 := by
 obtain ⟨h1, h2⟩ := esc_take r
 unfold charT
 rw [if_neg (by simp), bytesS, if_pos rfl, h1]
 cases h : escS r with
 | none => rfl
 | some p =>
  obtain ⟨w, n⟩ := p
  have := h2 w n h
  subst this
  have : (r.take (escLen r)).drop (escLen r) = [] := List.drop_eq_nil_of_le (by simp; omega)
  simp only [this, bytesS_0, Option.map_some, List.length_singleton, if_true, List.head?_cons]
theorem charS_wrap (c : Bytes) (hc : c ≠ []) : charS (([39] ++ c) ++ [39]) = charT c := by
 have h1 : ¬ ((([39] ++ c) ++ [39]).length < 3 ∨ (([39] ++ c) ++ [39]).head? ≠ some 39 ∨ (([39] ++ c) ++ [39]).getLast? ≠ some 39) := by
  have : 0 < c.length := List.length_pos_iff.2 hc
  simp only [List.length_append, List.length_singleton, not_or, Decidable.not_not]
  exact ⟨by omega, rfl, List.getLast?_concat⟩
 unfold charS
 rw [if_neg h1]
 have : ((([39] ++ c) ++ [39]).drop 1).dropLast = c := by
  simp
 rw [this]
theorem wrap_char (b : UInt8) : IntKind.wrap .u8 (IntKind.wrap .i64 (IntKind.wrap .i8 (b.toNat : Int))) = b.toNat := by
 revert b; refine all8 ?_; decide +kernel
end Go.Proofs.YtmngkcpobmhnoaaGreatDoor.Sim.Pl
