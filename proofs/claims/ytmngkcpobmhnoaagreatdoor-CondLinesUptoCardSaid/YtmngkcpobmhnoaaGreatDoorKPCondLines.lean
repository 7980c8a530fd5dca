/- The plain law of CondLines. -/
import Derived.Test.YtmngkcpobmhnoaaGreatDoorKPl3
import Derived.Test.YtmngkcpobmhnoaaGreatDoorKPl2
set_option linter.all false
namespace Go.Proofs.YtmngkcpobmhnoaaGreatDoor.Sim.Pl
open Go.Proofs
theorem condLines_true (s : Bytes) (hs : s.length ≤ 1048576) : ∃ k, G_burinlaw05_CondLines k s = some true := by
  have hsub : subT s (if (5000 : Int) < ((List.length s : Nat) : Int) then (5000 : Int) else ((List.length s : Nat) : Int)) = some (s.take 5000) := by
    split
    · rename_i h; exact subT_nat (n := 5000) (by omega)
    · rename_i h; rw [subT_len, List.take_of_length_le (by omega)]
  have hl : (s.take 5000).length ≤ 5000 := by simp; omega
  have hx := G_Lex1 (s.take 5000) (by omega)
  cases h : lex1 (s.take 5000) with
  | inr p =>
    obtain ⟨e, m⟩ := p
    have h0 : (e == (0 : Int)) = false := by simpa using lex1_err h
    rw [h] at hx
    refine ⟨0, ?_⟩
    unfold G_burinlaw05_CondLines
    rw [show G_burinlaw05_shown = some true from rfl, bind_some', hsub, bind_some', hx, bind_some']
    simp only [lexR, h0, Bool.not_false, if_true]
  | inl out =>
    rw [h] at hx
    obtain ⟨k1, k2⟩ := lex1_len h
    have hT : TokOK out := ⟨by omega, fun t ht => by have := k2 t ht; omega⟩
    obtain ⟨r, h1, h2⟩ := G_Eval hT (4 * out.length + 4) (Nat.le_refl _)
    obtain ⟨a, b, c⟩ := r
    refine ⟨4 * out.length + 4, ?_⟩
    unfold G_burinlaw05_CondLines
    rw [show G_burinlaw05_shown = some true from rfl, bind_some', hsub, bind_some', hx, bind_some']
    have e0 : ((0 : Int) == 0) = true := rfl
    simp only [lexR, e0, Bool.not_true, Bool.false_eq_true, if_false, h1, bind_some', h2]
    simp
end Go.Proofs.YtmngkcpobmhnoaaGreatDoor.Sim.Pl
