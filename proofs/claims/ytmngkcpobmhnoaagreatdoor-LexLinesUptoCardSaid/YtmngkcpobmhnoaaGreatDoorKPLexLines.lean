/- The plain law of LexLines. -/
import Derived.Test.YtmngkcpobmhnoaaGreatDoorKPLex4
set_option linter.all false
namespace Go.Proofs.YtmngkcpobmhnoaaGreatDoor.Sim.Pl
open Go.Proofs
theorem lexLines_true (s : Bytes) (hs : s.length ≤ 1048576) : ∃ k : Nat, G_burinlaw07_LexLines s = some true := by
 have hsub : subT s (if (5000 : Int) < ((List.length s : Nat) : Int) then (5000 : Int) else ((List.length s : Nat) : Int)) = some (s.take 5000) := by
  split
  ·rename_i h; exact subT_nat (n := 5000) (by omega)
  ·rename_i h; rw [subT_len, List.take_of_length_le (by omega)]
 have hx := G_Lex1 (s.take 5000) (by simp; omega)
 have hT : ToksB (lexR (lex1 (s.take 5000))).1 := by
  cases h : lex1 (s.take 5000) with
  | inr p => exact ⟨by simp [lexR], fun t ht => by simp [lexR] at ht⟩
  | inl out =>
   obtain ⟨k1, k2⟩ := lex1_len h
   refine ⟨by simp only [lexR]; omega, fun t ht => ?_⟩
   have := k2 t ht
   simp at this; omega
 have hlx : G_burinlaw07_lexed (s.take 5000) = some (lexR (lex1 (s.take 5000))).1 := by
  unfold G_burinlaw07_lexed
  rw [hx, bind_some']
 have h1 := G_Words _ hT
 have h2 := G_ref_Words _ hT
 have h3 := G_Same (wordsR (wordsS (lexR (lex1 (s.take 5000))).1)).1 (by have := wordsR_len (l := (lexR (lex1 (s.take 5000))).1); have := hT.1; omega)
 refine ⟨0, ?_⟩
 unfold G_burinlaw07_LexLines
 rw [show G_burinlaw07_shown = some true from rfl, bind_some', hsub, bind_some', hlx, bind_some', h1, h2]
 generalize wordsR (wordsS (lexR (lex1 (s.take 5000))).1) = R at h3
 obtain ⟨a, b, c, d⟩ := R
 simp only [bind_some', if_true, h3, bind_some', beq_self_eq_true, G_IsKey, G_ref_IsKey]
end Go.Proofs.YtmngkcpobmhnoaaGreatDoor.Sim.Pl
