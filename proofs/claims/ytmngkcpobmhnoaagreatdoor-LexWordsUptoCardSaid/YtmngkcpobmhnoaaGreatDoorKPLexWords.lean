/- The plain law of LexWords. -/
import Derived.Test.YtmngkcpobmhnoaaGreatDoorKPLex4
set_option linter.all false
namespace Go.Proofs.YtmngkcpobmhnoaaGreatDoor.Sim.Pl
open Go.Proofs
theorem lexWords_true (l : List T_api_Tok) (hl : l.length ≤ 1048576) (hs : ∀ t ∈ l, t.S_.length ≤ 1048576) : ∃ k : Nat, G_burinlaw07_LexWords l = some true := by
 have hsub : subT l (if (2000 : Int) < ((List.length l : Nat) : Int) then (2000 : Int) else ((List.length l : Nat) : Int)) = some (l.take 2000) := by
  split
  ·rename_i h; exact subT_nat (n := 2000) (by omega)
  ·rename_i h; rw [subT_len, List.take_of_length_le (by omega)]
 have hT : ToksB (l.take 2000) := ⟨by simp; omega, fun t ht => hs t (List.mem_of_mem_take ht)⟩
 have h1 := G_Words _ hT
 have h2 := G_ref_Words _ hT
 have h3 := G_Same (wordsR (wordsS (l.take 2000))).1 (by have := wordsR_len (l := l.take 2000); have := hT.1; omega)
 refine ⟨0, ?_⟩
 unfold G_burinlaw07_LexWords
 rw [show G_burinlaw07_shown = some true from rfl, bind_some', hsub, bind_some', h1, h2]
 generalize wordsR (wordsS (l.take 2000)) = R at h3
 obtain ⟨a, b, c, d⟩ := R
 simp only [bind_some', if_true, h3, bind_some', beq_self_eq_true]
end Go.Proofs.YtmngkcpobmhnoaaGreatDoor.Sim.Pl
