/- The plain law of LexShows. -/
import Derived.Test.YtmngkcpobmhnoaaGreatDoorKPShow3
set_option linter.all false
namespace Go.Proofs.YtmngkcpobmhnoaaGreatDoor.Sim.Pl
open Go.Proofs
theorem lexShows_true (l : List T_api_Word) (hl : l.length ≤ 1048576) (hs : ∀ t ∈ l, t.S_.length ≤ 1048576) : ∃ k : Nat, G_burinlaw07_LexShows l = some true := by
 have hsub : subT l (if (500 : Int) < ((List.length l : Nat) : Int) then (500 : Int) else ((List.length l : Nat) : Int)) = some (l.take 500) := by
  split
  ·rename_i h; exact subT_nat (n := 500) (by omega)
  ·rename_i h; rw [subT_len, List.take_of_length_le (by omega)]
 have hT : WordsB (l.take 500) := ⟨by rw [List.length_take]; exact Nat.le_trans (Nat.min_le_left _ _) (by decide), fun t ht => hs t (List.mem_of_mem_take ht)⟩
 have h0 := rights_loop _ hT 0 (Nat.zero_le _)
 have h0 : loopO (G_burinlaw07_LexShows_L1 (l.take 500)) (0 : Int) = _ := h0
 have h1 := G_Show _ hT
 have h2 := G_refShow _ hT
 refine ⟨0, ?_⟩
 unfold G_burinlaw07_LexShows
 rw [show G_burinlaw07_shown = some true from rfl, bind_some', hsub, bind_some', h0, bind_some', h1, h2]
 generalize showR (showS (l.take 500)) = R
 obtain ⟨a, b⟩ := R
 simp only [bind_some', if_true, beq_self_eq_true]
end Go.Proofs.YtmngkcpobmhnoaaGreatDoor.Sim.Pl
