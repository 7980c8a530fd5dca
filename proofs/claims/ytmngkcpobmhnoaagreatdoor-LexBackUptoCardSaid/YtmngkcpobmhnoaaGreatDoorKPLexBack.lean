/- The plain law of LexBack. -/
import Derived.Test.YtmngkcpobmhnoaaGreatDoorKPBack3
set_option linter.all false
namespace Go.Proofs.YtmngkcpobmhnoaaGreatDoor.Sim.Pl
open Go.Proofs
theorem sum_take (l : List T_api_Word) (n : Nat) : ((l.take n).map fun t => t.S_.length).sum ≤ (l.map fun t => t.S_.length).sum := by
 induction l generalizing n with
 | nil => simp
 | cons w r ih =>
  cases n with
  | zero => simp
  | succ n => simp only [List.take_succ_cons, List.map_cons, List.sum_cons]; have := ih n; omega
theorem showW_small {w : T_api_Word} (hr : rightS w = true) : (showW w).length + 1 ≤ w.S_.length + 16500 := by
 unfold showW
 by_cases k4 : w.Kind_ = 4
 ·rw [if_pos k4]
  obtain ⟨_, _, h⟩ := right_bare hr (by omega)
  have hl : w.S_.length ≤ 4096 := by
   rcases h with h | h | h | h
   ·exact h.2
   ·omega
   ·omega
   ·omega
  simp only [List.length_cons, List.length_append, flat_len, List.length_nil]; omega
 ·rw [if_neg k4]
  split
  ·omega
  ·split
   ·simp [octS]
   ·have h1 := dec_len (u64c_lt w.V_)
    have h2 := suf_len w.T_
    simp only [List.length_append]; omega
theorem showF_len : ∀ (ws : List T_api_Word) (p : Option T_api_Word) (s : Bytes), showF p ws = some s → s.length ≤ (ws.map fun t => t.S_.length).sum + 16500 * ws.length := by
 intro ws
 induction ws with
 | nil => intro p s h; simp only [showF] at h; cases h; simp
 | cons w r ih =>
  intro p s h
  simp only [showF] at h
  split at h
  ·rename_i hc
   obtain ⟨s', hs', rfl⟩ := Option.map_eq_some_iff.1 h
   have h1 := ih _ _ hs'
   have h2 := showW_small hc.1
   simp only [List.length_append, List.map_cons, List.sum_cons, List.length_cons]
   split
   ·simp only [List.length_cons]; omega
   ·omega
  ·cases h
theorem back_loop (l : List T_api_Word) (hl : l.length ≤ 1000) : ∀ j, j ≤ l.length → loopO (G_burinlaw07_LexBack_L1 l (l.map baseW)) (j : Int) = some (Ex2.b ()) := by
 refine rest_ind (P := fun j _ => loopO (G_burinlaw07_LexBack_L1 l (l.map baseW)) (j : Int) = some (Ex2.b ())) ?_ ?_
 ·have hlt : decide (((l.length : Nat) : Int) < ((l.length : Nat) : Int)) = false := by simp
  refine loopO_inr ?_
  simp only [G_burinlaw07_LexBack_L1, hlt]; rfl
 ·intro j w r hj hc e1 e2 ih
  have hlt : decide (((j : Nat) : Int) < ((l.length : Nat) : Int)) = true := by simp only [decide_eq_true_eq]; omega
  have hc1 : idx l (j : Int) = some w := by rw [idx_nat, hc]
  have hc2 : idx (l.map baseW) (j : Int) = some (baseW w) := by rw [idx_nat, List.getElem?_map, hc]; rfl
  have hw : IntKind.wrap .i64 ((j : Int) + 1) = ((j + 1 : Nat) : Int) := by rw [wi (by omega) (by omega)]; rfl
  rw [loopO_inl (s' := ((j + 1 : Nat) : Int)), ih]
  simp only [G_burinlaw07_LexBack_L1, hlt, if_true, hc1, hc2, bind_some', baseW, beq_self_eq_true, Bool.and_self, Bool.not_true, Bool.false_eq_true, if_false, hw]
theorem lexBack_true (l : List T_api_Word) (hl : l.length ≤ 1048576) (hsum : (l.map fun t => t.S_.length).sum ≤ 1048576) (hs : ∀ t ∈ l, t.S_.length ≤ 1048576 ∧ -9223372036854775808 ≤ t.V_ ∧ t.V_ ≤ 9223372036854775807) : ∃ k : Nat, G_burinlaw07_LexBack l = some true := by
 have hsub : subT l (if (500 : Int) < ((List.length l : Nat) : Int) then (500 : Int) else ((List.length l : Nat) : Int)) = some (l.take 500) := by
  split
  ·rename_i h; exact subT_nat (n := 500) (by omega)
  ·rename_i h; rw [subT_len, List.take_of_length_le (by omega)]
 have h500 : (l.take 500).length ≤ 500 := by rw [List.length_take]; exact Nat.min_le_left _ _
 have hT : WordsB (l.take 500) := ⟨by omega, fun t ht => (hs t (List.mem_of_mem_take ht)).1⟩
 have hV : ∀ w ∈ l.take 500, VB w := fun w hw => (hs w (List.mem_of_mem_take hw)).2
 have hsm := sum_take l 500
 have h1 := G_Show _ hT
 refine ⟨0, ?_⟩
 unfold G_burinlaw07_LexBack
 rw [show G_burinlaw07_shown = some true from rfl, bind_some', hsub, bind_some', h1]
 generalize l.take 500 = ws at h500 hT hV hsm
 unfold showS
 cases hx : showF none ws with
 | none => rfl
 | some s =>
  have hsl := showF_len _ _ _ hx
  have hlen : s.length ≤ 16777216 := by omega
  have hlx := lex_show hx (by omega)
  have hL := G_Lex1 s hlen
  rw [hlx] at hL
  have hld : G_burinlaw07_lexed s = some (toksB true ws) := by
   unfold G_burinlaw07_lexed
   rw [hL]; rfl
  have hTB : ToksB (toksB true ws) := ⟨by rw [toksB_len]; omega, fun t ht => by
   obtain ⟨w, h1, h2⟩ := toksB_mem ht
   rw [h2]
   exact showW_len (hT.2 w h1) (showF_right hx w h1)⟩
  have h2 := G_Words _ hTB
  have hwb : wordsS (toksB true ws) = .inl (ws.map baseW) := by
   unfold wordsS
   exact words_back ws none true s hx hV _ (by rw [toksB_len]; exact Nat.le_refl _)
  rw [hwb] at h2
  have hb := back_loop ws (by omega) 0 (Nat.zero_le _)
  have hb : loopO (G_burinlaw07_LexBack_L1 ws (ws.map baseW)) (0 : Int) = _ := hb
  have e0 : ((0 : Int) == 0) = true := rfl
  have el : ((((ws.map baseW).length : Nat) : Int) == ((ws.length : Nat) : Int)) = true := by simp
  simp only [showR, bind_some', e0, Bool.not_true, Bool.false_eq_true, if_false, hld, h2, wordsR, el, hb]
end Go.Proofs.YtmngkcpobmhnoaaGreatDoor.Sim.Pl
