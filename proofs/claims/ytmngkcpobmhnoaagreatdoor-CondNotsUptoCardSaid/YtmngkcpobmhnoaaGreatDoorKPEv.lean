/- Plain laws: conditions' parts, one by one: the program's reading. -/
import Derived.Test.YtmngkcpobmhnoaaGreatDoorKPl2
set_option linter.all false
namespace Go.Proofs.YtmngkcpobmhnoaaGreatDoor.Sim.Pl
open Go.Proofs

section
variable {L : List T_api_Tok} {j j2 : Nat} {c : Bool} {v w x : Int} {u uw ux : Bool} {k : Nat}
theorem sgn_p {t : T_api_Tok} (h : L[j]? = some t) (hk : t.Kind_ = 5) : sgn L j false = t.S_ := by simp [sgn, h, hk]
theorem sgn_e (h : L.length ≤ j) : sgn L j false = [] := by simp [sgn, List.getElem?_eq_none h]
theorem take_no {s : Bytes} (hs : s ≠ []) (h : sgn L j false ≠ s) : G_cond_eval_take ⟨L.drop j, false⟩ s = some (false, ⟨L.drop j, false⟩) := by
  rw [G_take L j false s hs]
  have : (sgn L j false == s) = false := by simpa using h
  rw [this]; rfl
theorem take_yes {s : Bytes} (hs : s ≠ []) (h : sgn L j false = s) : G_cond_eval_take ⟨L.drop j, false⟩ s = some (true, ⟨L.drop (j + 1), false⟩) := by
  rw [G_take L j false s hs]
  have : (sgn L j false == s) = true := by simpa using h
  rw [this]; rfl
theorem ev_atom_br (h : sgn L j false = [40]) (hc : (Rec_cond_eval_choice.lvl k).cond_eval_choice ⟨L.drop (j + 1), false⟩ c = some (⟨v, u⟩, ⟨L.drop j2, false⟩)) (h2 : sgn L j2 false = [41]) :
    (Rec_cond_eval_choice.lvl (k + 1)).cond_eval_atom ⟨L.drop j, false⟩ c = some (⟨v, u⟩, ⟨L.drop (j2 + 1), false⟩) := by
  show G_cond_eval_atom_b (Rec_cond_eval_choice.lvl k) ⟨L.drop j, false⟩ c = _
  unfold G_cond_eval_atom_b
  rw [take_yes (by simp) h, bind_some']
  simp only [if_true, hc, bind_some', take_yes (by simp) h2, G_fails]
  rfl
theorem ev_unary (h1 : sgn L j false ≠ [43]) (h2 : sgn L j false ≠ [45]) (h3 : sgn L j false ≠ [126]) (h4 : sgn L j false ≠ [33]) {r : T_cond_value × T_cond_eval}
    (ha : (Rec_cond_eval_choice.lvl k).cond_eval_atom ⟨L.drop j, false⟩ c = some r) : (Rec_cond_eval_choice.lvl (k + 1)).cond_eval_unary ⟨L.drop j, false⟩ c = some r := by
  show G_cond_eval_unary_b (Rec_cond_eval_choice.lvl k) ⟨L.drop j, false⟩ c = _
  unfold G_cond_eval_unary_b
  rw [take_no (by simp) h1, bind_some']
  simp only [Bool.false_eq_true, if_false]
  rw [take_no (by simp) h2, bind_some']
  simp only [Bool.false_eq_true, if_false]
  rw [take_no (by simp) h3, bind_some']
  simp only [Bool.false_eq_true, if_false]
  rw [take_no (by simp) h4, bind_some']
  simp only [Bool.false_eq_true, if_false, ha, bind_some']
theorem ev_chain {n : Nat} {b : Bool} {r : List T_api_Tok × Bool × Int × Bool} (hu : (Rec_cond_eval_choice.lvl k).cond_eval_unary ⟨L.drop j, false⟩ c = some (⟨v, u⟩, ⟨L.drop j2, b⟩))
    (hl : loopO (G_cond_eval_chain_L1 (Rec_cond_eval_choice.lvl k) ((n : Nat) : Int)) (c, L.drop j2, b, v, u) = some r) :
    (Rec_cond_eval_choice.lvl (k + 1)).cond_eval_chain ⟨L.drop j, false⟩ ((n : Nat) : Int) c = some (⟨r.2.2.1, r.2.2.2⟩, ⟨r.1, r.2.1⟩) := by
  show G_cond_eval_chain_b (Rec_cond_eval_choice.lvl k) ⟨L.drop j, false⟩ ((n : Nat) : Int) c = _
  unfold G_cond_eval_chain_b
  rw [hu, bind_some']
  simp only [hl, bind_some']
theorem ev_choice (hc : (Rec_cond_eval_choice.lvl k).cond_eval_chain ⟨L.drop j, false⟩ ((1 : Nat) : Int) c = some (⟨v, u⟩, ⟨L.drop j2, false⟩)) (h : sgn L j2 false ≠ [63]) :
    (Rec_cond_eval_choice.lvl (k + 1)).cond_eval_choice ⟨L.drop j, false⟩ c = some (⟨v, u⟩, ⟨L.drop j2, false⟩) := by
  show G_cond_eval_choice_b (Rec_cond_eval_choice.lvl k) ⟨L.drop j, false⟩ c = _
  unfold G_cond_eval_choice_b
  rw [show (1 : Int) = ((1 : Nat) : Int) from rfl, hc, bind_some']
  simp only []
  rw [take_no (by simp) h, bind_some']
  rfl
end
theorem ev_Eval {L : List T_api_Tok} {k : Nat} {v : Int} {u : Bool} (h : (Rec_cond_eval_choice.lvl k).cond_eval_choice ⟨L.drop 0, false⟩ true = some (⟨v, u⟩, ⟨L.drop L.length, false⟩)) : G_cond_Eval k L = some (v, u, 0) := by
  unfold G_cond_Eval
  have h : G_cond_eval_choice k ⟨L, false⟩ true = _ := h
  rw [h, bind_some']
  simp
end Go.Proofs.YtmngkcpobmhnoaaGreatDoor.Sim.Pl
