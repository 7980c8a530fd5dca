/- Plain laws: conditions' parts, one by one: the program's reading. -/
import Derived.Test.YtmngkcpobmhnoaaGreatDoorKPl2
set_option linter.all false
namespace Go.Proofs.YtmngkcpobmhnoaaGreatDoor.Sim.Pl
open Go.Proofs

section
variable {L : List T_api_Tok} {j j2 : Nat} {c : Bool} {v w x : Int} {u uw ux : Bool} {k : Nat}
theorem sgn_n {t : T_api_Tok} (h : L[j]? = some t) (hk : t.Kind_ ≠ 5) : sgn L j false = [] := by simp [sgn, h, hk]
theorem sgn_e (h : L.length ≤ j) : sgn L j false = [] := by simp [sgn, List.getElem?_eq_none h]
theorem take_no {s : Bytes} (hs : s ≠ []) (h : sgn L j false ≠ s) : G_cond_eval_take ⟨L.drop j, false⟩ s = some (false, ⟨L.drop j, false⟩) := by
  rw [G_take L j false s hs]
  have : (sgn L j false == s) = false := by simpa using h
  rw [this]; rfl
theorem take_yes {s : Bytes} (hs : s ≠ []) (h : sgn L j false = s) : G_cond_eval_take ⟨L.drop j, false⟩ s = some (true, ⟨L.drop (j + 1), false⟩) := by
  rw [G_take L j false s hs]
  have : (sgn L j false == s) = true := by simpa using h
  rw [this]; rfl
theorem ev_atom_num {t : T_api_Tok} {m : Nat} (h : L[j]? = some t) (hk : t.Kind_ = 2) (hs : t.S_.length ≤ 16777216) (hn : numS t.S_ = some (m, false)) (hv : m < 9223372036854775808) :
    (Rec_cond_eval_choice.lvl (k + 1)).cond_eval_atom ⟨L.drop j, false⟩ c = some (⟨(m : Int), false⟩, ⟨L.drop (j + 1), false⟩) := by
  show G_cond_eval_atom_b (Rec_cond_eval_choice.lvl k) ⟨L.drop j, false⟩ c = _
  have hlt := (List.getElem?_eq_some_iff.1 h).1
  have h0 := sgn_n h (by omega)
  unfold G_cond_eval_atom_b
  rw [take_no (by simp) (by rw [h0]; simp), bind_some']
  have e1 : ((((L.drop j).length : Nat) : Int) == 0) = false := by simp; omega
  have e3 : idx (L.drop j) 0 = some t := by rw [idx_drop]; exact h
  have e5 : subF (L.drop j) 1 = some (L.drop (j + 1)) := drop_1 hlt
  have k1 : (t.Kind_ == (1 : Int)) = false := by simp [hk]
  have k2 : (t.Kind_ == (2 : Int)) = true := by simp [hk]
  have e6 : decide (IntKind.wrap .i64 (m : Int) < 0) = false := by rw [wi (by omega) (by omega)]; simp
  simp only [Bool.false_eq_true, if_false, bind_some', e1, e3, e5, k1, k2, if_true, G_Number _ hs, hn, numR, G_fails, e6]
  rfl
theorem ev_atom_br (h : sgn L j false = [40]) (hc : (Rec_cond_eval_choice.lvl k).cond_eval_choice ⟨L.drop (j + 1), false⟩ c = some (⟨v, u⟩, ⟨L.drop j2, false⟩)) (h2 : sgn L j2 false = [41]) :
    (Rec_cond_eval_choice.lvl (k + 1)).cond_eval_atom ⟨L.drop j, false⟩ c = some (⟨v, u⟩, ⟨L.drop (j2 + 1), false⟩) := by
  show G_cond_eval_atom_b (Rec_cond_eval_choice.lvl k) ⟨L.drop j, false⟩ c = _
  unfold G_cond_eval_atom_b
  rw [take_yes (by simp) h, bind_some']
  simp only [if_true, hc, bind_some', take_yes (by simp) h2, G_fails]
  rfl
theorem ev_unary (h1 : sgn L j false ≠ [43]) (h2 : sgn L j false ≠ [45]) (h3 : sgn L j false ≠ [126]) (h4 : sgn L j false ≠ [33]) {r : T_cond_value × T_cond_eval}
    (ha : (Rec_cond_eval_choice.lvl k).cond_eval_atom ⟨L.drop j, false⟩ c = some r) : (Rec_cond_eval_choice.lvl (k + 1)).cond_eval_unary ⟨L.drop j, false⟩ c = some r := by
  show G_cond_eval_unary_b (Rec_cond_eval_choice.lvl k) ⟨L.drop j, false⟩ c = _
  unfold G_cond_eval_unary_b
  rw [take_no (by simp) h1, bind_some']
  simp only [Bool.false_eq_true, if_false]
  rw [take_no (by simp) h2, bind_some']
  simp only [Bool.false_eq_true, if_false]
  rw [take_no (by simp) h3, bind_some']
  simp only [Bool.false_eq_true, if_false]
  rw [take_no (by simp) h4, bind_some']
  simp only [Bool.false_eq_true, if_false, ha, bind_some']
theorem ev_chain {n : Nat} {b : Bool} {r : List T_api_Tok × Bool × Int × Bool} (hu : (Rec_cond_eval_choice.lvl k).cond_eval_unary ⟨L.drop j, false⟩ c = some (⟨v, u⟩, ⟨L.drop j2, b⟩))
    (hl : loopO (G_cond_eval_chain_L1 (Rec_cond_eval_choice.lvl k) ((n : Nat) : Int)) (c, L.drop j2, b, v, u) = some r) :
    (Rec_cond_eval_choice.lvl (k + 1)).cond_eval_chain ⟨L.drop j, false⟩ ((n : Nat) : Int) c = some (⟨r.2.2.1, r.2.2.2⟩, ⟨r.1, r.2.1⟩) := by
  show G_cond_eval_chain_b (Rec_cond_eval_choice.lvl k) ⟨L.drop j, false⟩ ((n : Nat) : Int) c = _
  unfold G_cond_eval_chain_b
  rw [hu, bind_some']
  simp only [hl, bind_some']
theorem ev_stop {n : Nat} (h : lev (sgn L j false) = 0 ∨ lev (sgn L j false) < n) : loopO (G_cond_eval_chain_L1 (Rec_cond_eval_choice.lvl k) ((n : Nat) : Int)) (c, L.drop j, false, v, u) = some (L.drop j, false, v, u) := by
  refine loopO_inr ?_
  simp only [G_cond_eval_chain_L1, G_sign, bind_some', G_levelOf]
  rcases h with h | h
  · rw [h]; rfl
  · have h0 : decide ((lev (sgn L j false) : Int) < (n : Int)) = true := by simp; omega
    simp only [h0]
    cases ((lev (sgn L j false) : Int) == 0) <;> rfl
theorem ev_op {n : Nat} {op : Bytes} {b : Bool} (hop : sgn L j false = op) (hne : op ≠ []) (h0 : lev op ≠ 0) (hn : ¬ lev op < n) (ha : op ≠ [38, 38]) (ho : op ≠ [124, 124])
    (hc : (Rec_cond_eval_choice.lvl k).cond_eval_chain ⟨L.drop (j + 1), false⟩ ((lev op + 1 : Nat) : Int) c = some (⟨w, uw⟩, ⟨L.drop j2, b⟩))
    (hb : G_cond_eval_binary ⟨L.drop j2, b⟩ op ⟨v, u⟩ ⟨w, uw⟩ c = some (⟨x, ux⟩, ⟨L.drop j2, b⟩)) :
    loopO (G_cond_eval_chain_L1 (Rec_cond_eval_choice.lvl k) ((n : Nat) : Int)) (c, L.drop j, false, v, u) = loopO (G_cond_eval_chain_L1 (Rec_cond_eval_choice.lvl k) ((n : Nat) : Int)) (c, L.drop j2, b, x, ux) := by
  refine loopO_inl ?_
  have l1 : ((lev op : Int) == 0) = false := by simp; omega
  have l2 : decide ((lev op : Int) < (n : Int)) = false := by simp; omega
  have l3 := lev_le op
  have l4 : IntKind.wrap .i64 ((lev op : Int) + 1) = ((lev op + 1 : Nat) : Int) := by rw [wi (by omega) (by omega)]; rfl
  have ea : (op == ([38, 38] : Bytes)) = false := by simpa using ha
  have eo : (op == ([124, 124] : Bytes)) = false := by simpa using ho
  simp only [G_cond_eval_chain_L1, G_sign, bind_some', G_levelOf, hop, l1, l2, l4, take_yes hne hop, ea, eo, hc, hb, Bool.false_eq_true, if_false]
theorem ev_choice (hc : (Rec_cond_eval_choice.lvl k).cond_eval_chain ⟨L.drop j, false⟩ ((1 : Nat) : Int) c = some (⟨v, u⟩, ⟨L.drop j2, false⟩)) (h : sgn L j2 false ≠ [63]) :
    (Rec_cond_eval_choice.lvl (k + 1)).cond_eval_choice ⟨L.drop j, false⟩ c = some (⟨v, u⟩, ⟨L.drop j2, false⟩) := by
  show G_cond_eval_choice_b (Rec_cond_eval_choice.lvl k) ⟨L.drop j, false⟩ c = _
  unfold G_cond_eval_choice_b
  rw [show (1 : Int) = ((1 : Nat) : Int) from rfl, hc, bind_some']
  simp only []
  rw [take_no (by simp) h, bind_some']
  rfl
end
theorem ev_Eval {L : List T_api_Tok} {k : Nat} {v : Int} {u : Bool} (h : (Rec_cond_eval_choice.lvl k).cond_eval_choice ⟨L.drop 0, false⟩ true = some (⟨v, u⟩, ⟨L.drop L.length, false⟩)) : G_cond_Eval k L = some (v, u, 0) := by
  unfold G_cond_Eval
  have h : G_cond_eval_choice k ⟨L, false⟩ true = _ := h
  rw [h, bind_some']
  simp
end Go.Proofs.YtmngkcpobmhnoaaGreatDoor.Sim.Pl
