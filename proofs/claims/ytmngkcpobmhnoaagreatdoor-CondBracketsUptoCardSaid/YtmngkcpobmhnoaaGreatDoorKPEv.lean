/- Plain laws: conditions' parts, one by one: the program's reading. -/
import Derived.Test.YtmngkcpobmhnoaaGreatDoorKPl2
set_option linter.all false
namespace Go.Proofs.YtmngkcpobmhnoaaGreatDoor.Sim.Pl
open Go.Proofs

section
variable {L : List T_api_Tok} {j j2 : Nat} {c : Bool} {v w x : Int} {u uw ux : Bool} {k : Nat}
theorem sgn_p {t : T_api_Tok} (h : L[j]? = some t) (hk : t.Kind_ = 5) : sgn L j false = t.S_ := by simp [sgn, h, hk]
theorem sgn_e (h : L.length ≤ j) : sgn L j false = [] := by simp [sgn, List.getElem?_eq_none h]
theorem take_no {s : Bytes} (hs : s ≠ []) (h : sgn L j false ≠ s) : G_cond_eval_take ⟨L.drop j, false⟩ s = some (false, ⟨L.drop j, false⟩) := by
  rw [G_take L j false s hs]
  have : (sgn L j false == s) = false := by simpa using h
  rw [this]; rfl
theorem take_yes {s : Bytes} (hs : s ≠ []) (h : sgn L j false = s) : G_cond_eval_take ⟨L.drop j, false⟩ s = some (true, ⟨L.drop (j + 1), false⟩) := by
  rw [G_take L j false s hs]
  have : (sgn L j false == s) = true := by simpa using h
  rw [this]; rfl
theorem ev_unary (h1 : sgn L j false ≠ [43]) (h2 : sgn L j false ≠ [45]) (h3 : sgn L j false ≠ [126]) (h4 : sgn L j false ≠ [33]) {r : T_cond_value × T_cond_eval}
    (ha : (Rec_cond_eval_choice.lvl k).cond_eval_atom ⟨L.drop j, false⟩ c = some r) : (Rec_cond_eval_choice.lvl (k + 1)).cond_eval_unary ⟨L.drop j, false⟩ c = some r := by
  show G_cond_eval_unary_b (Rec_cond_eval_choice.lvl k) ⟨L.drop j, false⟩ c = _
  unfold G_cond_eval_unary_b
  rw [take_no (by simp) h1, bind_some']
  simp only [Bool.false_eq_true, if_false]
  rw [take_no (by simp) h2, bind_some']
  simp only [Bool.false_eq_true, if_false]
  rw [take_no (by simp) h3, bind_some']
  simp only [Bool.false_eq_true, if_false]
  rw [take_no (by simp) h4, bind_some']
  simp only [Bool.false_eq_true, if_false, ha, bind_some']
end
end Go.Proofs.YtmngkcpobmhnoaaGreatDoor.Sim.Pl
