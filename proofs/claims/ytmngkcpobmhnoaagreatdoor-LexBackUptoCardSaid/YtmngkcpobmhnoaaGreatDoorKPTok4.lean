/- Plain laws: the tokens of lines, as the document has them; which token a text is. -/
import Derived.Test.YtmngkcpobmhnoaaGreatDoorKPl3
set_option linter.all false
namespace Go.Proofs.YtmngkcpobmhnoaaGreatDoor.Sim.Pl
open Go.Proofs

def oneS (s : Bytes) : Option T_api_Tok :=
 match lexLs false 0 false false [] [⟨1, s⟩] with
 | .inl [t] => if t.S_ = s then some t else none
 | _ => none
def oneR : Option T_api_Tok → T_api_Tok × Bool
 | none => (⟨0, [], [], 0, false, false⟩, false)
 | some t => (t, true)
theorem lexLs_err {o : Bool} {f : Int} {sp fi : Bool} {out : List T_api_Tok} {L : List T_api_Line} {e m : Int} (h : lexLs o f sp fi out L = .inr (e, m)) : e ≠ 0 := by
 induction L generalizing o f sp fi out with
 | nil =>
  simp only [lexLs] at h
  split at h
  ·cases h; decide
  ·cases h
 | cons l ls ih =>
  simp only [lexLs] at h
  split at h
  ·cases h; decide
  ·cases h; decide
  ·exact ih h
theorem G_One (s : Bytes) (hs : s.length ≤ 16777216) : G_token_One s = some (oneR (oneS s)) := by
 have h := G_Lex [⟨1, s⟩] ⟨by simp, fun x hx => by simp at hx; subst hx; exact hs⟩
 unfold G_token_One oneS
 rw [h, bind_some']
 cases hx : lexLs false 0 false false [] [⟨1, s⟩] with
 | inr p =>
  obtain ⟨e, m⟩ := p
  have h0 := lexLs_err hx
  have h0' : (e == (0 : Int)) = false := by simpa using h0
  simp only [lexR, h0', Bool.not_false, if_true]
  rfl
 | inl out =>
  match out with
  | [] => rfl
  | [t] =>
   have e1 : ((((([t] : List T_api_Tok).length : Nat) : Int)) == 1) = true := rfl
   simp only [lexR, idx_0, bind_some']
   by_cases ht : t.S_ = s
   ·have ht' : (t.S_ == s) = true := by simpa using ht
    rw [if_pos ht]
    simp only [ht']
    rfl
   ·have ht' : (t.S_ == s) = false := by simpa using ht
    rw [if_neg ht]
    simp only [ht']
    rfl
  | t :: u :: r =>
   have e1 : (((((t :: u :: r).length : Nat) : Int)) == 1) = false := by simp; omega
   simp only [lexR, e1]
   rfl

theorem skipS_suf (n : Int) : ∀ (k : Nat) (o : Bool) (f : Int) (sp : Bool) (s : Bytes), s.length ≤ k → (skipS n o f sp s).1 <:+ s := by
 intro k
 induction k with
 | zero =>
  intro o f sp s h
  have : s = [] := List.length_eq_zero_iff.1 (by omega)
  subst this
  rw [skipS_nil]; exact List.suffix_refl _
 | succ k ih =>
  intro o f sp s h
  match o, s, h with
  | o, [], _ => rw [skipS_nil]; exact List.suffix_refl _
  | true, [c], _ => rw [skipS]; exact List.nil_suffix
  | true, c :: d :: r, h =>
   rw [skipS]
   simp only [List.length_cons] at h
   split
   ·exact (ih false f true r (by omega)).trans ⟨[c, d], rfl⟩
   ·exact (ih true f true (d :: r) (by simp only [List.length_cons]; omega)).trans ⟨[c], rfl⟩
  | false, [c], _ => rw [skipS]; split; exact List.nil_suffix; exact List.suffix_refl _
  | false, c :: d :: r, h =>
   rw [skipS]
   simp only [List.length_cons] at h
   split
   ·exact (ih false f true (d :: r) (by simp only [List.length_cons]; omega)).trans ⟨[c], rfl⟩
   ·split
    ·exact List.nil_suffix
    ·split
     ·exact (ih true n sp r (by omega)).trans ⟨[c, d], rfl⟩
     ·exact List.suffix_refl _
end Go.Proofs.YtmngkcpobmhnoaaGreatDoor.Sim.Pl
