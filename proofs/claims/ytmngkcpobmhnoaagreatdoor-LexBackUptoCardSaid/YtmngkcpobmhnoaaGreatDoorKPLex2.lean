/- Plain laws: which token a text is; which word a token is. -/
import Derived.Test.YtmngkcpobmhnoaaGreatDoorKPLex1
set_option linter.all false
namespace Go.Proofs.YtmngkcpobmhnoaaGreatDoor.Sim.Pl
open Go.Proofs

theorem lexL_pre (n : Int) : ∀ (k : Nat) (o : Bool) (f : Int) (sp fi : Bool) (out : List T_api_Tok) (s : Bytes) (out' : List T_api_Tok) (o' : Bool) (f' : Int) (sp' fi' : Bool), lexL n k o f sp fi out s = .ok out' o' f' sp' fi' → out <+: out' := by
 intro k
 induction k with
 | zero =>
  intro o f sp fi out s out' o' f' sp' fi' h
  simp only [lexL] at h
  cases h
  exact List.prefix_refl _
 | succ k ih =>
  intro o f sp fi out s out' o' f' sp' fi' h
  simp only [lexL] at h
  generalize skipS n o f sp s = Q at h
  obtain ⟨R, o1, f1, sp1⟩ := Q
  cases R with
  | nil => cases h; exact List.prefix_refl _
  | cons c r =>
   simp only at h
   split at h
   ·cases h
   ·split at h
    ·cases h
    ·exact (List.prefix_append _ _).trans (ih _ _ _ _ _ _ _ _ _ _ _ h)
theorem one_next {s : Bytes} {t : T_api_Tok} (h : oneS s = some t) : ∃ c r, s = c :: r ∧ (nextS c r).2 = r.length + 1 ∧ t.Kind_ = ((nextS c r).1 : Int) ∧ t.S_ = s := by
 unfold oneS at h
 split at h
 ·rename_i t0 hl
  split at h
  ·rename_i hs
   cases h
   simp only [lexLs] at hl
   split at hl
   ·cases hl
   ·cases hl
   ·rename_i out' o' f' sp' fi' hL
    split at hl
    ·cases hl
    ·cases hl
     simp only [lexL] at hL
     have hsuf := skipS_suf 1 s.length false 0 false s (Nat.le_refl _)
     have hif : (if (false = true) then false else false) = false := rfl
     simp only [Bool.false_eq_true, if_false] at hL
     generalize skipS 1 false 0 false s = Q at hL hsuf
     obtain ⟨R, o1, f1, sp1⟩ := Q
     cases R with
     | nil => simp only at hL; cases hL
     | cons c r =>
      simp only at hL hsuf
      split at hL
      ·cases hL
      ·split at hL
       ·cases hL
       ·rename_i h0 _
        have hp := lexL_pre _ _ _ _ _ _ _ _ _ _ _ _ _ hL
        obtain ⟨z, hz⟩ := hp
        simp only [List.nil_append, List.cons_append, List.cons.injEq] at hz
        obtain ⟨hz, _⟩ := hz
        have h1 : (c :: r).take (nextS c r).2 = s := by rw [← hz] at hs; exact hs
        have hle := nextS_le c r
        have hlen := congrArg List.length h1
        simp only [List.length_take, List.length_cons] at hlen
        have hsl := hsuf.length_le
        simp only [List.length_cons] at hsl
        have hcr : (c :: r) = s := hsuf.eq_of_length (by simp only [List.length_cons]; omega)
        refine ⟨c, r, hcr.symm, by omega, by rw [← hz], hs⟩
  ·cases h
 ·cases h
theorem one_text {s : Bytes} {t : T_api_Tok} (h : oneS s = some t) (hk : t.Kind_ = 4) : 2 ≤ s.length := by
 obtain ⟨c, r, rfl, h2, h3, h4⟩ := one_next h
 rw [hk] at h3
 unfold nextS at h2 h3
 split at h3
 ·simp at h3
 ·split at h3
  ·simp at h3
  ·rename_i h5 h6
   rw [if_neg h5, if_neg h6] at h2
   split at h3
   ·rename_i h7
    rw [if_pos h7] at h2
    simp only at h2
    unfold quoS at h2
    split at h2
    ·omega
    ·rename_i n hn
     cases r with
     | nil => cases hn
     | cons d r => simp
   ·split at h3
    ·simp at h3
    ·split at h3 <;> simp at h3
theorem sgL_mem (s : Bytes) (n : Nat) (h : sgL s n ≠ 0) : s.take (sgL s n) ∈ signsL := by
 induction n with
 | zero => exact absurd rfl h
 | succ n ih =>
  rw [sgL] at h ⊢
  split
  ·assumption
  ·rename_i h2; rw [if_neg h2] at h; exact ih h
theorem one_punct {s : Bytes} {t : T_api_Tok} (h : oneS s = some t) (hk : t.Kind_ = 5) : s ∈ signsL := by
 obtain ⟨c, r, rfl, h2, h3, h4⟩ := one_next h
 rw [hk] at h3
 unfold nextS at h2 h3
 split at h3
 ·simp at h3
 ·split at h3
  ·simp at h3
  ·rename_i h5 h6
   rw [if_neg h5, if_neg h6] at h2
   split at h3
   ·simp at h3
   ·rename_i h7
    rw [if_neg h7] at h2
    split at h3
    ·simp at h3
    ·rename_i h8
     rw [if_neg h8] at h2
     split at h3
     ·simp at h3
     ·rename_i h9
      rw [if_neg h9] at h2
      have := sgL_mem (c :: r) (min 3 (c :: r).length) h9
      have e : sgL (c :: r) (min 3 (c :: r).length) = (c :: r).length := by rw [List.length_cons]; exact h2
      rw [e, List.take_length] at this
      exact this
theorem signs_hash : ∀ x ∈ signsL, x ≠ [] ∧ (x.head? = some 35 ↔ x = [35] ∨ x = [35, 35]) := by decide +kernel

def textS (s : Bytes) : Option Bytes := match oneS s with
 | none => none
 | some t => if t.Kind_ = 4 then bytesS ((s.take (s.length - 1)).drop 1) else none
def textR : Option Bytes → Bytes × Bool
 | none => ([], false)
 | some b => (b, true)
theorem textS_len {s b : Bytes} (h : textS s = some b) : b.length ≤ s.length := by
 unfold textS at h
 split at h
 ·cases h
 ·split at h
  ·have := bytesS_len _ _ h; simp at this; omega
  ·cases h
theorem G_bytesOf (s : Bytes) (hs : s.length ≤ 1048576) : G_lex_bytesOf s = some (textR (textS s)) := by
 unfold G_lex_bytesOf textS
 rw [G_One s (by omega), bind_some']
 cases h : oneS s with
 | none => rfl
 | some t =>
  simp only [oneR, Bool.not_true, Bool.false_eq_true, if_false]
  by_cases hk : t.Kind_ = 4
  ·have hk' : (t.Kind_ == 4) = true := by simpa using hk
   have h2 := one_text h hk
   have hw : IntKind.wrap .i64 ((s.length : Int) - 1) = ((s.length - 1 : Nat) : Int) := by rw [wi (by omega) (by omega)]; omega
   have hsb : subB s (1 : Int) ((s.length - 1 : Nat) : Int) = some ((s.take (s.length - 1)).drop 1) := subB_nat (m := 1) (by omega) (by omega)
   have hb := bo_loop s.length ((s.take (s.length - 1)).drop 1) [] (by simp; omega) (by simp; omega) (by simp; omega)
   simp only [hk', hk, if_true, Bool.not_true, Bool.false_eq_true, if_false, bind_some', hw, hsb]
   cases hx : bytesS ((s.take (s.length - 1)).drop 1) with
   | none =>
    rw [hx] at hb
    obtain ⟨v, hv⟩ := hb
    rw [hv]; rfl
   | some l =>
    rw [hx] at hb
    simp only at hb
    rw [hb]; rfl
  ·have hk' : (t.Kind_ == 4) = false := by simpa using hk
   simp only [hk', hk, if_false]
   rfl
def keysL : List Bytes := [[99, 104, 97, 114], [115, 104, 111, 114, 116], [105, 110, 116], [108, 111, 110, 103], [115, 105, 103, 110, 101, 100], [117, 110, 115, 105, 103, 110, 101, 100], [118, 111, 105, 100], [105, 102], [101, 108, 115, 101],
 [119, 104, 105, 108, 101], [114, 101, 116, 117, 114, 110], [98, 114, 101, 97, 107], [99, 111, 110, 116, 105, 110, 117, 101], [115, 116, 114, 117, 99, 116], [117, 110, 105, 111, 110], [101, 120, 116, 101, 114, 110]]
theorem ite_beq_or {s k : Bytes} {b : Bool} : (if (s == k) = true then some true else some b) = some ((s == k) || b) := by
 cases (s == k) <;> rfl
theorem G_IsKey (s : Bytes) : G_lex_IsKey s = some (decide (s ∈ keysL)) := by
 unfold G_lex_IsKey
 simp only [ite_beq_or]
 congr 1
 rw [Bool.eq_iff_iff]
 simp only [keysL, Bool.or_eq_true, beq_iff_eq, List.mem_cons, List.not_mem_nil, or_false, decide_eq_true_eq, Bool.false_eq_true]
end Go.Proofs.YtmngkcpobmhnoaaGreatDoor.Sim.Pl
