/- Plain laws: the words of tokens. -/
import Derived.Test.YtmngkcpobmhnoaaGreatDoorKPLex3
set_option linter.all false
namespace Go.Proofs.YtmngkcpobmhnoaaGreatDoor.Sim.Pl
open Go.Proofs

def runS : Bytes → List T_api_Tok → (Bytes × List T_api_Tok) ⊕ (Bytes × Int)
 | acc, [] => .inl (acc, [])
 | acc, t :: r => if t.Kind_ = 4 then (match textS t.S_ with
   | none => .inr (t.File_, t.Line_)
   | some b => runS (acc ++ b) r)
  else .inl (acc, t :: r)
def consL (w : T_api_Word) : List T_api_Word ⊕ (Bytes × Int) → List T_api_Word ⊕ (Bytes × Int)
 | .inl l => .inl (w :: l)
 | .inr e => .inr e
def wordsK : Nat → List T_api_Tok → List T_api_Word ⊕ (Bytes × Int)
 | 0, _ => .inl []
 | _ + 1, [] => .inl []
 | k + 1, t :: r => if t.Kind_ = 4 then (match runS [] (t :: r) with
   | .inr e => .inr e
   | .inl (b, rest) => if 4096 < b.length then .inr (t.File_, t.Line_) else consL ⟨4, b, 0, 0, t.File_, t.Line_⟩ (wordsK k rest))
  else (match wordS t with
   | none => .inr (t.File_, t.Line_)
   | some w => consL w (wordsK k r))
theorem runS_suf : ∀ (l : List T_api_Tok) (acc b : Bytes) (rest : List T_api_Tok), runS acc l = .inl (b, rest) → rest <:+ l := by
 intro l
 induction l with
 | nil => intro acc b rest h; simp only [runS] at h; cases h; exact List.suffix_refl _
 | cons t r ih =>
  intro acc b rest h
  simp only [runS] at h
  split at h
  ·split at h
   ·cases h
   ·exact (ih _ _ _ h).trans (List.suffix_cons _ _)
  ·cases h; exact List.suffix_refl _
theorem runS_less {t : T_api_Tok} {r rest : List T_api_Tok} {b : Bytes} (hk : t.Kind_ = 4) (h : runS [] (t :: r) = .inl (b, rest)) : rest <:+ r := by
 simp only [runS, if_pos hk] at h
 split at h
 ·cases h
 ·exact runS_suf _ _ _ _ h
def ToksB (l : List T_api_Tok) : Prop := l.length ≤ 5000000 ∧ ∀ t ∈ l, t.S_.length ≤ 1048576
theorem ToksB.tail {t : T_api_Tok} {r : List T_api_Tok} (h : ToksB (t :: r)) : ToksB r := ⟨by have := h.1; simp only [List.length_cons] at this; omega, fun x hx => h.2 x (by simp [hx])⟩
theorem ToksB.suf {l r : List T_api_Tok} (h : ToksB l) (hs : r <:+ l) : ToksB r := ⟨Nat.le_trans hs.length_le h.1, fun x hx => h.2 x (hs.mem hx)⟩

theorem run_loop : ∀ (l : List T_api_Tok) (acc : Bytes), ToksB l → acc.length + 1048576 * l.length ≤ 9000000000000000000 →
  match runS acc l with
  | .inl (b, rest) => loopO G_lex_Words_L2 (l, acc) = some (Ex2.a (rest, b))
  | .inr (f, n) => ∃ a b, loopO G_lex_Words_L2 (l, acc) = some (Ex2.b (f, n, a, b)) := by
 intro l
 induction l with
 | nil => intro acc _ _; simp only [runS]; exact loopO_inr rfl
 | cons t r ih =>
  intro acc hl ha
  simp only [List.length_cons] at ha
  have hlt : decide ((0 : Int) < (((t :: r).length : Nat) : Int)) = true := by simp only [List.length_cons, decide_eq_true_eq]; omega
  have hst : t.S_.length ≤ 1048576 := hl.2 t (by simp)
  simp only [runS]
  by_cases hk : t.Kind_ = 4
  ·rw [if_pos hk]
   have hk' : (t.Kind_ == 4) = true := by simpa using hk
   have hb := G_bytesOf t.S_ hst
   cases hx : textS t.S_ with
   | none =>
    rw [hx] at hb
    refine ⟨t :: r, acc, loopO_inr ?_⟩
    simp only [G_lex_Words_L2, hlt, if_true, idx_0, bind_some', hk', hb, textR, Bool.not_false]
   | some b =>
    rw [hx] at hb
    have hbl := textS_len hx
    have hc : cat acc b = some (acc ++ b) := cat_big (by omega)
    have body : G_lex_Words_L2 (t :: r, acc) = some (Sum.inl (r, acc ++ b)) := by
     simp only [G_lex_Words_L2, hlt, if_true, idx_0, bind_some', hk', hb, textR, Bool.not_true, Bool.false_eq_true, if_false, hc, subF_1]
    rw [loopO_inl body]
    exact ih (acc ++ b) hl.tail (by simp only [List.length_append]; omega)
  ·rw [if_neg hk]
   have hk' : (t.Kind_ == 4) = false := by simpa using hk
   refine loopO_inr ?_
   simp only [G_lex_Words_L2, hlt, if_true, idx_0, bind_some', hk', Bool.false_eq_true, if_false]
theorem words_loop7 : ∀ (k : Nat) (l : List T_api_Tok) (out : List T_api_Word), l.length ≤ k → ToksB l → out.length + l.length ≤ 5000000 →
  match wordsK k l with
  | .inl ws => loopO G_lex_Words_L1 (out, l) = some (Ex2.b (out ++ ws, []))
  | .inr (f, n) => ∃ a b, loopO G_lex_Words_L1 (out, l) = some (Ex2.a (a, f, n, b)) := by
 intro k
 induction k with
 | zero =>
  intro l out h _ _
  have : l = [] := List.length_eq_zero_iff.1 (by omega)
  subst this
  simp only [wordsK, List.append_nil]
  exact loopO_inr rfl
 | succ k ih =>
  intro l out h hl ho
  cases l with
  | nil => simp only [wordsK, List.append_nil]; exact loopO_inr rfl
  | cons t r =>
   simp only [List.length_cons] at h ho
   have hlt : decide ((0 : Int) < (((t :: r).length : Nat) : Int)) = true := by simp only [List.length_cons, decide_eq_true_eq]; omega
   have hst : t.S_.length ≤ 1048576 := hl.2 t (by simp)
   simp only [wordsK]
   by_cases hk : t.Kind_ = 4
   ·rw [if_pos hk]
    have hk' : (t.Kind_ == 4) = true := by simpa using hk
    have hr := run_loop (t :: r) [] hl (by have := hl.1; simp at this ⊢; omega)
    cases hx : runS [] (t :: r) with
    | inr p =>
     obtain ⟨f, n⟩ := p
     rw [hx] at hr
     obtain ⟨a, b, hr⟩ := hr
     refine ⟨out, a, loopO_inr ?_⟩
     simp only [G_lex_Words_L1, hlt, if_true, idx_0, bind_some', hk', Bool.not_true, Bool.false_eq_true, if_false, hr]
    | inl p =>
     obtain ⟨b, rest⟩ := p
     rw [hx] at hr
     simp only at hr
     have hsuf := runS_less hk hx
     have hsl := hsuf.length_le
     by_cases h4 : 4096 < b.length
     ·have h4' : decide ((4096 : Int) < ((b.length : Nat) : Int)) = true := by simp only [decide_eq_true_eq]; omega
      dsimp only
      rw [if_pos h4]
      refine ⟨out, rest, loopO_inr ?_⟩
      simp only [G_lex_Words_L1, hlt, if_true, idx_0, bind_some', hk', Bool.not_true, Bool.false_eq_true, if_false, hr, h4']
     ·have h4' : decide ((4096 : Int) < ((b.length : Nat) : Int)) = false := by simp only [decide_eq_false_iff_not]; omega
      dsimp only
      rw [if_neg h4]
      have hap : app 64 out [(⟨4, b, 0, 0, t.File_, t.Line_⟩ : T_api_Word)] = some (out ++ [⟨4, b, 0, 0, t.File_, t.Line_⟩]) := app_some (by simp; omega)
      have body : G_lex_Words_L1 (out, t :: r) = some (Sum.inl (out ++ [⟨4, b, 0, 0, t.File_, t.Line_⟩], rest)) := by
       simp only [G_lex_Words_L1, hlt, if_true, idx_0, bind_some', hk', Bool.not_true, Bool.false_eq_true, if_false, hr, h4', hap]
      have := ih rest (out ++ [⟨4, b, 0, 0, t.File_, t.Line_⟩]) (by omega) (hl.tail.suf hsuf) (by simp; omega)
      rw [loopO_inl body]
      cases hw : wordsK k rest with
      | inl ws => rw [hw] at this; simp only [consL]; simp only at this; rw [this]; simp
      | inr p => rw [hw] at this; exact this
   ·rw [if_neg hk]
    have hk' : (t.Kind_ == 4) = false := by simpa using hk
    obtain ⟨w, h1, h2⟩ := G_wordOf t hst
    cases hx : wordS t with
    | none =>
     rw [hx] at h1
     refine ⟨out, r, loopO_inr ?_⟩
     simp only [G_lex_Words_L1, hlt, if_true, idx_0, bind_some', hk', Bool.not_false, subF_1, h1, Option.isSome_none]
    | some w' =>
     rw [hx] at h1
     have := h2 w' hx
     subst this
     have hap : app 64 out [w] = some (out ++ [w]) := app_some (by simp; omega)
     have body : G_lex_Words_L1 (out, t :: r) = some (Sum.inl (out ++ [w], r)) := by
      simp only [G_lex_Words_L1, hlt, if_true, idx_0, bind_some', hk', Bool.not_false, subF_1, h1, Option.isSome_some, Bool.not_true, Bool.false_eq_true, if_false, hap]
     have := ih r (out ++ [w]) (by omega) hl.tail (by simp; omega)
     rw [loopO_inl body]
     cases hw : wordsK k r with
     | inl ws => rw [hw] at this; simp only [consL]; simp only at this; rw [this]; simp
     | inr p => rw [hw] at this; exact this
def wordsS (l : List T_api_Tok) : List T_api_Word ⊕ (Bytes × Int) := wordsK l.length l
def wordsR : List T_api_Word ⊕ (Bytes × Int) → List T_api_Word × Int × Bytes × Int
 | .inl ws => (ws, 0, [], 0)
 | .inr (f, n) => ([], 70, f, n)
theorem G_Words (l : List T_api_Tok) (hl : ToksB l) : G_lex_Words l = some (wordsR (wordsS l)) := by
 have h := words_loop7 l.length l [] (Nat.le_refl _) hl (by have := hl.1; simpa using this)
 unfold G_lex_Words wordsS
 cases hx : wordsK l.length l with
 | inl ws =>
  rw [hx] at h
  simp only [List.nil_append] at h
  rw [h]; rfl
 | inr p =>
  obtain ⟨f, n⟩ := p
  rw [hx] at h
  obtain ⟨a, b, h⟩ := h
  rw [h]; rfl

end Go.Proofs.YtmngkcpobmhnoaaGreatDoor.Sim.Pl
