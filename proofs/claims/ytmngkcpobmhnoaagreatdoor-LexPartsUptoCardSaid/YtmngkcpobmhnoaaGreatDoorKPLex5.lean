/- Plain laws: the words of two lists of tokens; each word is right. -/
import Derived.Test.YtmngkcpobmhnoaaGreatDoorKPLex4
set_option linter.all false
namespace Go.Proofs.YtmngkcpobmhnoaaGreatDoor.Sim.Pl
open Go.Proofs

theorem wordsK_fuel : ∀ (k k' : Nat) (l : List T_api_Tok), l.length ≤ k → l.length ≤ k' → wordsK k l = wordsK k' l := by
 intro k
 induction k with
 | zero =>
  intro k' l h h'
  have : l = [] := List.length_eq_zero_iff.1 (by omega)
  subst this
  cases k' <;> rfl
 | succ k ih =>
  intro k' l h h'
  cases l with
  | nil => cases k' <;> rfl
  | cons t r =>
   cases k' with
   | zero => simp at h'
   | succ k' =>
    simp only [List.length_cons] at h h'
    simp only [wordsK]
    split
    ·rename_i hk
     split
     ·rfl
     ·rename_i b rest hx
      have := (runS_less hk hx).length_le
      rw [ih k' rest (by omega) (by omega)]
    ·split
     ·rfl
     ·rw [ih k' r (by omega) (by omega)]
def Apart (l m : List T_api_Tok) : Prop := ∀ x y, l.getLast? = some x → m.head? = some y → ¬ (x.Kind_ = 4 ∧ y.Kind_ = 4)
theorem Apart.suf {l r m : List T_api_Tok} (h : Apart l m) (hs : r <:+ l) : Apart r m := by
 intro x y h1 h2
 refine h x y ?_ h2
 obtain ⟨p, rfl⟩ := hs
 rw [List.getLast?_append, h1]; rfl
def addRest (m : List T_api_Tok) : (Bytes × List T_api_Tok) ⊕ (Bytes × Int) → (Bytes × List T_api_Tok) ⊕ (Bytes × Int)
 | .inl (b, rest) => .inl (b, rest ++ m)
 | .inr e => .inr e
theorem runS_app (m : List T_api_Tok) : ∀ (l : List T_api_Tok) (acc : Bytes), l ≠ [] → Apart l m → runS acc (l ++ m) = addRest m (runS acc l) := by
 intro l
 induction l with
 | nil => intro acc h; exact absurd rfl h
 | cons t r ih =>
  intro acc _ ha
  rw [List.cons_append]
  simp only [runS]
  by_cases hk : t.Kind_ = 4
  ·rw [if_pos hk, if_pos hk]
   cases textS t.S_ with
   | none => rfl
   | some b =>
    simp only
    cases r with
    | nil =>
     simp only [List.nil_append, runS, addRest]
     cases m with
     | nil => rfl
     | cons y m =>
      have : y.Kind_ ≠ 4 := fun h => ha t y rfl rfl ⟨hk, h⟩
      simp only [runS, if_neg this]
    | cons u r => exact ih _ (by simp) (ha.suf (List.suffix_cons _ _))
  ·rw [if_neg hk, if_neg hk]; rfl
def joinW (x y : List T_api_Word ⊕ (Bytes × Int)) : List T_api_Word ⊕ (Bytes × Int) := match x with
 | .inr e => .inr e
 | .inl a => match y with
  | .inr e => .inr e
  | .inl b => .inl (a ++ b)
theorem joinW_cons (w : T_api_Word) (x y : List T_api_Word ⊕ (Bytes × Int)) : joinW (consL w x) y = consL w (joinW x y) := by
 cases x with
 | inr e => rfl
 | inl a => cases y <;> rfl
theorem wordsK_app (m : List T_api_Tok) : ∀ (k : Nat) (l : List T_api_Tok), (l ++ m).length ≤ k → Apart l m → wordsK k (l ++ m) = joinW (wordsK k l) (wordsS m) := by
 intro k
 induction k with
 | zero =>
  intro l h _
  have h1 : l = [] := List.length_eq_zero_iff.1 (by simp at h; simp [h])
  have h2 : m = [] := List.length_eq_zero_iff.1 (by simp at h; simp [h])
  subst h1; subst h2; rfl
 | succ k ih =>
  intro l h ha
  cases l with
  | nil =>
   rw [List.nil_append] at h ⊢
   have e : wordsK (k + 1) m = wordsS m := wordsK_fuel _ _ _ h (Nat.le_refl _)
   rw [e]
   simp only [wordsK, joinW]
   cases wordsS m <;> rfl
  | cons t r =>
   have hl : (t :: (r ++ m)).length ≤ k + 1 := h
   simp only [List.length_cons] at hl
   rw [List.cons_append]
   simp only [wordsK]
   by_cases hk : t.Kind_ = 4
   ·rw [if_pos hk, if_pos hk]
    have hr := runS_app m (t :: r) [] (by simp) ha
    rw [List.cons_append] at hr
    rw [hr]
    cases hx : runS [] (t :: r) with
    | inr e => rfl
    | inl p =>
     obtain ⟨b, rest⟩ := p
     have hsuf := runS_less hk hx
     have hsl := hsuf.length_le
     simp only [addRest]
     split
     ·rfl
     ·rw [joinW_cons, ih rest (by simp only [List.length_append] at hl ⊢; omega) (ha.suf (hsuf.trans (List.suffix_cons _ _)))]
   ·rw [if_neg hk, if_neg hk]
    cases wordS t with
    | none => rfl
    | some w =>
     simp only
     rw [joinW_cons, ih r (by omega) (ha.suf (List.suffix_cons _ _))]
theorem wordsS_app {l m : List T_api_Tok} (ha : Apart l m) : wordsS (l ++ m) = joinW (wordsS l) (wordsS m) := by
 have h := wordsK_app m (l ++ m).length l (Nat.le_refl _) ha
 rw [wordsK_fuel (l ++ m).length l.length l (by simp) (Nat.le_refl _)] at h
 exact h

theorem kindB_5 : ∀ u l z d1 d2 d3, kindB u l z d1 d2 d3 = 5 → d1 = true := by decide
theorem kindB_6 : ∀ u l z d1 d2 d3, kindB u l z d1 d2 d3 = 6 → d2 = true := by decide
theorem kindB_7 : ∀ u l z d1 d2 d3, kindB u l z d1 d2 d3 = 7 → d3 = true := by decide
theorem kindB_in : ∀ u l z d1 d2 d3, kindB u l z d1 d2 d3 = 0 ∨ kindB u l z d1 d2 d3 = 5 ∨ kindB u l z d1 d2 d3 = 6 ∨ kindB u l z d1 d2 d3 = 7 ∨ kindB u l z d1 d2 d3 = 8 := by decide
theorem lies_5 {v : Int} (h1 : -128 ≤ v) (h2 : v < 2147483648) : G_lex_lies v 5 = some true := by
 have e1 : decide ((-128 : Int) ≤ v) = true := by simp only [decide_eq_true_eq]; exact h1
 have e2 : decide (v < (2147483648 : Int)) = true := by simp only [decide_eq_true_eq]; exact h2
 unfold G_lex_lies
 rw [e1, e2]; rfl
theorem shr_0 {v : Int} (h1 : 0 ≤ v) (h2 : v < 4294967296) : shr .i64 v 32 = some 0 := by
 have e : v.fdiv 4294967296 = 0 := by rw [Int.fdiv_eq_ediv_of_nonneg _ (by omega)]; omega
 have : shr .i64 v 32 = some (v.fdiv 4294967296) := rfl
 rw [this, e]
theorem lies_num {s : Bytes} (hs : s.length ≤ 16777216) (h : (numW s).2 ≠ 0) : G_lex_lies (numW s).1 (numW s).2 = some true := by
 unfold numW at h ⊢
 cases hn : numS s with
 | none => rw [hn] at h; exact absurd rfl h
 | some p =>
  obtain ⟨v, u⟩ := p
  rw [hn] at h
  simp only at h ⊢
  by_cases h0 : kindS s v = 0
  ·rw [if_pos h0] at h; exact absurd rfl h
  ·rw [if_neg h0]
   simp only
   have hin : kindS s v = 0 ∨ kindS s v = 5 ∨ kindS s v = 6 ∨ kindS s v = 7 ∨ kindS s v = 8 := kindB_in _ _ _ _ _ _
   rcases hin with hk | hk | hk | hk | hk
   ·exact absurd hk h0
   ·have hd := kindB_5 _ _ _ _ _ _ hk
    have hd : (v : Int) < 2147483648 := by simpa only [decide_eq_true_eq] using hd
    rw [hk, wi (by omega) (by omega)]
    exact lies_5 (by omega) hd
   ·have hd := kindB_6 _ _ _ _ _ _ hk
    have hd : (v : Int) < 4294967296 := by simpa only [decide_eq_true_eq] using hd
    rw [hk, wi (by omega) (by omega)]
    unfold G_lex_lies
    rw [shr_0 (by omega) hd]
    rfl
   ·have hd := kindB_7 _ _ _ _ _ _ hk
    have hd : (v : Int) < 9223372036854775808 := by simpa only [decide_eq_true_eq] using hd
    rw [hk, wi (by omega) (by omega)]
    have e : decide ((0 : Int) ≤ (v : Int)) = true := by simp only [decide_eq_true_eq]; omega
    unfold G_lex_lies
    rw [e]; rfl
   ·rw [hk]; rfl
theorem charV_in (b : UInt8) : -128 ≤ charV b ∧ charV b < 2147483648 := by
 revert b; refine all8 ?_; decide +kernel
theorem right_int {v k : Int} {f : Bytes} {n : Int} (h : G_lex_lies v k = some true) : G_lex_Right ⟨3, [], v, k, f, n⟩ = some true := by
 unfold G_lex_Right
 show (G_lex_lies v k >>= fun r8 => some r8) = some true
 rw [h]; rfl
theorem right_word {t : T_api_Tok} {w : T_api_Word} (hs : t.S_.length ≤ 1048576) (h : wordS t = some w) : G_lex_Right w = some true := by
 unfold wordS at h
 cases hone : oneS t.S_ with
 | none => rw [hone] at h; cases h
 | some x =>
  rw [hone] at h
  simp only at h
  by_cases hk : x.Kind_ = t.Kind_
  ·rw [if_pos hk] at h
   have hO := G_One t.S_ (by omega)
   rw [hone] at hO
   by_cases k1 : t.Kind_ = 1
   ·rw [if_pos k1] at h
    cases h
    have kx : (x.Kind_ == 1) = true := by simp [hk, k1]
    unfold G_lex_Right
    by_cases hm : t.S_ ∈ keysL
    ·simp only [if_pos hm, hO, oneR, G_IsKey, bind_some', hm, decide_true]; rfl
    ·simp only [if_neg hm, hO, oneR, G_IsKey, bind_some', hm, decide_false, kx, if_true]; rfl
   ·rw [if_neg k1] at h
    by_cases k2 : t.Kind_ = 2
    ·rw [if_pos k2] at h
     split at h
     ·cases h
     ·rename_i h0
      cases h
      exact right_int (lies_num (by omega) h0)
    ·rw [if_neg k2] at h
     by_cases k3 : t.Kind_ = 3
     ·rw [if_pos k3] at h
      obtain ⟨b, _, rfl⟩ := Option.map_eq_some_iff.1 h
      exact right_int (lies_5 (charV_in b).1 (charV_in b).2)
     ·rw [if_neg k3] at h
      by_cases k5 : t.Kind_ = 5
      ·rw [if_pos k5] at h
       split at h
       ·cases h
       ·rename_i hns
        cases h
        have kx : (x.Kind_ == 5) = true := by simp [hk, k5]
        have hm := one_punct hone (by rw [hk, k5])
        obtain ⟨g1, g2⟩ := signs_hash _ hm
        unfold G_lex_Right
        simp only [hO, oneR, bind_some', kx, if_true]
        cases hS : t.S_ with
        | nil => exact absurd hS g1
        | cons c r =>
         rw [hS] at g2 hns
         have q35 : ((c.toNat : Int) == 35) = (c == 35) := eqb (k := 35) (by decide)
         have h35 : (c == 35) = false := by
          rw [Bool.eq_false_iff]; intro h; exact hns (g2.1 (by rw [eq_of_beq h]; rfl))
         simp only [idx_0, bind_some', q35, h35]
         rfl
      ·rw [if_neg k5] at h; cases h
  ·rw [if_neg hk] at h; cases h
theorem right_text {b f : Bytes} {n : Int} (h : ¬ 4096 < b.length) : G_lex_Right ⟨4, b, 0, 0, f, n⟩ = some true := by
 have e : decide (((b.length : Nat) : Int) ≤ 4096) = true := by simp only [decide_eq_true_eq]; omega
 unfold G_lex_Right
 simp only [e]; rfl
theorem right_words : ∀ (k : Nat) (l : List T_api_Tok) (ws : List T_api_Word), ToksB l → wordsK k l = .inl ws → ∀ w ∈ ws, G_lex_Right w = some true := by
 intro k
 induction k with
 | zero => intro l ws _ h w hw; simp only [wordsK] at h; cases h; cases hw
 | succ k ih =>
  intro l ws hl h w hw
  cases l with
  | nil => simp only [wordsK] at h; cases h; cases hw
  | cons t r =>
   simp only [wordsK] at h
   split at h
   ·rename_i hk
    split at h
    ·cases h
    ·rename_i b rest hx
     split at h
     ·cases h
     ·rename_i h4
      obtain ⟨v, h1, rfl⟩ := consL_len h
      rcases List.mem_cons.1 hw with rfl | hw
      ·exact right_text h4
      ·exact ih rest v (hl.tail.suf (runS_less hk hx)) h1 w hw
   ·split at h
    ·cases h
    ·rename_i w' hx
     obtain ⟨v, h1, rfl⟩ := consL_len h
     rcases List.mem_cons.1 hw with rfl | hw
     ·exact right_word (hl.2 t (by simp)) hx
     ·exact ih r v hl.tail h1 w hw
theorem right_loop (c : List T_api_Word) (hc : c.length ≤ 5000000) (hr : ∀ w ∈ c, G_lex_Right w = some true) : ∀ j, j ≤ c.length → loopO (G_burinlaw07_LexParts_L1 c) (j : Int) = some (Ex2.b ()) := by
 refine rest_ind (P := fun j _ => loopO (G_burinlaw07_LexParts_L1 c) (j : Int) = some (Ex2.b ())) ?_ ?_
 ·have hlt : decide (((c.length : Nat) : Int) < ((c.length : Nat) : Int)) = false := by simp
  refine loopO_inr ?_
  simp only [G_burinlaw07_LexParts_L1, hlt]; rfl
 ·intro j w r hj hw e1 e2 ih
  have hlt : decide (((j : Nat) : Int) < ((c.length : Nat) : Int)) = true := by simp only [decide_eq_true_eq]; omega
  have hc1 : idx c (j : Int) = some w := by rw [idx_nat, hw]
  have hwr : IntKind.wrap .i64 ((j : Int) + 1) = ((j + 1 : Nat) : Int) := by rw [wi (by omega) (by omega)]; rfl
  rw [loopO_inl (s' := ((j + 1 : Nat) : Int)), ih]
  simp only [G_burinlaw07_LexParts_L1, hlt, if_true, hc1, bind_some', hr w (List.mem_of_getElem? hw), Bool.not_true, Bool.false_eq_true, if_false, hwr]
end Go.Proofs.YtmngkcpobmhnoaaGreatDoor.Sim.Pl
