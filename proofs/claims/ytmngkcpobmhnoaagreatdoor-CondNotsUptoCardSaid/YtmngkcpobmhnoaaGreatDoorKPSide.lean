/- Plain laws: what is closed is read alike wherever it stands between brackets. -/
import Derived.Test.YtmngkcpobmhnoaaGreatDoorKPEv
import Derived.Test.YtmngkcpobmhnoaaGreatDoorKPl2
set_option linter.all false
namespace Go.Proofs.YtmngkcpobmhnoaaGreatDoor.Sim.Pl
open Go.Proofs

def db (t : T_api_Tok) : Int := if t.S_ = [40] then 1 else if t.S_ = [41] then -1 else 0
def dep (l : List T_api_Tok) (j : Nat) : Int := ((l.take j).map db).sum
theorem dep_succ {l : List T_api_Tok} {j : Nat} {t : T_api_Tok} (h : l[j]? = some t) : dep l (j + 1) = dep l j + db t := by
  unfold dep
  rw [List.take_add_one, h]
  simp
structure Lexd (l : List T_api_Tok) : Prop where
  ok : TokOK l
  kind : ∀ t ∈ l, t.Kind_ ≠ 5 → t.S_ ≠ [40] ∧ t.S_ ≠ [41]
structure Clo (l : List T_api_Tok) : Prop extends Lexd l where
  pos : ∀ j, j ≤ l.length → 0 ≤ dep l j
  fin : dep l l.length = 0
structure At (l M : List T_api_Tok) (q : Nat) : Prop where
  same : ∀ j, j < l.length → M[q + j]? = l[j]?
  stop : (Clo l ∧ ∃ t, M[q + l.length]? = some t ∧ t.Kind_ = 5 ∧ t.S_ = [41]) ∨ M[q + l.length]? = none
section
variable {l M X : List T_api_Tok} {q j : Nat} {b : Bool} {s : Bytes}
theorem sgn_in (A : At l M q) (hj : j < l.length) : sgn M (q + j) false = sgn l j false := by
  unfold sgn
  rw [A.same j hj]
theorem sgn_at (A : At l M q) : (sgn M (q + l.length) false = [41] ∧ M[q + l.length]? ≠ none) ∨ (sgn M (q + l.length) false = [] ∧ M[q + l.length]? = none) := by
  rcases A.stop with ⟨_, t, h1, h2, h3⟩ | h
  · left
    rw [sgn_p h1 h2, h3, h1]
    exact ⟨rfl, by simp⟩
  · right
    unfold sgn
    rw [h]
    exact ⟨rfl, rfl⟩
theorem lev_at (A : At l M q) : lev (sgn M (q + l.length) false) = 0 := by
  rcases sgn_at A with ⟨h, _⟩ | ⟨h, _⟩ <;> rw [h] <;> rfl
theorem sgn_same (A : At l M q) (hj : j ≤ l.length) (hs : s ≠ []) (h : s ≠ [41] ∨ j < l.length ∨ M[q + l.length]? = none) : (sgn M (q + j) false == s) = (sgn l j false == s) := by
  by_cases hl : j < l.length
  · rw [sgn_in A hl]
  · have e : j = l.length := by omega
    subst e
    have h2 : (([] : Bytes) == s) = false := by simpa using Ne.symm hs
    rw [sgn_e (Nat.le_refl _)]
    rcases sgn_at A with ⟨e, hne⟩ | ⟨e, _⟩
    · have h1 : ([41] == s) = false := by
        rcases h with h | h | h
        · simpa using Ne.symm h
        · omega
        · exact absurd h hne
      rw [e, h1, h2]
    · rw [e]
theorem take_bad (hs : s ≠ []) : G_cond_eval_take ⟨X, true⟩ s = some (false, ⟨X, true⟩) := by
  have h2 : (([] : Bytes) == s) = false := by simpa using Ne.symm hs
  have e : G_cond_eval_sign ⟨X, true⟩ = some ([], ⟨X, true⟩) := rfl
  rw [G_cond_eval_take, e, bind_some']
  simp only [h2, Bool.false_eq_true, if_false]
theorem sgn_bad : sgn l j true = [] := rfl
theorem two_take (A : At l M q) (hj : j ≤ l.length) (hX : b = false → X = M.drop (q + j)) (hs : s ≠ []) (h : s ≠ [41] ∨ j < l.length ∨ b = true ∨ M[q + l.length]? = none) :
    ∃ X', G_cond_eval_take ⟨l.drop j, b⟩ s = some (sgn l j b == s, ⟨l.drop (nx j (sgn l j b == s)), b⟩) ∧ G_cond_eval_take ⟨X, b⟩ s = some (sgn l j b == s, ⟨X', b⟩) ∧
      (b = false → X' = M.drop (q + nx j (sgn l j b == s))) := by
  refine (?_ : ∃ X', _ ∧ _ ∧ _)
  cases b with
  | true =>
    have h2 : (([] : Bytes) == s) = false := by simpa using Ne.symm hs
    exact ⟨X, G_take l j true s hs, by rw [take_bad hs, sgn_bad, h2], fun h => by cases h⟩
  | false =>
    refine ⟨M.drop (q + nx j (sgn l j false == s)), G_take l j false s hs, ?_, fun _ => rfl⟩
    have h' : s ≠ [41] ∨ j < l.length ∨ M[q + l.length]? = none := by
      rcases h with h | h | h | h
      · exact .inl h
      · exact .inr (.inl h)
      · cases h
      · exact .inr (.inr h)
    rw [hX rfl, G_take M (q + j) false s hs, sgn_same A hj hs h']
    cases (sgn l j false == s) <;> rfl
end
def RB (l M : List T_api_Tok) (q j : Nat) (b0 : Bool) (p r : Option (T_cond_value × T_cond_eval)) : Prop :=
  ∃ v u j' b X, p = some (⟨v, u⟩, ⟨l.drop j', b⟩) ∧ r = some (⟨v, u⟩, ⟨X, b⟩) ∧ U64 v ∧ j ≤ j' ∧ j' ≤ l.length ∧ (b0 = true → b = true) ∧ (b = false → X = M.drop (q + j') ∧ dep l j' = dep l j)
structure Side (l M : List T_api_Tok) (q k1 k2 : Nat) : Prop where
  choice : ∀ j b X c, j ≤ l.length → (b = false → X = M.drop (q + j)) → 4 * (l.length - j) + 4 ≤ k1 → 4 * (l.length - j) + 4 ≤ k2 →
    RB l M q j b ((Rec_cond_eval_choice.lvl k1).cond_eval_choice ⟨l.drop j, b⟩ c) ((Rec_cond_eval_choice.lvl k2).cond_eval_choice ⟨X, b⟩ c)
  chain : ∀ j b X n c, j ≤ l.length → n ≤ 11 → (b = false → X = M.drop (q + j)) → 4 * (l.length - j) + 3 ≤ k1 → 4 * (l.length - j) + 3 ≤ k2 →
    RB l M q j b ((Rec_cond_eval_choice.lvl k1).cond_eval_chain ⟨l.drop j, b⟩ ((n : Nat) : Int) c) ((Rec_cond_eval_choice.lvl k2).cond_eval_chain ⟨X, b⟩ ((n : Nat) : Int) c)
  unary : ∀ j b X c, j ≤ l.length → (b = false → X = M.drop (q + j)) → 4 * (l.length - j) + 2 ≤ k1 → 4 * (l.length - j) + 2 ≤ k2 →
    RB l M q j b ((Rec_cond_eval_choice.lvl k1).cond_eval_unary ⟨l.drop j, b⟩ c) ((Rec_cond_eval_choice.lvl k2).cond_eval_unary ⟨X, b⟩ c)
  atom : ∀ j b X c, j ≤ l.length → (b = false → X = M.drop (q + j)) → 4 * (l.length - j) + 1 ≤ k1 → 4 * (l.length - j) + 1 ≤ k2 →
    RB l M q j b ((Rec_cond_eval_choice.lvl k1).cond_eval_atom ⟨l.drop j, b⟩ c) ((Rec_cond_eval_choice.lvl k2).cond_eval_atom ⟨X, b⟩ c)
section
variable {l M : List T_api_Tok} {q k1 k2 : Nat}
theorem dep_sign {j : Nat} {s : Bytes} (h : sgn l j false = s) (hs : s ≠ []) (h0 : s ≠ [40]) (h1 : s ≠ [41]) : dep l (j + 1) = dep l j := by
  obtain ⟨_, _, t, ht, _, hS⟩ := sgn_lt h hs
  rw [dep_succ ht, db, hS, if_neg h0, if_neg h1, Int.add_zero]
theorem RB.from {j j0 : Nat} {b0 b : Bool} {p r : Option (T_cond_value × T_cond_eval)} (h : RB l M q j b p r) (hj : j0 ≤ j) (hb : b0 = true → b = true) (hd : b = false → dep l j = dep l j0) : RB l M q j0 b0 p r := by
  obtain ⟨v, u, j', b', X, p1, p2, p3, p4, p5, p6, p7⟩ := h
  refine ⟨v, u, j', b', X, p1, p2, p3, by omega, p5, fun h => p6 (hb h), fun h => ⟨(p7 h).1, ?_⟩⟩
  rw [(p7 h).2]
  cases b with
  | true => rw [p6 rfl] at h; cases h
  | false => exact hd rfl
theorem RB.map {j : Nat} {b : Bool} {p r : Option (T_cond_value × T_cond_eval)} (h : RB l M q j b p r) (f : T_cond_value → T_cond_value) (g : T_cond_value × T_cond_eval → Option (T_cond_value × T_cond_eval))
    (hg : ∀ v p, U64 v.v_ → g (v, p) = some (f v, p)) (hf : ∀ v, U64 v.v_ → U64 (f v).v_) : RB l M q j b (p >>= g) (r >>= g) := by
  obtain ⟨v, u, j', b', X, p1, p2, p3, p4, p5, p6, p7⟩ := h
  refine ⟨(f ⟨v, u⟩).v_, (f ⟨v, u⟩).u_, j', b', X, ?_, ?_, hf _ p3, p4, p5, p6, p7⟩
  · rw [p1, bind_some', hg _ _ p3]
  · rw [p2, bind_some', hg _ _ p3]
theorem side_unary (A : At l M q) (S : Side l M q k1 k2) : ∀ j b X c, j ≤ l.length → (b = false → X = M.drop (q + j)) → 4 * (l.length - j) + 2 ≤ k1 + 1 → 4 * (l.length - j) + 2 ≤ k2 + 1 →
    RB l M q j b (G_cond_eval_unary_b (Rec_cond_eval_choice.lvl k1) ⟨l.drop j, b⟩ c) (G_cond_eval_unary_b (Rec_cond_eval_choice.lvl k2) ⟨X, b⟩ c) := by
  intro j b X c hj hX hk1 hk2
  have sub : ∀ (s : Bytes) (X' : List T_api_Tok), sgn l j b = s → s ≠ [] → s ≠ [40] → s ≠ [41] → (b = false → X' = M.drop (q + nx j (sgn l j b == s))) →
      RB l M q j b ((Rec_cond_eval_choice.lvl k1).cond_eval_unary ⟨l.drop (nx j (sgn l j b == s)), b⟩ c) ((Rec_cond_eval_choice.lvl k2).cond_eval_unary ⟨X', b⟩ c) := by
    intro s X' h hs h0 h1 hX'
    obtain ⟨hlt, rfl, _⟩ := sgn_lt h hs
    have e : (sgn l j false == s) = true := by simpa using h
    rw [e] at hX' ⊢
    exact (S.unary (j + 1) false X' c (by omega) hX' (by omega) (by omega)).from (by omega) id (fun _ => dep_sign h hs h0 h1)
  unfold G_cond_eval_unary_b
  obtain ⟨X1, t1, t2, t3⟩ := two_take A hj hX (s := [43]) (by simp) (.inl (by simp))
  rw [t1, t2, bind_some', bind_some']
  simp only []
  by_cases h1 : sgn l j b = [43]
  · have e : (sgn l j b == [43]) = true := by simpa using h1
    have := sub _ X1 h1 (by simp) (by simp) (by simp) t3
    rw [e] at this ⊢
    simp only [if_true]
    exact this.map id _ (fun _ _ _ => rfl) (fun _ h => h)
  · have e : (sgn l j b == [43]) = false := by simpa using h1
    rw [e] at t3 ⊢
    simp only [Bool.false_eq_true, if_false]
    have en : nx j false = j := rfl
    rw [en] at t3 ⊢
    obtain ⟨X2, t1, t2, t3⟩ := two_take A hj t3 (s := [45]) (by simp) (.inl (by simp))
    rw [t1, t2, bind_some', bind_some']
    simp only []
    by_cases h2 : sgn l j b = [45]
    · have e : (sgn l j b == [45]) = true := by simpa using h2
      have := sub _ X2 h2 (by simp) (by simp) (by simp) t3
      rw [e] at this ⊢
      simp only [if_true]
      exact this.map (fun v => ⟨IntKind.wrap .u64 (0 - v.v_), v.u_⟩) _ (fun _ _ _ => rfl) (fun _ _ => u64_wrap _)
    · have e : (sgn l j b == [45]) = false := by simpa using h2
      rw [e] at t3 ⊢
      simp only [Bool.false_eq_true, if_false]
      rw [en] at t3 ⊢
      obtain ⟨X3, t1, t2, t3⟩ := two_take A hj t3 (s := [126]) (by simp) (.inl (by simp))
      rw [t1, t2, bind_some', bind_some']
      simp only []
      by_cases h3 : sgn l j b = [126]
      · have e : (sgn l j b == [126]) = true := by simpa using h3
        have := sub _ X3 h3 (by simp) (by simp) (by simp) t3
        rw [e] at this ⊢
        simp only [if_true]
        exact this.map (fun v => ⟨bxor .u64 (if IntKind.signed .u64 = true then -1 else IntKind.max .u64) v.v_, v.u_⟩) _ (fun _ _ _ => rfl) (fun _ _ => u64_xor _ _)
      · have e : (sgn l j b == [126]) = false := by simpa using h3
        rw [e] at t3 ⊢
        simp only [Bool.false_eq_true, if_false]
        rw [en] at t3 ⊢
        obtain ⟨X4, t1, t2, t3⟩ := two_take A hj t3 (s := [33]) (by simp) (.inl (by simp))
        rw [t1, t2, bind_some', bind_some']
        simp only []
        by_cases h4 : sgn l j b = [33]
        · have e : (sgn l j b == [33]) = true := by simpa using h4
          have := sub _ X4 h4 (by simp) (by simp) (by simp) t3
          rw [e] at this ⊢
          simp only [if_true]
          exact this.map (fun v => ⟨if v.v_ == 0 then 1 else 0, false⟩) _ (fun v p _ => by simp only [G_truth, bind_some']) (fun _ _ => u64_if _)
        · have e : (sgn l j b == [33]) = false := by simpa using h4
          rw [e] at t3 ⊢
          simp only [Bool.false_eq_true, if_false]
          rw [en] at t3 ⊢
          exact (S.atom j b X4 c hj t3 (by omega) (by omega)).map id _ (fun _ _ _ => rfl) (fun _ h => h)
theorem side_atom (C : Lexd l) (A : At l M q) (S : Side l M q k1 k2) : ∀ j b X c, j ≤ l.length → (b = false → X = M.drop (q + j)) → 4 * (l.length - j) + 1 ≤ k1 + 1 → 4 * (l.length - j) + 1 ≤ k2 + 1 →
    RB l M q j b (G_cond_eval_atom_b (Rec_cond_eval_choice.lvl k1) ⟨l.drop j, b⟩ c) (G_cond_eval_atom_b (Rec_cond_eval_choice.lvl k2) ⟨X, b⟩ c) := by
  intro j b X c hj hX hk1 hk2
  unfold G_cond_eval_atom_b
  obtain ⟨X1, t1, t2, t3⟩ := two_take A hj hX (s := [40]) (by simp) (.inl (by simp))
  rw [t1, t2, bind_some', bind_some']
  simp only []
  by_cases h1 : sgn l j b = [40]
  · obtain ⟨hlt, rfl, t, ht, _, hS⟩ := sgn_lt h1 (by simp)
    have e : (sgn l j false == [40]) = true := by simpa using h1
    rw [e] at t3 ⊢
    simp only [if_true]
    have hd : dep l (j + 1) = dep l j + 1 := by rw [dep_succ ht, db, if_pos hS]
    obtain ⟨v, u, j', b', X', p1, p2, p3, p4, p5, p6, p7⟩ := S.choice (j + 1) false X1 c (by omega) t3 (by omega) (by omega)
    show RB l M q j false ((Rec_cond_eval_choice.lvl k1).cond_eval_choice ⟨l.drop (j + 1), false⟩ c >>= _) _
    rw [p1, p2, bind_some', bind_some']
    simp only []
    have hin : j' < l.length ∨ b' = true ∨ M[q + l.length]? = none := by
      rcases A.stop with ⟨C, _⟩ | h0
      case inr => exact .inr (.inr h0)
      cases b' with
      | true => exact .inr (.inl rfl)
      | false =>
        left
        have h2 := (p7 rfl).2
        have h3 := C.pos j hj
        have h4 := C.fin
        rcases Nat.lt_or_ge j' l.length with h | h
        · exact h
        · have : j' = l.length := by omega
          rw [this] at h2; omega
    obtain ⟨X2, s1, s2, s3⟩ := two_take A p5 (fun h => (p7 h).1) (s := [41]) (by simp) (.inr hin)
    rw [s1, s2, bind_some', bind_some']
    simp only [G_fails, bind_some']
    obtain ⟨q1, q2⟩ := nx_le (L := l) (j := j') (b := b') (s := [41]) (by simp) p5
    refine ⟨v, u, _, (b' || !(sgn l j' b' == [41])), X2, rfl, rfl, p3, by omega, q2, (fun h => by cases h), ?_⟩
    intro h
    simp only [Bool.or_eq_false_iff, Bool.not_eq_false'] at h
    obtain ⟨rfl, h⟩ := h
    refine ⟨s3 rfl, ?_⟩
    rw [h]
    obtain ⟨_, _, t, ht, _, hS⟩ := sgn_lt (show sgn l j' false = [41] by simpa using h) (by simp)
    show dep l (j' + 1) = _
    rw [dep_succ ht, (p7 rfl).2, hd, db, if_neg (by rw [hS]; decide), if_pos hS]
    omega
  · have e : (sgn l j b == [40]) = false := by simpa using h1
    rw [e] at t3 ⊢
    simp only [Bool.false_eq_true, if_false]
    cases b with
    | true => exact ⟨0, false, j, true, X1, rfl, rfl, u64_0, by omega, by omega, fun _ => rfl, fun h => by cases h⟩
    | false =>
      have t3 : X1 = M.drop (q + j) := t3 rfl
      subst t3
      show RB l M q j false (_ >>= _) (_ >>= _)
      by_cases hlt : j < l.length
      · have hg := List.getElem?_eq_getElem hlt
        have hM := A.same j hlt
        rw [hg] at hM
        have hMl := (List.getElem?_eq_some_iff.1 hM).1
        have e1 : ((((l.drop j).length : Nat) : Int) == 0) = false := by simp; omega
        have e1' : ((((M.drop (q + j)).length : Nat) : Int) == 0) = false := by simp; omega
        have e3 : idx (l.drop j) 0 = some l[j] := by rw [idx_drop]; exact hg
        have e3' : idx (M.drop (q + j)) 0 = some l[j] := by rw [idx_drop]; exact hM
        have e5 : subF (l.drop j) 1 = some (l.drop (j + 1)) := drop_1 hlt
        have e5' : subF (M.drop (q + j)) 1 = some (M.drop (q + (j + 1))) := drop_1 hMl
        have hS : (l[j]).S_.length ≤ 16777216 := C.ok.2 _ (List.getElem_mem hlt)
        have hkd := C.kind _ (List.getElem_mem hlt)
        have hdep := dep_succ hg
        show RB l M q j false ((if (((((l.drop j).length : Nat) : Int) == 0)) = true then _ else _) >>= _) ((if (((((M.drop (q + j)).length : Nat) : Int) == 0)) = true then _ else _) >>= _)
        simp only [e1, e1', e3, e3', e5, e5', bind_some', Bool.false_eq_true, if_false, nx]
        generalize l[j] = t at hS hkd hdep
        have hd : t.Kind_ ≠ 5 → dep l (j + 1) = dep l j := by
          intro h
          rw [hdep, db, if_neg (hkd h).1, if_neg (hkd h).2, Int.add_zero]
        by_cases k1 : t.Kind_ = 1
        · have k1' : (t.Kind_ == (1 : Int)) = true := by simpa using k1
          simp only [k1', if_true]
          exact ⟨0, false, j + 1, false, _, rfl, rfl, u64_0, by omega, by omega, id, fun _ => ⟨rfl, hd (by omega)⟩⟩
        · have k1' : (t.Kind_ == (1 : Int)) = false := by simpa using k1
          simp only [k1', Bool.false_eq_true, if_false]
          by_cases k2 : t.Kind_ = 2
          · have k2' : (t.Kind_ == (2 : Int)) = true := by simpa using k2
            simp only [k2', if_true, G_Number _ hS, bind_some', G_fails]
            cases hn : numS t.S_ with
            | none => exact ⟨0, false, j + 1, true, _, rfl, rfl, u64_0, by omega, by omega, fun _ => rfl, fun h => by cases h⟩
            | some p =>
              obtain ⟨v, u⟩ := p
              have hv := numS_le hS hn
              have hu : U64 (v : Int) := ⟨by omega, by omega⟩
              cases u with
              | true => exact ⟨(v : Int), true, j + 1, false, _, rfl, rfl, hu, by omega, by omega, id, fun _ => ⟨rfl, hd (by omega)⟩⟩
              | false => exact ⟨(v : Int), false, j + 1, decide (IntKind.wrap .i64 (v : Int) < 0), _, rfl, rfl, hu, by omega, by omega, (fun h => by cases h), fun _ => ⟨rfl, hd (by omega)⟩⟩
          · have k2' : (t.Kind_ == (2 : Int)) = false := by simpa using k2
            simp only [k2', Bool.false_eq_true, if_false]
            by_cases k3 : t.Kind_ = 3
            · have k3' : (t.Kind_ == (3 : Int)) = true := by simpa using k3
              simp only [k3', if_true, G_Char _ hS, bind_some', G_fails]
              exact ⟨_, false, j + 1, !((charR (charS t.S_)).2 == 0), _, rfl, rfl, u64_wrap _, by omega, by omega, (fun h => by cases h), fun _ => ⟨rfl, hd (by omega)⟩⟩
            · have k3' : (t.Kind_ == (3 : Int)) = false := by simpa using k3
              simp only [k3', Bool.false_eq_true, if_false]
              exact ⟨0, false, j + 1, true, _, rfl, rfl, u64_0, by omega, by omega, fun _ => rfl, fun h => by cases h⟩
      · have hjl : j = l.length := by omega
        subst hjl
        rcases A.stop with ⟨_, t, hM, hk5, hS⟩ | hM
        case inr =>
          have eM : M.drop (q + l.length) = [] := List.drop_eq_nil_of_le (List.getElem?_eq_none_iff.1 hM)
          have el : l.drop l.length = [] := List.drop_eq_nil_of_le (Nat.le_refl _)
          have en : nx l.length false = l.length := rfl
          simp only [en, eM, el]
          refine ⟨0, false, l.length, true, [], ?_, rfl, u64_0, by omega, by omega, fun _ => rfl, fun h => by cases h⟩
          rw [el]
          rfl
        have hMl := (List.getElem?_eq_some_iff.1 hM).1
        have e1 : ((((l.drop l.length).length : Nat) : Int) == 0) = true := by simp
        have e1' : ((((M.drop (q + l.length)).length : Nat) : Int) == 0) = false := by simp; omega
        have e3' : idx (M.drop (q + l.length)) 0 = some t := by rw [idx_drop]; exact hM
        have e5' : subF (M.drop (q + l.length)) 1 = some (M.drop (q + l.length + 1)) := drop_1 hMl
        show RB l M q l.length false ((if (((((l.drop l.length).length : Nat) : Int) == 0)) = true then _ else _) >>= _) ((if (((((M.drop (q + l.length)).length : Nat) : Int) == 0)) = true then _ else _) >>= _)
        have k1 : (t.Kind_ == (1 : Int)) = false := by rw [hk5]; rfl
        have k2 : (t.Kind_ == (2 : Int)) = false := by rw [hk5]; rfl
        have k3 : (t.Kind_ == (3 : Int)) = false := by rw [hk5]; rfl
        simp only [e1, e1', e3', e5', bind_some', Bool.false_eq_true, if_false, if_true, nx, k1, k2, k3]
        exact ⟨0, false, l.length, true, _, rfl, rfl, u64_0, by omega, by omega, fun _ => rfl, fun h => by cases h⟩

def c1 (op : Bytes) (c : Bool) (v : Int) : Bool := if op = [38, 38] then (if c then !(v == 0) else false) else if op = [124, 124] then (if c then v == 0 else false) else c
theorem chain_one {k n : Nat} {c b2 : Bool} {op : Bytes} {v w : Int} {u uw : Bool} {X X1 Y : List T_api_Tok} (hs : G_cond_eval_sign ⟨X, false⟩ = some (op, ⟨X, false⟩))
    (ht : G_cond_eval_take ⟨X, false⟩ op = some (true, ⟨X1, false⟩)) (h0 : lev op ≠ 0) (hn : ¬ lev op < n)
    (hc : (Rec_cond_eval_choice.lvl k).cond_eval_chain ⟨X1, false⟩ ((lev op + 1 : Nat) : Int) (c1 op c v) = some (⟨w, uw⟩, ⟨Y, b2⟩)) {x : Int} {ux b3 : Bool}
    (hb : if op = [38, 38] then x = (if !(v == 0) && !(w == 0) then 1 else 0) ∧ ux = false ∧ b3 = b2 else if op = [124, 124] then x = (if !(v == 0) || !(w == 0) then 1 else 0) ∧ ux = false ∧ b3 = b2 else
      G_cond_eval_binary ⟨Y, b2⟩ op ⟨v, u⟩ ⟨w, uw⟩ c = some (⟨x, ux⟩, ⟨Y, b3⟩)) :
    G_cond_eval_chain_L1 (Rec_cond_eval_choice.lvl k) ((n : Nat) : Int) (c, X, false, v, u) = some (Sum.inl (c, Y, b3, x, ux)) := by
  have l1 : ((lev op : Int) == 0) = false := by simp; omega
  have l2 : decide ((lev op : Int) < (n : Int)) = false := by simp; omega
  have l3 := lev_le op
  have l4 : IntKind.wrap .i64 ((lev op : Int) + 1) = ((lev op + 1 : Nat) : Int) := by rw [wi (by omega) (by omega)]; rfl
  by_cases ha : op = [38, 38]
  · have ea : (op == ([38, 38] : Bytes)) = true := by simpa using ha
    rw [if_pos ha] at hb
    obtain ⟨rfl, rfl, rfl⟩ := hb
    rw [c1, if_pos ha] at hc
    cases c with
    | true =>
      simp only [if_true] at hc
      simp only [G_cond_eval_chain_L1, hs, bind_some', G_levelOf, l1, l2, l4, ht, ea, if_true, hc, G_truth, Bool.false_eq_true, if_false]
      cases v == 0 <;> simp
    | false =>
      simp only [Bool.false_eq_true, if_false] at hc
      simp only [G_cond_eval_chain_L1, hs, bind_some', G_levelOf, l1, l2, l4, ht, ea, if_true, hc, G_truth, Bool.false_eq_true, if_false]
      cases v == 0 <;> simp
  · have ea : (op == ([38, 38] : Bytes)) = false := by simpa using ha
    rw [if_neg ha] at hb
    rw [c1, if_neg ha] at hc
    by_cases ho : op = [124, 124]
    · have eo : (op == ([124, 124] : Bytes)) = true := by simpa using ho
      rw [if_pos ho] at hb hc
      obtain ⟨rfl, rfl, rfl⟩ := hb
      cases c with
      | true =>
        simp only [if_true] at hc
        simp only [G_cond_eval_chain_L1, hs, bind_some', G_levelOf, l1, l2, l4, ht, ea, eo, if_true, Bool.not_not, hc, G_truth, Bool.false_eq_true, if_false]
        cases v == 0 <;> simp
      | false =>
        simp only [Bool.false_eq_true, if_false] at hc
        simp only [G_cond_eval_chain_L1, hs, bind_some', G_levelOf, l1, l2, l4, ht, ea, eo, if_true, hc, G_truth, Bool.false_eq_true, if_false]
        cases v == 0 <;> simp
    · have eo : (op == ([124, 124] : Bytes)) = false := by simpa using ho
      rw [if_neg ho] at hb hc
      simp only [G_cond_eval_chain_L1, hs, bind_some', G_levelOf, l1, l2, l4, ht, ea, eo, if_true, hc, Bool.false_eq_true, if_false, hb]
theorem chain_stop {k n : Nat} {c b : Bool} {op : Bytes} {v : Int} {u : Bool} {X : List T_api_Tok} (hs : G_cond_eval_sign ⟨X, b⟩ = some (op, ⟨X, b⟩)) (h : lev op = 0 ∨ lev op < n) :
    loopO (G_cond_eval_chain_L1 (Rec_cond_eval_choice.lvl k) ((n : Nat) : Int)) (c, X, b, v, u) = some (X, b, v, u) := by
  refine loopO_inr ?_
  simp only [G_cond_eval_chain_L1, hs, bind_some', G_levelOf]
  rcases h with h | h
  · rw [h]; rfl
  · have h0 : decide ((lev op : Int) < (n : Int)) = true := by simp; omega
    simp only [h0]
    cases ((lev op : Int) == 0) <;> rfl
def AllBad (o : Option (T_cond_value × T_cond_eval)) : Prop := ∀ r, o = some r → r.2.bad_ = true
theorem allbad_some {v : T_cond_value} {Y : List T_api_Tok} : AllBad (some (v, ⟨Y, true⟩)) := fun r h => by cases h; rfl
theorem allbad_ite {p : Prop} [Decidable p] {x y : Option (T_cond_value × T_cond_eval)} (h1 : AllBad x) (h2 : AllBad y) : AllBad (if p then x else y) := by
  split
  · exact h1
  · exact h2
theorem allbad_bind {T : Type} {o : Option T} {f : T → Option (T_cond_value × T_cond_eval)} (h : ∀ x, AllBad (f x)) : AllBad (o >>= f) := by
  cases o with
  | none => intro r h; cases h
  | some x => exact h x
theorem allbad_divided {Y : List T_api_Tok} {op : Bytes} {x y : T_cond_value} {c : Bool} : AllBad (G_cond_eval_divided ⟨Y, true⟩ op x y c) := by
  unfold G_cond_eval_divided
  simp only [G_fails, Bool.true_or, bind_some']
  repeat' (first | exact allbad_some | refine allbad_ite ?_ ?_ | refine allbad_bind fun _ => ?_)
theorem allbad_shifted {Y : List T_api_Tok} {op : Bytes} {x y : T_cond_value} {c : Bool} : AllBad (G_cond_eval_shifted ⟨Y, true⟩ op x y c) := by
  unfold G_cond_eval_shifted
  simp only [G_fails, Bool.true_or, bind_some']
  repeat' (first | exact allbad_some | refine allbad_ite ?_ ?_ | refine allbad_bind fun _ => ?_)
theorem allbad_again {o : Option (T_cond_value × T_cond_eval)} (h : AllBad o) : AllBad (o >>= fun (r, p) => some (r, p)) := by
  cases o with
  | none => intro r h; cases h
  | some x => intro r e; cases e; exact h x rfl
theorem allbad_binary {Y : List T_api_Tok} {op : Bytes} {x y : T_cond_value} {c : Bool} : AllBad (G_cond_eval_binary ⟨Y, true⟩ op x y c) := by
  unfold G_cond_eval_binary
  repeat' (first | exact allbad_some | exact allbad_again allbad_divided | exact allbad_again allbad_shifted | refine allbad_ite ?_ ?_ | refine allbad_bind fun _ => ?_)
theorem bin_two {op : Bytes} {v w : Int} {u uw b c : Bool} (h : op ∈ opsL) (h1 : op ≠ [124, 124]) (h2 : op ≠ [38, 38]) (hv : U64 v) (hw : U64 w) : ∃ x ux b3, (∀ Y, G_cond_eval_binary ⟨Y, b⟩ op ⟨v, u⟩ ⟨w, uw⟩ c = some (⟨x, ux⟩, ⟨Y, b3⟩)) ∧ U64 x ∧ (b = true → b3 = true) := by
  obtain ⟨x, ux, b3, w1, w2, w3⟩ := bin_all (l := []) (L := []) (j := 0) (b := b) (c := c) (ua := u) (ub := uw) op h h1 h2 hv hw
  refine ⟨x, ux, b3, ?_, w3, ?_⟩
  · intro Y
    obtain ⟨x', ux', b3', y1, y2, _⟩ := bin_all (l := Y) (L := []) (j := 0) (b := b) (c := c) (ua := u) (ub := uw) op h h1 h2 hv hw
    rw [w2] at y2
    injection y2 with y2
    injection y2 with e1 e2
    injection e1 with e1 e3
    injection e2 with _ _ e4
    subst e1 e3
    have : b3 = b3' := by cases b3 <;> cases b3' <;> simp_all
    subst this
    exact y1
  · intro hb
    subst hb
    exact allbad_binary _ w1
theorem side_loop (C : Lexd l) (A : At l M q) (S : Side l M q k1 k2) (n : Nat) (hn : n ≤ 11) (c : Bool) : ∀ m j b X v u, l.length - j ≤ m → j ≤ l.length → (b = false → X = M.drop (q + j)) → 4 * (l.length - j) + 3 ≤ k1 + 1 → 4 * (l.length - j) + 3 ≤ k2 + 1 → U64 v →
    ∃ v' u' j' b' X', loopO (G_cond_eval_chain_L1 (Rec_cond_eval_choice.lvl k1) ((n : Nat) : Int)) (c, l.drop j, b, v, u) = some (l.drop j', b', v', u') ∧
      loopO (G_cond_eval_chain_L1 (Rec_cond_eval_choice.lvl k2) ((n : Nat) : Int)) (c, X, b, v, u) = some (X', b', v', u') ∧ U64 v' ∧ j ≤ j' ∧ j' ≤ l.length ∧ (b = true → b' = true) ∧ (b' = false → X' = M.drop (q + j') ∧ dep l j' = dep l j) := by
  intro m
  induction m with
  | zero =>
    intro j b X v u hm hj hX hk1 hk2 hv
    have e : j = l.length := by omega
    subst e
    have hs : sgn l l.length b = [] := by cases b with
      | true => rfl
      | false => exact sgn_e (Nat.le_refl _)
    refine ⟨v, u, l.length, b, X, chain_stop (G_sign l l.length b) (.inl (by rw [hs]; rfl)), ?_, hv, by omega, by omega, id, fun h => ⟨hX h, rfl⟩⟩
    cases b with
    | true => exact chain_stop (op := []) rfl (.inl rfl)
    | false => rw [hX rfl]; exact chain_stop (G_sign M (q + l.length) false) (.inl (lev_at A))
  | succ m ih =>
    intro j b X v u hm hj hX hk1 hk2 hv
    by_cases hstop : lev (sgn l j b) = 0 ∨ lev (sgn l j b) < n
    · refine ⟨v, u, j, b, X, chain_stop (G_sign l j b) hstop, ?_, hv, by omega, by omega, id, fun h => ⟨hX h, rfl⟩⟩
      cases b with
      | true => exact chain_stop (op := []) rfl (.inl rfl)
      | false =>
        rw [hX rfl]
        refine chain_stop (G_sign M (q + j) false) ?_
        by_cases hlt : j < l.length
        · rw [sgn_in A hlt]; exact hstop
        · have e : j = l.length := by omega
          rw [e]; exact .inl (lev_at A)
    · obtain ⟨op, hop⟩ : ∃ op, sgn l j b = op := ⟨_, rfl⟩
      rw [hop] at hstop
      have h0 : lev op ≠ 0 := fun h => hstop (.inl h)
      have hl : ¬ lev op < n := fun h => hstop (.inr h)
      have hne : op ≠ [] := by rintro rfl; exact h0 rfl
      have n40 : op ≠ [40] := by rintro rfl; exact h0 rfl
      have n41 : op ≠ [41] := by rintro rfl; exact h0 rfl
      obtain ⟨hlt, rfl, _⟩ := sgn_lt hop hne
      obtain ⟨X1, t1, t2, t3⟩ := two_take A hj hX hne (.inl n41)
      have e : (sgn l j false == op) = true := by simpa using hop
      rw [e] at t1 t2 t3
      have en : nx j true = j + 1 := rfl
      rw [en] at t1 t3
      have g1 := G_sign l j false
      rw [hop] at g1
      have g2 : G_cond_eval_sign ⟨X, false⟩ = some (op, ⟨X, false⟩) := by
        rw [hX rfl, G_sign M (q + j) false, sgn_in A hlt, hop]
      have l3 := lev_le op
      obtain ⟨v2, u2, j2, b2, X2, p1, p2, p3, p4, p5, p6, p7⟩ := S.chain (j + 1) false X1 (lev op + 1) (c1 op c v) (by omega) (by omega) t3 (by omega) (by omega)
      have hd := dep_sign hop hne n40 n41
      have key : ∃ x ux b3, (∀ Y, if op = [38, 38] then x = (if !(v == 0) && !(v2 == 0) then 1 else 0) ∧ ux = false ∧ b3 = b2 else if op = [124, 124] then x = (if !(v == 0) || !(v2 == 0) then 1 else 0) ∧ ux = false ∧ b3 = b2 else
          G_cond_eval_binary ⟨Y, b2⟩ op ⟨v, u⟩ ⟨v2, u2⟩ c = some (⟨x, ux⟩, ⟨Y, b3⟩)) ∧ U64 x ∧ (b2 = true → b3 = true) := by
        by_cases ha : op = [38, 38]
        · exact ⟨_, _, _, fun Y => by rw [if_pos ha]; exact ⟨rfl, rfl, rfl⟩, u64_if _, id⟩
        · by_cases ho : op = [124, 124]
          · exact ⟨_, _, _, fun Y => by rw [if_neg ha, if_pos ho]; exact ⟨rfl, rfl, rfl⟩, u64_if _, id⟩
          · obtain ⟨x, ux, b3, y1, y2, y3⟩ := bin_two (b := b2) (c := c) (u := u) (uw := u2) (lev_mem op h0) ho ha hv p3
            exact ⟨x, ux, b3, fun Y => by rw [if_neg ha, if_neg ho]; exact y1 Y, y2, y3⟩
      obtain ⟨x, ux, b3, y1, y2, y3⟩ := key
      rw [loopO_inl (chain_one g1 t1 h0 hl p1 (y1 _)), loopO_inl (chain_one g2 t2 h0 hl p2 (y1 _))]
      have b32 : b3 = false → b2 = false := by
        intro h
        cases b2 with
        | false => rfl
        | true => rw [y3 rfl] at h; cases h
      obtain ⟨v', u', j', b', X', r1, r2, r3, r4, r5, r6, r7⟩ := ih j2 b3 X2 x ux (by omega) p5 (fun h => (p7 (b32 h)).1) (by omega) (by omega) y2
      refine ⟨v', u', j', b', X', r1, r2, r3, by omega, r5, (fun h => by cases h), fun h => ⟨(r7 h).1, ?_⟩⟩
      have hb3 : b3 = false := by
        cases b3 with
        | false => rfl
        | true => rw [r6 rfl] at h; cases h
      rw [(r7 h).2, (p7 (b32 hb3)).2, hd]
theorem side_chain (C : Lexd l) (A : At l M q) (S : Side l M q k1 k2) : ∀ j b X n c, j ≤ l.length → n ≤ 11 → (b = false → X = M.drop (q + j)) → 4 * (l.length - j) + 3 ≤ k1 + 1 → 4 * (l.length - j) + 3 ≤ k2 + 1 →
    RB l M q j b (G_cond_eval_chain_b (Rec_cond_eval_choice.lvl k1) ⟨l.drop j, b⟩ ((n : Nat) : Int) c) (G_cond_eval_chain_b (Rec_cond_eval_choice.lvl k2) ⟨X, b⟩ ((n : Nat) : Int) c) := by
  intro j b X n c hj hn hX hk1 hk2
  obtain ⟨v, u, j1, b1, X1, p1, p2, p3, p4, p5, p6, p7⟩ := S.unary j b X c hj hX (by omega) (by omega)
  obtain ⟨v', u', j', b', X', q1, q2, q3, q4, q5, q6, q7⟩ := side_loop C A S n hn c _ j1 b1 X1 v u (Nat.le_refl _) p5 (fun h => (p7 h).1) (by omega) (by omega) p3
  unfold G_cond_eval_chain_b
  rw [p1, p2, bind_some', bind_some']
  simp only []
  rw [q1, q2]
  refine ⟨v', u', j', b', X', rfl, rfl, q3, by omega, q5, fun h => q6 (p6 h), fun h => ⟨(q7 h).1, ?_⟩⟩
  have hb1 : b1 = false := by
    cases b1 with
    | false => rfl
    | true => rw [q6 rfl] at h; cases h
  rw [(q7 h).2, (p7 hb1).2]
theorem side_choice (C : Lexd l) (A : At l M q) (S : Side l M q k1 k2) : ∀ j b X c, j ≤ l.length → (b = false → X = M.drop (q + j)) → 4 * (l.length - j) + 4 ≤ k1 + 1 → 4 * (l.length - j) + 4 ≤ k2 + 1 →
    RB l M q j b (G_cond_eval_choice_b (Rec_cond_eval_choice.lvl k1) ⟨l.drop j, b⟩ c) (G_cond_eval_choice_b (Rec_cond_eval_choice.lvl k2) ⟨X, b⟩ c) := by
  intro j b X c hj hX hk1 hk2
  unfold G_cond_eval_choice_b
  obtain ⟨v, u, j1, b1, X1, p1, p2, p3, p4, p5, p6, p7⟩ := S.chain j b X 1 c hj (by omega) hX (by omega) (by omega)
  rw [show (1 : Int) = ((1 : Nat) : Int) from rfl, p1, p2, bind_some', bind_some']
  simp only []
  obtain ⟨X2, t1, t2, t3⟩ := two_take A p5 (fun h => (p7 h).1) (s := [63]) (by simp) (.inl (by simp))
  rw [t1, t2, bind_some', bind_some']
  simp only []
  by_cases h1 : sgn l j1 b1 = [63]
  · obtain ⟨hlt, rfl, _⟩ := sgn_lt h1 (by simp)
    have hd := dep_sign h1 (by simp) (by simp) (by simp)
    have e : (sgn l j1 false == [63]) = true := by simpa using h1
    have en : nx j1 true = j1 + 1 := rfl
    rw [e] at t3 ⊢
    rw [en] at t3
    simp only [Bool.not_true, Bool.false_eq_true, if_false, en]
    have key : ∀ c1 c2 : Bool, ∃ v2 u2 j2 b2 X3 X4, (Rec_cond_eval_choice.lvl k1).cond_eval_choice ⟨l.drop (j1 + 1), false⟩ c1 = some (⟨v2, u2⟩, ⟨l.drop j2, b2⟩) ∧
        (Rec_cond_eval_choice.lvl k2).cond_eval_choice ⟨X2, false⟩ c1 = some (⟨v2, u2⟩, ⟨X3, b2⟩) ∧ U64 v2 ∧
        G_cond_eval_take ⟨l.drop j2, b2⟩ [58] = some (sgn l j2 b2 == [58], ⟨l.drop (nx j2 (sgn l j2 b2 == [58])), b2⟩) ∧ G_cond_eval_take ⟨X3, b2⟩ [58] = some (sgn l j2 b2 == [58], ⟨X4, b2⟩) ∧
        ∃ v3 u3 j3 b3 X5, (Rec_cond_eval_choice.lvl k1).cond_eval_choice ⟨l.drop (nx j2 (sgn l j2 b2 == [58])), b2 || !(sgn l j2 b2 == [58])⟩ c2 = some (⟨v3, u3⟩, ⟨l.drop j3, b3⟩) ∧
        (Rec_cond_eval_choice.lvl k2).cond_eval_choice ⟨X4, b2 || !(sgn l j2 b2 == [58])⟩ c2 = some (⟨v3, u3⟩, ⟨X5, b3⟩) ∧ U64 v3 ∧ j ≤ j3 ∧ j3 ≤ l.length ∧ (b = true → b3 = true) ∧ (b3 = false → X5 = M.drop (q + j3) ∧ dep l j3 = dep l j) := by
      intro c1 c2
      obtain ⟨v2, u2, j2, b2, X3, q1, q2, q3, q4, q5, q6, q7⟩ := S.choice (j1 + 1) false X2 c1 (by omega) t3 (by omega) (by omega)
      obtain ⟨X4, s1, s2, s3⟩ := two_take A q5 (fun h => (q7 h).1) (s := [58]) (by simp) (.inl (by simp))
      obtain ⟨n1, n2⟩ := nx_le (L := l) (j := j2) (b := b2) (s := [58]) (by simp) q5
      have hX4 : (b2 || !(sgn l j2 b2 == [58])) = false → X4 = M.drop (q + nx j2 (sgn l j2 b2 == [58])) := by
        intro h
        simp only [Bool.or_eq_false_iff] at h
        exact s3 h.1
      obtain ⟨v3, u3, j3, b3, X5, r1, r2, r3, r4, r5, r6, r7⟩ := S.choice _ (b2 || !(sgn l j2 b2 == [58])) X4 c2 n2 hX4 (by omega) (by omega)
      refine ⟨v2, u2, j2, b2, X3, X4, q1, q2, q3, s1, s2, v3, u3, j3, b3, X5, r1, r2, r3, by omega, r5, ?_, fun h => ⟨(r7 h).1, ?_⟩⟩
      · intro h; exact absurd (p6 h) (by simp)
      · have hb : (b2 || !(sgn l j2 b2 == [58])) = false := by
          cases hx : (b2 || !(sgn l j2 b2 == [58])) with
          | false => rfl
          | true => rw [r6 hx] at h; cases h
        rw [(r7 h).2]
        simp only [Bool.or_eq_false_iff, Bool.not_eq_false'] at hb
        obtain ⟨rfl, hs⟩ := hb
        rw [hs]
        show dep l (j2 + 1) = _
        rw [dep_sign (show sgn l j2 false = [58] by simpa using hs) (by simp) (by simp) (by simp), (q7 rfl).2, hd, (p7 rfl).2]
    cases c with
    | true =>
      obtain ⟨v2, u2, j2, b2, X3, X4, q1, q2, q3, s1, s2, v3, u3, j3, b3, X5, r1, r2, r3, r4, r5, r6, r7⟩ := key (!(v == 0)) (v == 0)
      simp only [if_true, q1, q2, bind_some', s1, s2, G_fails, r1, r2]
      cases v == 0 <;> cases u2 <;> exact ⟨_, _, j3, b3, X5, rfl, rfl, by assumption, r4, r5, r6, r7⟩
    | false =>
      obtain ⟨v2, u2, j2, b2, X3, X4, q1, q2, q3, s1, s2, v3, u3, j3, b3, X5, r1, r2, r3, r4, r5, r6, r7⟩ := key false false
      simp only [Bool.false_eq_true, if_false, q1, q2, bind_some', s1, s2, G_fails, r1, r2]
      cases v == 0 <;> cases u2 <;> exact ⟨_, _, j3, b3, X5, rfl, rfl, by assumption, r4, r5, r6, r7⟩
  · have e : (sgn l j1 b1 == [63]) = false := by simpa using h1
    rw [e] at t3 ⊢
    simp only [Bool.not_false, if_true]
    exact ⟨v, u, j1, b1, X2, rfl, rfl, p3, p4, p5, p6, fun h => ⟨t3 h, (p7 h).2⟩⟩
end
theorem side_all {l M : List T_api_Tok} {q : Nat} (C : Lexd l) (A : At l M q) : ∀ k1 k2, Side l M q k1 k2
  | 0, _ => ⟨fun _ _ _ _ _ _ h => absurd h (by omega), fun _ _ _ _ _ _ _ _ h => absurd h (by omega), fun _ _ _ _ _ _ h => absurd h (by omega), fun _ _ _ _ _ _ h => absurd h (by omega)⟩
  | _ + 1, 0 => ⟨fun _ _ _ _ _ _ _ h => absurd h (by omega), fun _ _ _ _ _ _ _ _ _ h => absurd h (by omega), fun _ _ _ _ _ _ _ h => absurd h (by omega), fun _ _ _ _ _ _ _ h => absurd h (by omega)⟩
  | k1 + 1, k2 + 1 => have S := side_all C A k1 k2; ⟨side_choice C A S, side_chain C A S, side_unary A S, side_atom C A S⟩
theorem atom_closed {l M : List T_api_Tok} {q : Nat} (C : Clo l) (A : At l M (q + 1)) (h40 : sgn M q false = [40]) (h41 : sgn M (q + 1 + l.length) false = [41]) {k1 k2 : Nat} (hk1 : 4 * l.length + 4 ≤ k1) (hk2 : 4 * l.length + 5 ≤ k2) :
    ∃ v u e, G_cond_Eval k1 l = some (v, u, e) ∧ ((e = 0 ∧ U64 v ∧ (Rec_cond_eval_choice.lvl k2).cond_eval_atom ⟨M.drop q, false⟩ true = some (⟨v, u⟩, ⟨M.drop (q + l.length + 2), false⟩)) ∨
      (v = 0 ∧ u = false ∧ e = 50 ∧ ∃ w uw X, U64 w ∧ (Rec_cond_eval_choice.lvl k2).cond_eval_atom ⟨M.drop q, false⟩ true = some (⟨w, uw⟩, ⟨X, true⟩))) := by
  obtain ⟨k2, rfl⟩ : ∃ k', k2 = k' + 1 := ⟨k2 - 1, by omega⟩
  obtain ⟨v, u, j', b', X, p1, p2, p3, p4, p5, p6, p7⟩ := (side_all C.toLexd A k1 k2).choice 0 false (M.drop (q + 1)) true (Nat.zero_le _) (fun _ => rfl) (by omega) (by omega)
  have p1 : G_cond_eval_choice k1 ⟨l, false⟩ true = _ := p1
  have hat : (Rec_cond_eval_choice.lvl (k2 + 1)).cond_eval_atom ⟨M.drop q, false⟩ true = G_cond_eval_atom_b (Rec_cond_eval_choice.lvl k2) ⟨M.drop q, false⟩ true := rfl
  rw [hat]
  unfold G_cond_Eval G_cond_eval_atom_b
  rw [take_yes (by simp) h40, p1, bind_some', bind_some']
  simp only [if_true]
  rw [p2, bind_some']
  simp only []
  cases b' with
  | true =>
    rw [take_bad (by simp), bind_some']
    simp only [G_fails, bind_some', Bool.true_or]
    exact ⟨0, false, 50, rfl, .inr ⟨rfl, rfl, rfl, v, u, X, p3, rfl⟩⟩
  | false =>
    obtain ⟨rfl, hd⟩ := p7 rfl
    have hd0 : dep l j' = 0 := hd
    rcases Nat.lt_or_ge j' l.length with hlt | hge
    · have hno : sgn M (q + 1 + j') false ≠ [41] := by
        intro h
        rw [sgn_in A hlt] at h
        obtain ⟨_, _, t, ht, _, hS⟩ := sgn_lt h (by simp)
        have h1 := dep_succ ht
        rw [hd0, db, if_neg (by rw [hS]; decide), if_pos hS] at h1
        have := C.pos (j' + 1) (by omega)
        omega
      rw [take_no (by simp) hno, bind_some']
      simp only [G_fails, bind_some']
      have e : decide ((0 : Int) < (((l.drop j').length : Nat) : Int)) = true := by simp; omega
      rw [if_neg (by simp), if_pos e]
      exact ⟨0, false, 50, rfl, .inr ⟨rfl, rfl, rfl, v, u, _, p3, rfl⟩⟩
    · have ej : j' = l.length := by omega
      subst ej
      rw [take_yes (by simp) h41, bind_some']
      simp only [G_fails, bind_some']
      have e : decide ((0 : Int) < (((l.drop l.length).length : Nat) : Int)) = false := by simp
      rw [if_neg (by simp), e]
      refine ⟨v, u, 0, rfl, .inl ⟨rfl, p3, ?_⟩⟩
      rw [show q + 1 + l.length + 1 = q + l.length + 2 by omega]
      rfl
end Go.Proofs.YtmngkcpobmhnoaaGreatDoor.Sim.Pl
