/- The plain law of CondBrackets. -/
import Derived.Test.YtmngkcpobmhnoaaGreatDoorKPSide
import Derived.Test.YtmngkcpobmhnoaaGreatDoorKPl3
set_option linter.all false
namespace Go.Proofs.YtmngkcpobmhnoaaGreatDoor.Sim.Pl
open Go.Proofs
theorem next_br (c : UInt8) (r : Bytes) (h : c = 40 ∨ c = 41) : (nextS c r).1 = 5 := by
  have k : ∀ c : UInt8, c = 40 ∨ c = 41 → letB c = false ∧ digB c = false ∧ c ≠ 46 ∧ c ≠ 34 ∧ c ≠ 39 := by rintro c (rfl | rfl) <;> decide
  obtain ⟨k1, k2, k3, k4, k5⟩ := k c h
  have h46 : (c == 46) = false := by simpa using k3
  have hn : numB c r = false := by simp [numB, k2, h46]
  have h1 : ([c] : Bytes) ∈ signsL := by rcases h with rfl | rfl <;> decide
  have hsg : ∀ n, sgL (c :: r) (n + 1) ≠ 0 := by
    intro n
    induction n with
    | zero =>
      have e : (c :: r).take (0 + 1) = [c] := rfl
      rw [sgL, e, if_pos h1]; simp
    | succ n ih =>
      rw [sgL]
      split
      · simp
      · exact ih
  have hS : signS (c :: r) ≠ 0 := by
    unfold signS
    obtain ⟨m, hm⟩ : ∃ m, min 3 (c :: r).length = m + 1 := ⟨min 3 (c :: r).length - 1, by simp only [List.length_cons]; omega⟩
    rw [hm]
    exact hsg m
  unfold nextS
  rw [k1, hn]
  simp [k4, k5, hS]
def BrOK (t : T_api_Tok) : Prop := t.Kind_ ≠ 5 → t.S_ ≠ [40] ∧ t.S_ ≠ [41]
theorem lexL_br (n : Int) : ∀ (k : Nat) (o : Bool) (f : Int) (sp fi : Bool) (out : List T_api_Tok) (s : Bytes) (out' : List T_api_Tok) (o' : Bool) (f' : Int) (sp' fi' : Bool), lexL n k o f sp fi out s = .ok out' o' f' sp' fi' →
    (∀ t ∈ out, BrOK t) → ∀ t ∈ out', BrOK t := by
  intro k
  induction k with
  | zero => intro o f sp fi out s out' o' f' sp' fi' h hm; cases h; exact hm
  | succ k ih =>
    intro o f sp fi out s out' o' f' sp' fi' h hm
    simp only [lexL] at h
    generalize skipS n o f sp s = Q at h
    obtain ⟨R, o1, f1, sp1⟩ := Q
    cases R with
    | nil => cases h; exact hm
    | cons c r =>
      simp only at h
      split at h
      · cases h
      · rename_i h0
        split at h
        · cases h
        · refine ih _ _ _ _ _ _ _ _ _ _ _ h ?_
          intro t ht
          rcases List.mem_append.1 ht with ht | ht
          · exact hm t ht
          · rw [List.mem_singleton] at ht
            subst ht
            intro hk
            obtain ⟨m, hm⟩ : ∃ m, (nextS c r).2 = m + 1 := ⟨(nextS c r).2 - 1, by omega⟩
            have hk : (((nextS c r).1 : Nat) : Int) ≠ 5 := hk
            have no : ∀ d, (d = 40 ∨ d = 41) → (c :: r).take (nextS c r).2 ≠ [d] := by
              intro d hd e
              rw [hm, List.take_succ_cons] at e
              have hcd : c = d := (List.cons.inj e).1
              have := next_br c r (by rw [hcd]; exact hd)
              rw [this] at hk
              exact hk rfl
            exact ⟨no 40 (.inl rfl), no 41 (.inr rfl)⟩
theorem lexed_ok (s : Bytes) (hs : s.length ≤ 16777216) : ∃ l, G_burinlaw05_lexed s = some l ∧ l.length ≤ 20000 ∧ (∀ t ∈ l, t.S_.length ≤ s.length) ∧ ∀ t ∈ l, BrOK t := by
  have e : G_token_Lex ([(T_api_Line.mk (1 : Int) s)] : List T_api_Line) = _ := G_Lex1 s (by omega)
  refine ⟨(lexR (lex1 s)).1, by unfold G_burinlaw05_lexed; rw [e, bind_some'], ?_⟩
  cases h : lex1 s with
  | inr p => exact ⟨by simp [lexR], by simp [lexR], by simp [lexR]⟩
  | inl out =>
    obtain ⟨k1, k2⟩ := lex1_len h
    refine ⟨k1, k2, ?_⟩
    unfold lex1 at h
    simp only [lexLs] at h
    cases hx : lexL 1 (s.length + 1) false 0 false true [] s with
    | quote => simp [hx] at h
    | many => simp [hx] at h
    | ok out' o' f' sp' fi' =>
      simp [hx] at h
      cases o' with
      | true => simp at h
      | false =>
        simp at h
        subst h
        exact lexL_br 1 _ _ _ _ _ _ _ _ _ _ _ _ hx (by simp)

theorem db_le (t : T_api_Tok) : -1 ≤ db t ∧ db t ≤ 1 := by
  unfold db
  split
  · omega
  · split <;> omega
theorem dep_le (l : List T_api_Tok) : ∀ j, j ≤ l.length → dep l j ≤ j := by
  intro j
  induction j with
  | zero => intro _; exact Int.le_refl _
  | succ j ih =>
    intro h
    have hg := List.getElem?_eq_getElem (show j < l.length by omega)
    rw [dep_succ hg]
    have := (db_le l[j]).2
    have := ih (by omega)
    omega
theorem closed_loop (l : List T_api_Tok) (hl : l.length ≤ 16777216) : ∀ m j, l.length - j ≤ m → j ≤ l.length → (∀ i, i ≤ j → 0 ≤ dep l i) →
    ∃ R, loopO (G_burinlaw05_closed_L1 l) (dep l j, (j : Int)) = some R ∧ (R = .a () ∨ (R = .b (dep l l.length) ∧ ∀ i, i ≤ l.length → 0 ≤ dep l i)) := by
  have fin : (∀ i, i ≤ l.length → 0 ≤ dep l i) → ∃ R, loopO (G_burinlaw05_closed_L1 l) (dep l l.length, (l.length : Int)) = some R ∧ (R = .a () ∨ (R = .b (dep l l.length) ∧ ∀ i, i ≤ l.length → 0 ≤ dep l i)) := by
    intro h
    refine ⟨_, loopO_inr (x := Ex2.b (dep l l.length)) ?_, .inr ⟨rfl, h⟩⟩
    have e : decide (((l.length : Nat) : Int) < ((l.length : Nat) : Int)) = false := by simp
    simp only [G_burinlaw05_closed_L1, e]
    rfl
  intro m
  induction m with
  | zero =>
    intro j hm hj hi
    have e : j = l.length := by omega
    subst e
    exact fin hi
  | succ m ih =>
    intro j hm hj hi
    rcases Nat.lt_or_ge j l.length with hlt | hge
    · have hg := List.getElem?_eq_getElem hlt
      have hd := dep_succ hg
      have h0 := hi j (Nat.le_refl _)
      have h1 := dep_le l j hj
      have e : decide ((j : Int) < ((l.length : Nat) : Int)) = true := by simp; omega
      have e4 : idx l (j : Int) = some l[j] := by rw [idx_nat]; exact hg
      have e5 : IntKind.wrap .i64 ((j : Int) + 1) = ((j + 1 : Nat) : Int) := by rw [wi (by omega) (by omega)]; rfl
      generalize l[j] = t at hd e4
      have go : 0 ≤ dep l (j + 1) → G_burinlaw05_closed_L1 l (dep l j, (j : Int)) = some (Sum.inl (dep l (j + 1), ((j + 1 : Nat) : Int))) → ∃ R, loopO (G_burinlaw05_closed_L1 l) (dep l j, (j : Int)) = some R ∧ (R = .a () ∨ (R = .b (dep l l.length) ∧ ∀ i, i ≤ l.length → 0 ≤ dep l i)) := by
        intro hp hst
        rw [loopO_inl hst]
        refine ih (j + 1) (by omega) (by omega) ?_
        intro i hi'
        rcases Nat.lt_or_ge i (j + 1) with h | h
        · exact hi i (by omega)
        · have : i = j + 1 := by omega
          rw [this]; exact hp
      by_cases s40 : t.S_ = [40]
      · rw [db, if_pos s40] at hd
        have k1 : (t.S_ == ([40] : Bytes)) = true := by simpa using s40
        have k2 : (t.S_ == ([41] : Bytes)) = false := by rw [s40]; rfl
        have w : IntKind.wrap .i64 (dep l j + 1) = dep l (j + 1) := by rw [wi (by omega) (by omega), hd]
        have n0 : decide (dep l (j + 1) < 0) = false := by simp; omega
        refine go (by omega) ?_
        simp only [G_burinlaw05_closed_L1, e, e4, bind_some', k1, k2, if_true, Bool.false_eq_true, if_false, w, n0, e5]
      · have k1 : (t.S_ == ([40] : Bytes)) = false := by simpa using s40
        by_cases s41 : t.S_ = [41]
        · rw [db, if_neg s40, if_pos s41] at hd
          have k2 : (t.S_ == ([41] : Bytes)) = true := by simpa using s41
          have w : IntKind.wrap .i64 (dep l j - 1) = dep l (j + 1) := by rw [wi (by omega) (by omega), hd]; omega
          by_cases hn : dep l (j + 1) < 0
          · have n0 : decide (dep l (j + 1) < 0) = true := by simpa using hn
            refine ⟨_, loopO_inr (x := Ex2.a ()) ?_, .inl rfl⟩
            simp only [G_burinlaw05_closed_L1, e, e4, bind_some', k1, k2, if_true, Bool.false_eq_true, if_false, w, n0, e5]
          · have n0 : decide (dep l (j + 1) < 0) = false := by simpa using hn
            refine go (by omega) ?_
            simp only [G_burinlaw05_closed_L1, e, e4, bind_some', k1, k2, if_true, Bool.false_eq_true, if_false, w, n0, e5]
        · rw [db, if_neg s40, if_neg s41, Int.add_zero] at hd
          have k2 : (t.S_ == ([41] : Bytes)) = false := by simpa using s41
          have n0 : decide (dep l j < 0) = false := by simp; omega
          refine go (by omega) ?_
          simp only [G_burinlaw05_closed_L1, e, e4, bind_some', k1, k2, if_true, Bool.false_eq_true, if_false, n0, e5, hd]
    · have e : j = l.length := by omega
      subst e
      exact fin hi
theorem closed_ok (l : List T_api_Tok) (hl : l.length ≤ 16777216) : ∃ r, G_burinlaw05_closed l = some r ∧ (r = true → (∀ j, j ≤ l.length → 0 ≤ dep l j) ∧ dep l l.length = 0) := by
  obtain ⟨R, h, hR⟩ := closed_loop l hl _ 0 (Nat.le_refl _) (Nat.zero_le _) (fun i hi => by rw [show i = 0 by omega]; exact Int.le_refl _)
  have h : loopO (G_burinlaw05_closed_L1 l) ((0 : Int), (0 : Int)) = some R := h
  unfold G_burinlaw05_closed
  rw [h, bind_some']
  rcases hR with rfl | ⟨rfl, hp⟩
  · exact ⟨false, rfl, fun h => by cases h⟩
  · exact ⟨_, rfl, fun h => ⟨hp, by simpa using h⟩⟩

section
variable {L : List T_api_Tok} {j k : Nat} {c : Bool} {r : T_cond_value} {p : T_cond_eval}
theorem un_br (h : sgn L j false = [40]) {o : T_cond_value × T_cond_eval} (ha : (Rec_cond_eval_choice.lvl k).cond_eval_atom ⟨L.drop j, false⟩ c = some o) : (Rec_cond_eval_choice.lvl (k + 1)).cond_eval_unary ⟨L.drop j, false⟩ c = some o :=
  ev_unary (by rw [h]; simp) (by rw [h]; simp) (by rw [h]; simp) (by rw [h]; simp) ha
theorem eval_last {v : Int} {u b : Bool} {X : List T_api_Tok} (hu : (Rec_cond_eval_choice.lvl k).cond_eval_unary ⟨L.drop 0, false⟩ true = some (⟨v, u⟩, ⟨X, b⟩)) (hX : b = false → X = []) :
    G_cond_Eval (k + 2) L = some (if b then (0, false, 50) else (v, u, 0)) := by
  have hs : G_cond_eval_sign ⟨X, b⟩ = some ([], ⟨X, b⟩) := by
    cases b with
    | true => rfl
    | false => rw [hX rfl]; rfl
  have ht : G_cond_eval_take ⟨X, b⟩ [63] = some (false, ⟨X, b⟩) := by
    rw [G_cond_eval_take, hs, bind_some']; rfl
  have hc : (Rec_cond_eval_choice.lvl (k + 1)).cond_eval_chain ⟨L.drop 0, false⟩ ((1 : Nat) : Int) true = some (⟨v, u⟩, ⟨X, b⟩) := by
    show G_cond_eval_chain_b (Rec_cond_eval_choice.lvl k) ⟨L.drop 0, false⟩ ((1 : Nat) : Int) true = _
    unfold G_cond_eval_chain_b
    rw [hu, bind_some']
    simp only []
    rw [chain_stop hs (.inl rfl), bind_some']
  have h : G_cond_eval_choice (k + 2) ⟨L, false⟩ true = some (⟨v, u⟩, ⟨X, b⟩) := by
    show G_cond_eval_choice_b (Rec_cond_eval_choice.lvl (k + 1)) ⟨L.drop 0, false⟩ true = _
    unfold G_cond_eval_choice_b
    rw [show (1 : Int) = ((1 : Nat) : Int) from rfl, hc, bind_some']
    simp only []
    rw [ht, bind_some']
    rfl
  unfold G_cond_Eval
  rw [h, bind_some']
  cases b with
  | true => rfl
  | false => rw [hX rfl]; rfl
end
def tk (s : Bytes) : T_api_Tok := ⟨5, s, [], 0, false, false⟩
theorem at_of {l : List T_api_Tok} (C : Clo l) (pre : List T_api_Tok) : At l (pre ++ (tk [40] :: (l ++ [tk [41]]))) (pre.length + 1) where
  same := by
    intro j hj
    rw [List.getElem?_append_right (by omega), show pre.length + 1 + j - pre.length = j + 1 by omega, List.getElem?_cons_succ, List.getElem?_append_left hj]
  stop := by
    refine .inl ⟨C, tk [41], ?_, rfl, rfl⟩
    rw [List.getElem?_append_right (by omega), show pre.length + 1 + l.length - pre.length = l.length + 1 by omega, List.getElem?_cons_succ, List.getElem?_append_right (Nat.le_refl _)]
    simp
theorem sgn_of (pre post : List T_api_Tok) (s : Bytes) : sgn (pre ++ tk s :: post) pre.length false = s := by
  refine sgn_p (t := tk s) ?_ rfl
  rw [List.getElem?_append_right (Nat.le_refl _)]
  simp
theorem sgn_end (pre l : List T_api_Tok) : sgn (pre ++ (tk [40] :: (l ++ [tk [41]]))) (pre.length + 1 + l.length) false = [41] := by
  refine sgn_p (t := tk [41]) ?_ rfl
  rw [List.getElem?_append_right (by omega), show pre.length + 1 + l.length - pre.length = l.length + 1 by omega, List.getElem?_cons_succ, List.getElem?_append_right (Nat.le_refl _)]
  simp
theorem drop_of (pre l : List T_api_Tok) : (pre ++ (tk [40] :: (l ++ [tk [41]]))).drop (pre.length + l.length + 2) = [] := by
  refine List.drop_eq_nil_of_le ?_
  simp; omega
end Go.Proofs.YtmngkcpobmhnoaaGreatDoor.Sim.Pl
