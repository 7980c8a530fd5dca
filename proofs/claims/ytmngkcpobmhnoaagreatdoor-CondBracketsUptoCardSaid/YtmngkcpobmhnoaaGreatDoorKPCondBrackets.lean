/- The plain law of CondBrackets. -/
import Derived.Test.YtmngkcpobmhnoaaGreatDoorKPSide
import Derived.Test.YtmngkcpobmhnoaaGreatDoorKPl3
set_option linter.all false
namespace Go.Proofs.YtmngkcpobmhnoaaGreatDoor.Sim.Pl
open Go.Proofs
theorem next_br (c : UInt8) (r : Bytes) (h : c = 40 ∨ c = 41) : (nextS c r).1 = 5 := by
  have k : ∀ c : UInt8, c = 40 ∨ c = 41 → letB c = false ∧ digB c = false ∧ c ≠ 46 ∧ c ≠ 34 ∧ c ≠ 39 := by rintro c (rfl | rfl) <;> decide
  obtain ⟨k1, k2, k3, k4, k5⟩ := k c h
  have h46 : (c == 46) = false := by simpa using k3
  have hn : numB c r = false := by simp [numB, k2, h46]
  have h1 : ([c] : Bytes) ∈ signsL := by rcases h with rfl | rfl <;> decide
  have hsg : ∀ n, sgL (c :: r) (n + 1) ≠ 0 := by
    intro n
    induction n with
    | zero =>
      have e : (c :: r).take (0 + 1) = [c] := rfl
      rw [sgL, e, if_pos h1]; simp
    | succ n ih =>
      rw [sgL]
      split
      · simp
      · exact ih
  have hS : signS (c :: r) ≠ 0 := by
    unfold signS
    obtain ⟨m, hm⟩ : ∃ m, min 3 (c :: r).length = m + 1 := ⟨min 3 (c :: r).length - 1, by simp only [List.length_cons]; omega⟩
    rw [hm]
    exact hsg m
  unfold nextS
  rw [k1, hn]
  simp [k4, k5, hS]
def BrOK (t : T_api_Tok) : Prop := t.Kind_ ≠ 5 → t.S_ ≠ [40] ∧ t.S_ ≠ [41]
theorem lexL_br (n : Int) : ∀ (k : Nat) (o : Bool) (f : Int) (sp fi : Bool) (out : List T_api_Tok) (s : Bytes) (out' : List T_api_Tok) (o' : Bool) (f' : Int) (sp' fi' : Bool), lexL n k o f sp fi out s = .ok out' o' f' sp' fi' →
    (∀ t ∈ out, BrOK t) → ∀ t ∈ out', BrOK t := by
  intro k
  induction k with
  | zero => intro o f sp fi out s out' o' f' sp' fi' h hm; cases h; exact hm
  | succ k ih =>
    intro o f sp fi out s out' o' f' sp' fi' h hm
    simp only [lexL] at h
    generalize skipS n o f sp s = Q at h
    obtain ⟨R, o1, f1, sp1⟩ := Q
    cases R with
    | nil => cases h; exact hm
    | cons c r =>
      simp only at h
      split at h
      · cases h
      · rename_i h0
        split at h
        · cases h
        · refine ih _ _ _ _ _ _ _ _ _ _ _ h ?_
          intro t ht
          rcases List.mem_append.1 ht with ht | ht
          · exact hm t ht
          · rw [List.mem_singleton] at ht
            subst ht
            intro hk
            obtain ⟨m, hm⟩ : ∃ m, (nextS c r).2 = m + 1 := ⟨(nextS c r).2 - 1, by omega⟩
            have hk : (((nextS c r).1 : Nat) : Int) ≠ 5 := hk
            have no : ∀ d, (d = 40 ∨ d = 41) → (c :: r).take (nextS c r).2 ≠ [d] := by
              intro d hd e
              rw [hm, List.take_succ_cons] at e
              have hcd : c = d := (List.cons.inj e).1
              have := next_br c r (by rw [hcd]; exact hd)
              rw [this] at hk
              exact hk rfl
            exact ⟨no 40 (.inl rfl), no 41 (.inr rfl)⟩
theorem lexed_ok (s : Bytes) (hs : s.length ≤ 16777216) : ∃ l, G_burinlaw05_lexed s = some l ∧ l.length ≤ 20000 ∧ (∀ t ∈ l, t.S_.length ≤ s.length) ∧ ∀ t ∈ l, BrOK t := by
  have e : G_token_Lex ([(T_api_Line.mk (1 : Int) s)] : List T_api_Line) = _ := G_Lex1 s (by omega)
  refine ⟨(lexR (lex1 s)).1, by unfold G_burinlaw05_lexed; rw [e, bind_some'], ?_⟩
  cases h : lex1 s with
  | inr p => exact ⟨by simp [lexR], by simp [lexR], by simp [lexR]⟩
  | inl out =>
    obtain ⟨k1, k2⟩ := lex1_len h
    refine ⟨k1, k2, ?_⟩
    unfold lex1 at h
    simp only [lexLs] at h
    cases hx : lexL 1 (s.length + 1) false 0 false true [] s with
    | quote => simp [hx] at h
    | many => simp [hx] at h
    | ok out' o' f' sp' fi' =>
      simp [hx] at h
      cases o' with
      | true => simp at h
      | false =>
        simp at h
        subst h
        exact lexL_br 1 _ _ _ _ _ _ _ _ _ _ _ _ hx (by simp)

theorem db_le (t : T_api_Tok) : -1 ≤ db t ∧ db t ≤ 1 := by
  unfold db
  split
  · omega
  · split <;> omega
theorem dep_le (l : List T_api_Tok) : ∀ j, j ≤ l.length → dep l j ≤ j := by
  intro j
  induction j with
  | zero => intro _; exact Int.le_refl _
  | succ j ih =>
    intro h
    have hg := List.getElem?_eq_getElem (show j < l.length by omega)
    rw [dep_succ hg]
    have := (db_le l[j]).2
    have := ih (by omega)
    omega
theorem closed_loop (l : List T_api_Tok) (hl : l.length ≤ 16777216) : ∀ m j, l.length - j ≤ m → j ≤ l.length → (∀ i, i ≤ j → 0 ≤ dep l i) →
    ∃ R, loopO (G_burinlaw05_closed_L1 l) (dep l j, (j : Int)) = some R ∧ (R = .a () ∨ (R = .b (dep l l.length) ∧ ∀ i, i ≤ l.length → 0 ≤ dep l i)) := by
  have fin : (∀ i, i ≤ l.length → 0 ≤ dep l i) → ∃ R, loopO (G_burinlaw05_closed_L1 l) (dep l l.length, (l.length : Int)) = some R ∧ (R = .a () ∨ (R = .b (dep l l.length) ∧ ∀ i, i ≤ l.length → 0 ≤ dep l i)) := by
    intro h
    refine ⟨_, loopO_inr (x := Ex2.b (dep l l.length)) ?_, .inr ⟨rfl, h⟩⟩
    have e : decide (((l.length : Nat) : Int) < ((l.length : Nat) : Int)) = false := by simp
    simp only [G_burinlaw05_closed_L1, e]
    rfl
  intro m
  induction m with
  | zero =>
    intro j hm hj hi
    have e : j = l.length := by omega
    subst e
    exact fin hi
  | succ m ih =>
    intro j hm hj hi
    rcases Nat.lt_or_ge j l.length with hlt | hge
    · have hg := List.getElem?_eq_getElem hlt
      have hd := dep_succ hg
      have h0 := hi j (Nat.le_refl _)
      have h1 := dep_le l j hj
      have e : decide ((j : Int) < ((l.length : Nat) : Int)) = true := by simp; omega
      have e4 : idx l (j : Int) = some l[j] := by rw [idx_nat]; exact hg
      have e5 : IntKind.wrap .i64 ((j : Int) + 1) = ((j + 1 : Nat) : Int) := by rw [wi (by omega) (by omega)]; rfl
      generalize l[j] = t at hd e4
      have go : 0 ≤ dep l (j + 1) → G_burinlaw05_closed_L1 l (dep l j, (j : Int)) = some (Sum.inl (dep l (j + 1), ((j + 1 : Nat) : Int))) → ∃ R, loopO (G_burinlaw05_closed_L1 l) (dep l j, (j : Int)) = some R ∧ (R = .a () ∨ (R = .b (dep l l.length) ∧ ∀ i, i ≤ l.length → 0 ≤ dep l i)) := by
        intro hp hst
        rw [loopO_inl hst]
        refine ih (j + 1) (by omega) (by omega) ?_
        intro i hi'
        rcases Nat.lt_or_ge i (j + 1) with h | h
        · exact hi i (by omega)
        · have : i = j + 1 := by omega
          rw [this]; exact hp
      by_cases s40 : t.S_ = [40]
      · rw [db, if_pos s40] at hd
        have k1 : (t.S_ == ([40] : Bytes)) = true := by simpa using s40
        have k2 : (t.S_ == ([41] : Bytes)) = false := by rw [s40]; rfl
        have w : IntKind.wrap .i64 (dep l j + 1) = dep l (j + 1) := by rw [wi (by omega) (by omega), hd]
        have n0 : decide (dep l (j + 1) < 0) = false := by simp; omega
        refine go (by omega) ?_
        simp only [G_burinlaw05_closed_L1, e, e4, bind_some', k1, k2, if_true, Bool.false_eq_true, if_false, w, n0, e5]
      · have k1 : (t.S_ == ([40] : Bytes)) = false := by simpa using s40
        by_cases s41 : t.S_ = [41]
        · rw [db, if_neg s40, if_pos s41] at hd
          have k2 : (t.S_ == ([41] : Bytes)) = true := by simpa using s41
          have w : IntKind.wrap .i64 (dep l j - 1) = dep l (j + 1) := by rw [wi (by omega) (by omega), hd]; omega
          by_cases hn : dep l (j + 1) < 0
          · have n0 : decide (dep l (j + 1) < 0) = true := by simpa using hn
            refine ⟨_, loopO_inr (x := Ex2.a ()) ?_, .inl rfl⟩
            simp only [G_burinlaw05_closed_L1, e, e4, bind_some', k1, k2, if_true, Bool.false_eq_true, if_false, w, n0, e5]
          · have n0 : decide (dep l (j + 1) < 0) = false := by simpa using hn
            refine go (by omega) ?_
            simp only [G_burinlaw05_closed_L1, e, e4, bind_some', k1, k2, if_true, Bool.false_eq_true, if_false, w, n0, e5]
        · rw [db, if_neg s40, if_neg s41, Int.add_zero] at hd
          have k2 : (t.S_ == ([41] : Bytes)) = false := by simpa using s41
          have n0 : decide (dep l j < 0) = false := by simp; omega
          refine go (by omega) ?_
          simp only [G_burinlaw05_closed_L1, e, e4, bind_some', k1, k2, if_true, Bool.false_eq_true, if_false, n0, e5, hd]
    · have e : j = l.length := by omega
      subst e
      exact fin hi
theorem closed_ok (l : List T_api_Tok) (hl : l.length ≤ 16777216) : ∃ r, G_burinlaw05_closed l = some r ∧ (r = true → (∀ j, j ≤ l.length → 0 ≤ dep l j) ∧ dep l l.length = 0) := by
  obtain ⟨R, h, hR⟩ := closed_loop l hl _ 0 (Nat.le_refl _) (Nat.zero_le _) (fun i hi => by rw [show i = 0 by omega]; exact Int.le_refl _)
  have h : loopO (G_burinlaw05_closed_L1 l) ((0 : Int), (0 : Int)) = some R := h
  unfold G_burinlaw05_closed
  rw [h, bind_some']
  rcases hR with rfl | ⟨rfl, hp⟩
  · exact ⟨false, rfl, fun h => by cases h⟩
  · exact ⟨_, rfl, fun h => ⟨hp, by simpa using h⟩⟩

section
variable {L : List T_api_Tok} {j k : Nat} {c : Bool} {r : T_cond_value} {p : T_cond_eval}
theorem un_plus (h : sgn L j false = [43]) (ha : (Rec_cond_eval_choice.lvl k).cond_eval_unary ⟨L.drop (j + 1), false⟩ c = some (r, p)) : (Rec_cond_eval_choice.lvl (k + 1)).cond_eval_unary ⟨L.drop j, false⟩ c = some (r, p) := by
  show G_cond_eval_unary_b (Rec_cond_eval_choice.lvl k) ⟨L.drop j, false⟩ c = _
  unfold G_cond_eval_unary_b
  rw [take_yes (by simp) h, bind_some']
  simp only [if_true, ha, bind_some']
theorem un_neg (h : sgn L j false = [45]) (ha : (Rec_cond_eval_choice.lvl k).cond_eval_unary ⟨L.drop (j + 1), false⟩ c = some (r, p)) : (Rec_cond_eval_choice.lvl (k + 1)).cond_eval_unary ⟨L.drop j, false⟩ c = some (⟨IntKind.wrap .u64 (0 - r.v_), r.u_⟩, p) := by
  show G_cond_eval_unary_b (Rec_cond_eval_choice.lvl k) ⟨L.drop j, false⟩ c = _
  unfold G_cond_eval_unary_b
  rw [take_no (by simp) (by rw [h]; simp), bind_some']
  simp only [Bool.false_eq_true, if_false]
  rw [take_yes (by simp) h, bind_some']
  simp only [if_true, ha, bind_some']
theorem un_cpl (h : sgn L j false = [126]) (ha : (Rec_cond_eval_choice.lvl k).cond_eval_unary ⟨L.drop (j + 1), false⟩ c = some (r, p)) : (Rec_cond_eval_choice.lvl (k + 1)).cond_eval_unary ⟨L.drop j, false⟩ c = some (⟨bxor .u64 (if IntKind.signed .u64 = true then -1 else IntKind.max .u64) r.v_, r.u_⟩, p) := by
  show G_cond_eval_unary_b (Rec_cond_eval_choice.lvl k) ⟨L.drop j, false⟩ c = _
  unfold G_cond_eval_unary_b
  rw [take_no (by simp) (by rw [h]; simp), bind_some']
  simp only [Bool.false_eq_true, if_false]
  rw [take_no (by simp) (by rw [h]; simp), bind_some']
  simp only [Bool.false_eq_true, if_false]
  rw [take_yes (by simp) h, bind_some']
  simp only [if_true, ha, bind_some']
theorem un_br (h : sgn L j false = [40]) {o : T_cond_value × T_cond_eval} (ha : (Rec_cond_eval_choice.lvl k).cond_eval_atom ⟨L.drop j, false⟩ c = some o) : (Rec_cond_eval_choice.lvl (k + 1)).cond_eval_unary ⟨L.drop j, false⟩ c = some o :=
  ev_unary (by rw [h]; simp) (by rw [h]; simp) (by rw [h]; simp) (by rw [h]; simp) ha
theorem eval_last {v : Int} {u b : Bool} {X : List T_api_Tok} (hu : (Rec_cond_eval_choice.lvl k).cond_eval_unary ⟨L.drop 0, false⟩ true = some (⟨v, u⟩, ⟨X, b⟩)) (hX : b = false → X = []) :
    G_cond_Eval (k + 2) L = some (if b then (0, false, 50) else (v, u, 0)) := by
  have hs : G_cond_eval_sign ⟨X, b⟩ = some ([], ⟨X, b⟩) := by
    cases b with
    | true => rfl
    | false => rw [hX rfl]; rfl
  have ht : G_cond_eval_take ⟨X, b⟩ [63] = some (false, ⟨X, b⟩) := by
    rw [G_cond_eval_take, hs, bind_some']; rfl
  have hc : (Rec_cond_eval_choice.lvl (k + 1)).cond_eval_chain ⟨L.drop 0, false⟩ ((1 : Nat) : Int) true = some (⟨v, u⟩, ⟨X, b⟩) := by
    show G_cond_eval_chain_b (Rec_cond_eval_choice.lvl k) ⟨L.drop 0, false⟩ ((1 : Nat) : Int) true = _
    unfold G_cond_eval_chain_b
    rw [hu, bind_some']
    simp only []
    rw [chain_stop hs (.inl rfl), bind_some']
  have h : G_cond_eval_choice (k + 2) ⟨L, false⟩ true = some (⟨v, u⟩, ⟨X, b⟩) := by
    show G_cond_eval_choice_b (Rec_cond_eval_choice.lvl (k + 1)) ⟨L.drop 0, false⟩ true = _
    unfold G_cond_eval_choice_b
    rw [show (1 : Int) = ((1 : Nat) : Int) from rfl, hc, bind_some']
    simp only []
    rw [ht, bind_some']
    rfl
  unfold G_cond_Eval
  rw [h, bind_some']
  cases b with
  | true => rfl
  | false => rw [hX rfl]; rfl
end
theorem neg_neg (v : Int) (h : U64 v) : IntKind.wrap .u64 (0 - IntKind.wrap .u64 (0 - v)) = v := by
  obtain ⟨h1, h2⟩ := h
  simp only [IntKind.wrap, IntKind.bits, IntKind.signed]
  simp
  omega
theorem cpl_cpl (v : Int) (h : U64 v) : bxor .u64 (if IntKind.signed .u64 = true then -1 else IntKind.max .u64) (bxor .u64 (if IntKind.signed .u64 = true then -1 else IntKind.max .u64) v) = v := by
  obtain ⟨n, rfl⟩ := Int.eq_ofNat_of_zero_le h.1
  have hn : n < 2 ^ 64 := by have := h.2; omega
  have e : ∀ m : Nat, m < 2 ^ 64 → bxor .u64 (if IntKind.signed .u64 = true then -1 else IntKind.max .u64) (m : Int) = ((2 ^ 64 - 1 - m : Nat) : Int) := by
    intro m hm
    have e1 : (if IntKind.signed .u64 = true then (-1 : Int) else IntKind.max .u64) = 18446744073709551615 := by decide
    rw [e1]
    unfold bxor
    have e2 : (BitVec.ofInt (IntKind.bits .u64) 18446744073709551615 ^^^ BitVec.ofInt (IntKind.bits .u64) (m : Int)).toNat = 2 ^ 64 - 1 - m := by
      have e3 : BitVec.ofInt (IntKind.bits .u64) 18446744073709551615 = BitVec.allOnes 64 := (by decide : BitVec.ofInt 64 18446744073709551615 = BitVec.allOnes 64)
      rw [e3]
      show (BitVec.allOnes 64 ^^^ BitVec.ofInt 64 (m : Int)).toNat = _
      rw [BitVec.allOnes_xor, BitVec.toNat_not, BitVec.ofInt_natCast, BitVec.toNat_ofNat, Nat.mod_eq_of_lt hm]
    rw [e2, wu (by omega) (by omega)]
  have hn' : n < 2 ^ 64 := hn
  rw [e n hn', e _ (by omega)]
  omega
def tk (s : Bytes) : T_api_Tok := ⟨5, s, [], 0, false, false⟩
theorem at_of (pre l : List T_api_Tok) : At l (pre ++ (tk [40] :: (l ++ [tk [41]]))) (pre.length + 1) where
  same := by
    intro j hj
    rw [List.getElem?_append_right (by omega), show pre.length + 1 + j - pre.length = j + 1 by omega, List.getElem?_cons_succ, List.getElem?_append_left hj]
  stop := by
    refine ⟨tk [41], ?_, rfl, rfl⟩
    rw [List.getElem?_append_right (by omega), show pre.length + 1 + l.length - pre.length = l.length + 1 by omega, List.getElem?_cons_succ, List.getElem?_append_right (Nat.le_refl _)]
    simp
theorem sgn_of (pre post : List T_api_Tok) (s : Bytes) : sgn (pre ++ tk s :: post) pre.length false = s := by
  refine sgn_p (t := tk s) ?_ rfl
  rw [List.getElem?_append_right (Nat.le_refl _)]
  simp
theorem drop_of (pre l : List T_api_Tok) : (pre ++ (tk [40] :: (l ++ [tk [41]]))).drop (pre.length + l.length + 2) = [] := by
  refine List.drop_eq_nil_of_le ?_
  simp; omega
theorem brackets_say {l : List T_api_Tok} (C : Clo l) : ∃ r, let K := 4 * l.length + 60
    G_cond_Eval K l = some r ∧ G_cond_Eval K (tk [40] :: (l ++ [tk [41]])) = some r ∧ G_cond_Eval K (tk [45] :: tk [45] :: tk [40] :: (l ++ [tk [41]])) = some r ∧ G_cond_Eval K (tk [126] :: tk [43] :: tk [126] :: tk [40] :: (l ++ [tk [41]])) = some r := by
  have a1 := atom_closed (q := 0) (k1 := 4 * l.length + 60) (k2 := 4 * l.length + 57) C (at_of [] l) (sgn_of [] _ _) (by omega) (by omega)
  have a2 := atom_closed (q := 2) (k1 := 4 * l.length + 60) (k2 := 4 * l.length + 55) C (at_of [tk [45], tk [45]] l) (sgn_of [tk [45], tk [45]] _ _) (by omega) (by omega)
  have a3 := atom_closed (q := 3) (k1 := 4 * l.length + 60) (k2 := 4 * l.length + 54) C (at_of [tk [126], tk [43], tk [126]] l) (sgn_of [tk [126], tk [43], tk [126]] _ _) (by omega) (by omega)
  have d1 := drop_of [] l
  have d2 := drop_of [tk [45], tk [45]] l
  have d3 := drop_of [tk [126], tk [43], tk [126]] l
  simp only [List.nil_append, List.cons_append, List.length_nil, List.length_cons] at a1 a2 a3 d1 d2 d3
  generalize hM1 : tk [40] :: (l ++ [tk [41]]) = M1 at *
  generalize hM2 : tk [45] :: tk [45] :: M1 = M2 at *
  generalize hM3 : tk [126] :: tk [43] :: tk [126] :: M1 = M3 at *
  have z1 : sgn M1 0 false = [40] := by subst hM1; rfl
  have z20 : sgn M2 0 false = [45] := by subst hM2; rfl
  have z21 : sgn M2 1 false = [45] := by subst hM2; rfl
  have z22 : sgn M2 2 false = [40] := by subst hM2 hM1; rfl
  have z30 : sgn M3 0 false = [126] := by subst hM3; rfl
  have z31 : sgn M3 1 false = [43] := by subst hM3; rfl
  have z32 : sgn M3 2 false = [126] := by subst hM3; rfl
  have z33 : sgn M3 3 false = [40] := by subst hM3 hM1; rfl
  obtain ⟨v, u, e, b0, b1⟩ := a1
  obtain ⟨v', u', e', b0', b2⟩ := a2
  obtain ⟨v'', u'', e'', b0'', b3⟩ := a3
  rw [b0] at b0' b0''
  cases b0'
  cases b0''
  have L1 : 4 * l.length + 60 = 4 * l.length + 57 + 1 + 2 := rfl
  have L2 : 4 * l.length + 60 = 4 * l.length + 55 + 1 + 1 + 1 + 2 := rfl
  have L3 : 4 * l.length + 60 = 4 * l.length + 54 + 1 + 1 + 1 + 1 + 2 := rfl
  refine ⟨(v, u, e), b0, ?_, ?_, ?_⟩
  · rw [L1]
    rcases b1 with ⟨rfl, hu, b1⟩ | ⟨rfl, rfl, rfl, w, uw, X, hu, b1⟩
    · have := eval_last (un_br z1 b1) (fun _ => by simpa using d1)
      rw [this]; rfl
    · have := eval_last (un_br z1 b1) (fun h => by cases h)
      rw [this]; rfl
  · rw [L2]
    rcases b2 with ⟨rfl, hu, b2⟩ | ⟨rfl, rfl, rfl, w, uw, X, hu, b2⟩
    · have := eval_last (un_neg z20 (un_neg z21 (un_br z22 b2))) (fun _ => by simpa using d2)
      rw [this]
      simp only [neg_neg v hu]
      rfl
    · have := eval_last (un_neg z20 (un_neg z21 (un_br z22 b2))) (fun h => by cases h)
      rw [this]; rfl
  · rw [L3]
    rcases b3 with ⟨rfl, hu, b3⟩ | ⟨rfl, rfl, rfl, w, uw, X, hu, b3⟩
    · have := eval_last (un_cpl z30 (un_plus z31 (un_cpl z32 (un_br z33 b3)))) (fun _ => by simpa using d3)
      rw [this]
      simp only [cpl_cpl v hu]
      rfl
    · have := eval_last (un_cpl z30 (un_plus z31 (un_cpl z32 (un_br z33 b3)))) (fun h => by cases h)
      rw [this]; rfl
theorem app_small {L M : List T_api_Tok} (h : L.length + M.length ≤ 100000) : app 56 L M = some (L ++ M) := by
  unfold app
  rw [if_pos (by omega)]
theorem condBrackets_true (s : Bytes) (hs : s.length ≤ 1048576) : ∃ k, G_burinlaw05_CondBrackets k s = some true := by
  have hsub : subT s (if (1000 : Int) < ((List.length s : Nat) : Int) then (1000 : Int) else ((List.length s : Nat) : Int)) = some (s.take 1000) := by
    split
    · rename_i h; exact subT_nat (n := 1000) (by omega)
    · rename_i h; rw [subT_len, List.take_of_length_le (by omega)]
  have hl : (s.take 1000).length ≤ 1000 := by simp; omega
  obtain ⟨l, h1, h2, h3, h4⟩ := lexed_ok (s.take 1000) (by omega)
  obtain ⟨r, c1, c2⟩ := closed_ok l (by omega)
  refine ⟨4 * l.length + 60, ?_⟩
  unfold G_burinlaw05_CondBrackets
  rw [show G_burinlaw05_shown = some true from rfl, bind_some', hsub, bind_some', h1, bind_some', c1, bind_some']
  cases r with
  | false => rfl
  | true =>
    obtain ⟨p1, p2⟩ := c2 rfl
    have C : Clo l := ⟨⟨by omega, fun t ht => by have := h3 t ht; omega⟩, h4, p1, p2⟩
    obtain ⟨⟨v, u, e⟩, e1, e2, e3, e4⟩ := brackets_say C
    have g : ∀ s, G_burinlaw05_sign s = some (tk s) := fun _ => rfl
    simp only [Bool.not_true, Bool.false_eq_true, if_false, e1, bind_some', g]
    rw [app_small (by simp; omega), bind_some', app_small (by simp; omega), bind_some']
    simp only [List.cons_append, List.nil_append, e2, bind_some']
    rw [app_small (by simp; omega), bind_some']
    simp only [List.cons_append, List.nil_append, e3, bind_some']
    rw [app_small (by simp; omega), bind_some']
    simp only [List.cons_append, List.nil_append, e4, bind_some', beq_self_eq_true, if_true]
end Go.Proofs.YtmngkcpobmhnoaaGreatDoor.Sim.Pl
