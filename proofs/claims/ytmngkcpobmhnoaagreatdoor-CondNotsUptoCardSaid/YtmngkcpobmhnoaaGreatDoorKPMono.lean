/- Plain laws: what does not count says what it says where it counts. -/
import Derived.Test.YtmngkcpobmhnoaaGreatDoorKPSide
set_option linter.all false
namespace Go.Proofs.YtmngkcpobmhnoaaGreatDoor.Sim.Pl
open Go.Proofs

def Same (o o' : Option (T_cond_value × T_cond_eval)) : Prop := ∀ w Y, o = some (w, ⟨Y, false⟩) → o' = some (w, ⟨Y, false⟩)
theorem same_refl (o : Option (T_cond_value × T_cond_eval)) : Same o o := fun _ _ h => h
theorem same_bad {v : T_cond_value} {Y : List T_api_Tok} {o} : Same (some (v, ⟨Y, true⟩)) o := fun w Z h => by cases h
theorem same_ite {p : Prop} [Decidable p] {x y x' y' : Option (T_cond_value × T_cond_eval)} (h1 : Same x x') (h2 : Same y y') : Same (if p then x else y) (if p then x' else y') := by
  split
  · exact h1
  · exact h2
theorem same_bind {T : Type} {o : Option T} {f f' : T → Option (T_cond_value × T_cond_eval)} (h : ∀ x, Same (f x) (f' x)) : Same (o >>= f) (o >>= f') := by
  cases o with
  | none => exact same_refl _
  | some x => exact h x
theorem same_again {o o' : Option (T_cond_value × T_cond_eval)} (h : Same o o') : Same (o >>= fun (r, p) => some (r, p)) (o' >>= fun (r, p) => some (r, p)) := by
  intro w Y e
  cases o with
  | none => cases e
  | some x =>
    have e : some x = some (w, ⟨Y, false⟩) := e
    rw [h w Y e]; rfl
theorem same_divided {Y : List T_api_Tok} {op : Bytes} {x y : T_cond_value} : Same (G_cond_eval_divided ⟨Y, false⟩ op x y true) (G_cond_eval_divided ⟨Y, false⟩ op x y false) := by
  unfold G_cond_eval_divided
  simp only [G_fails, Bool.false_or, bind_some']
  refine same_bind fun _ => ?_
  exact same_ite same_bad (same_refl _)
theorem same_shifted {Y : List T_api_Tok} {op : Bytes} {x y : T_cond_value} : Same (G_cond_eval_shifted ⟨Y, false⟩ op x y true) (G_cond_eval_shifted ⟨Y, false⟩ op x y false) := by
  unfold G_cond_eval_shifted
  simp only [G_fails, Bool.false_or, bind_some']
  exact same_ite same_bad (same_refl _)
theorem same_binary {Y : List T_api_Tok} {op : Bytes} {x y : T_cond_value} (c : Bool) : Same (G_cond_eval_binary ⟨Y, false⟩ op x y c) (G_cond_eval_binary ⟨Y, false⟩ op x y false) := by
  cases c with
  | false => exact same_refl _
  | true =>
    unfold G_cond_eval_binary
    repeat' (first | exact same_refl _ | exact same_again same_divided | exact same_again same_shifted | refine same_ite ?_ ?_ | refine same_bind fun _ => ?_)
theorem drop_inj {l : List T_api_Tok} {i j : Nat} (hi : i ≤ l.length) (hj : j ≤ l.length) (h : l.drop i = l.drop j) : i = j := by
  have := congrArg List.length h
  rw [List.length_drop, List.length_drop] at this
  omega
def MB (l M : List T_api_Tok) (q : Nat) (p r : Option (T_cond_value × T_cond_eval)) : Prop := ∀ w j', j' ≤ l.length → p = some (w, ⟨l.drop j', false⟩) → r = some (w, ⟨M.drop (q + j'), false⟩)
structure Mono (l M : List T_api_Tok) (q k1 k2 : Nat) : Prop where
  choice : ∀ j c, j ≤ l.length → 4 * (l.length - j) + 4 ≤ k1 → 4 * (l.length - j) + 4 ≤ k2 →
    MB l M q ((Rec_cond_eval_choice.lvl k1).cond_eval_choice ⟨l.drop j, false⟩ c) ((Rec_cond_eval_choice.lvl k2).cond_eval_choice ⟨M.drop (q + j), false⟩ false)
  chain : ∀ j n c, j ≤ l.length → n ≤ 11 → 4 * (l.length - j) + 3 ≤ k1 → 4 * (l.length - j) + 3 ≤ k2 →
    MB l M q ((Rec_cond_eval_choice.lvl k1).cond_eval_chain ⟨l.drop j, false⟩ ((n : Nat) : Int) c) ((Rec_cond_eval_choice.lvl k2).cond_eval_chain ⟨M.drop (q + j), false⟩ ((n : Nat) : Int) false)
  unary : ∀ j c, j ≤ l.length → 4 * (l.length - j) + 2 ≤ k1 → 4 * (l.length - j) + 2 ≤ k2 →
    MB l M q ((Rec_cond_eval_choice.lvl k1).cond_eval_unary ⟨l.drop j, false⟩ c) ((Rec_cond_eval_choice.lvl k2).cond_eval_unary ⟨M.drop (q + j), false⟩ false)
  atom : ∀ j c, j ≤ l.length → 4 * (l.length - j) + 1 ≤ k1 → 4 * (l.length - j) + 1 ≤ k2 →
    MB l M q ((Rec_cond_eval_choice.lvl k1).cond_eval_atom ⟨l.drop j, false⟩ c) ((Rec_cond_eval_choice.lvl k2).cond_eval_atom ⟨M.drop (q + j), false⟩ false)
section
variable {l M : List T_api_Tok} {q k1 k2 : Nat}
theorem RB.mb {j : Nat} {p r : Option (T_cond_value × T_cond_eval)} (h : RB l M q j false p r) : MB l M q p r := by
  obtain ⟨v, u, j1, b1, X, p1, p2, p3, p4, p5, p6, p7⟩ := h
  intro w j' hj e
  rw [p1] at e
  injection e with e
  injection e with e1 e2
  injection e2 with e2 e3
  subst e1 e3
  have := drop_inj p5 hj e2
  subst this
  rw [p2, (p7 rfl).1]
theorem MB.map {p r : Option (T_cond_value × T_cond_eval)} (h : MB l M q p r) (f : T_cond_value → T_cond_value) (g : T_cond_value × T_cond_eval → Option (T_cond_value × T_cond_eval))
    (hg : ∀ v p, g (v, p) = some (f v, p)) : MB l M q (p >>= g) (r >>= g) := by
  intro w j' hj e
  cases p with
  | none => cases e
  | some x =>
    obtain ⟨v, x⟩ := x
    have e : g (v, x) = _ := e
    rw [hg] at e
    injection e with e
    injection e with e1 e2
    subst e1 e2
    rw [h v j' hj rfl, bind_some', hg]
theorem mono_unary (A : At l M q) (S : Mono l M q k1 k2) : ∀ j c, j ≤ l.length → 4 * (l.length - j) + 2 ≤ k1 + 1 → 4 * (l.length - j) + 2 ≤ k2 + 1 →
    MB l M q (G_cond_eval_unary_b (Rec_cond_eval_choice.lvl k1) ⟨l.drop j, false⟩ c) (G_cond_eval_unary_b (Rec_cond_eval_choice.lvl k2) ⟨M.drop (q + j), false⟩ false) := by
  intro j c hj hk1 hk2
  have en : nx j false = j := rfl
  have en1 : nx j true = j + 1 := rfl
  unfold G_cond_eval_unary_b
  have tk : ∀ s : Bytes, s ≠ [] → s ≠ [41] → G_cond_eval_take ⟨l.drop j, false⟩ s = some (sgn l j false == s, ⟨l.drop (nx j (sgn l j false == s)), false⟩) ∧ G_cond_eval_take ⟨M.drop (q + j), false⟩ s = some (sgn l j false == s, ⟨M.drop (q + nx j (sgn l j false == s)), false⟩) := by
    intro s hs h41
    obtain ⟨X1, t1, t2, t3⟩ := two_take A hj (fun _ => rfl) (b := false) hs (.inl h41)
    rw [t3 rfl] at t2
    exact ⟨t1, t2⟩
  have sub : ∀ s : Bytes, sgn l j false = s → s ≠ [] → MB l M q ((Rec_cond_eval_choice.lvl k1).cond_eval_unary ⟨l.drop (j + 1), false⟩ c) ((Rec_cond_eval_choice.lvl k2).cond_eval_unary ⟨M.drop (q + (j + 1)), false⟩ false) := by
    intro s h hs
    have hlt := (sgn_lt h hs).1
    exact S.unary (j + 1) c (by omega) (by omega) (by omega)
  obtain ⟨t1, t2⟩ := tk [43] (by simp) (by simp)
  rw [t1, t2, bind_some', bind_some']
  simp only []
  by_cases h1 : sgn l j false = [43]
  · have e : (sgn l j false == [43]) = true := by simpa using h1
    simp only [e, if_true, en1]
    exact (sub _ h1 (by simp)).map id _ (fun _ _ => rfl)
  · have e : (sgn l j false == [43]) = false := by simpa using h1
    simp only [e, Bool.false_eq_true, if_false, en]
    obtain ⟨t1, t2⟩ := tk [45] (by simp) (by simp)
    rw [t1, t2, bind_some', bind_some']
    simp only []
    by_cases h2 : sgn l j false = [45]
    · have e : (sgn l j false == [45]) = true := by simpa using h2
      simp only [e, if_true, en1]
      exact (sub _ h2 (by simp)).map (fun v => ⟨IntKind.wrap .u64 (0 - v.v_), v.u_⟩) _ (fun _ _ => rfl)
    · have e : (sgn l j false == [45]) = false := by simpa using h2
      simp only [e, Bool.false_eq_true, if_false, en]
      obtain ⟨t1, t2⟩ := tk [126] (by simp) (by simp)
      rw [t1, t2, bind_some', bind_some']
      simp only []
      by_cases h3 : sgn l j false = [126]
      · have e : (sgn l j false == [126]) = true := by simpa using h3
        simp only [e, if_true, en1]
        exact (sub _ h3 (by simp)).map (fun v => ⟨bxor .u64 (if IntKind.signed .u64 = true then -1 else IntKind.max .u64) v.v_, v.u_⟩) _ (fun _ _ => rfl)
      · have e : (sgn l j false == [126]) = false := by simpa using h3
        simp only [e, Bool.false_eq_true, if_false, en]
        obtain ⟨t1, t2⟩ := tk [33] (by simp) (by simp)
        rw [t1, t2, bind_some', bind_some']
        simp only []
        by_cases h4 : sgn l j false = [33]
        · have e : (sgn l j false == [33]) = true := by simpa using h4
          simp only [e, if_true, en1]
          exact (sub _ h4 (by simp)).map (fun v => ⟨if v.v_ == 0 then 1 else 0, false⟩) _ (fun v p => by simp only [G_truth, bind_some'])
        · have e : (sgn l j false == [33]) = false := by simpa using h4
          simp only [e, Bool.false_eq_true, if_false, en]
          exact (S.atom j c hj (by omega) (by omega)).map id _ (fun _ _ => rfl)
theorem mono_atom (C : Lexd l) (A : At l M q) (S : Mono l M q k1 k2) : ∀ j c, j ≤ l.length → 4 * (l.length - j) + 1 ≤ k1 + 1 → 4 * (l.length - j) + 1 ≤ k2 + 1 →
    MB l M q (G_cond_eval_atom_b (Rec_cond_eval_choice.lvl k1) ⟨l.drop j, false⟩ c) (G_cond_eval_atom_b (Rec_cond_eval_choice.lvl k2) ⟨M.drop (q + j), false⟩ false) := by
  intro j c hj hk1 hk2
  obtain ⟨X1, t1, t2, t3⟩ := two_take A hj (fun _ => rfl) (b := false) (s := [40]) (by simp) (.inl (by simp))
  rw [t3 rfl] at t2
  by_cases h1 : sgn l j false = [40]
  · obtain ⟨hlt, _, t, ht, _, hS⟩ := sgn_lt h1 (by simp)
    have e : (sgn l j false == [40]) = true := by simpa using h1
    have en1 : nx j true = j + 1 := rfl
    unfold G_cond_eval_atom_b
    rw [t1, t2, bind_some', bind_some']
    simp only [e, if_true, en1]
    intro w j' hj' ep
    obtain ⟨v, u, j2, b2, X', p1, p2, p3, p4, p5, p6, p7⟩ := (side_all C A k1 k2).choice (j + 1) false (M.drop (q + (j + 1))) c (by omega) (fun _ => rfl) (by omega) (by omega)
    have hm := S.choice (j + 1) c (by omega) (by omega) (by omega)
    rw [p1, bind_some'] at ep
    simp only [] at ep
    rw [G_take l j2 b2 _ (by simp), bind_some'] at ep
    simp only [G_fails, bind_some'] at ep
    injection ep with ep
    injection ep with e1 e2
    injection e2 with e2 e3
    simp only [Bool.or_eq_false_iff, Bool.not_eq_false'] at e3
    obtain ⟨rfl, e3⟩ := e3
    have s41 : sgn l j2 false = [41] := by simpa using e3
    have hlt2 := (sgn_lt s41 (by simp)).1
    rw [e3] at e2
    have := drop_inj (show j2 + 1 ≤ l.length by omega) hj' e2
    subst this e1
    rw [hm _ j2 p5 p1, bind_some']
    simp only []
    rw [take_yes (by simp) (by rw [sgn_in A hlt2, s41]), bind_some']
    rfl
  · have e : (sgn l j false == [40]) = false := by simpa using h1
    have hc : G_cond_eval_atom_b (Rec_cond_eval_choice.lvl k2) ⟨M.drop (q + j), false⟩ false = G_cond_eval_atom_b (Rec_cond_eval_choice.lvl k2) ⟨M.drop (q + j), false⟩ c := by
      unfold G_cond_eval_atom_b
      rw [t2, bind_some', bind_some']
      simp only [e, Bool.false_eq_true, if_false]
    rw [hc]
    exact (side_atom C A (side_all C A k1 k2) j false (M.drop (q + j)) c hj (fun _ => rfl) hk1 hk2).mb
theorem c1_false (op : Bytes) (v : Int) : c1 op false v = false := by
  unfold c1
  split
  · rfl
  · split <;> rfl
def OpR (op : Bytes) (c : Bool) (v : Int) (u : Bool) (w : Int) (uw : Bool) (b2 : Bool) (x : Int) (ux b3 : Bool) (Y : List T_api_Tok) : Prop :=
  if op = [38, 38] then x = (if !(v == 0) && !(w == 0) then 1 else 0) ∧ ux = false ∧ b3 = b2 else if op = [124, 124] then x = (if !(v == 0) || !(w == 0) then 1 else 0) ∧ ux = false ∧ b3 = b2 else
      G_cond_eval_binary ⟨Y, b2⟩ op ⟨v, u⟩ ⟨w, uw⟩ c = some (⟨x, ux⟩, ⟨Y, b3⟩)
theorem opR_ok {op : Bytes} {c : Bool} {v w : Int} {u uw b2 : Bool} (h0 : lev op ≠ 0) (hv : U64 v) (hw : U64 w) : ∃ x ux b3, (∀ Y, OpR op c v u w uw b2 x ux b3 Y) ∧ U64 x ∧ (b2 = true → b3 = true) ∧ (b3 = false → ∀ Y, OpR op false v u w uw false x ux false Y) := by
  unfold OpR
  by_cases ha : op = [38, 38]
  · simp only [if_pos ha]
    exact ⟨_, false, b2, fun Y => ⟨rfl, rfl, rfl⟩, u64_if _, id, fun _ Y => ⟨rfl, by simp⟩⟩
  · by_cases ho : op = [124, 124]
    · simp only [if_neg ha, if_pos ho]
      exact ⟨_, false, b2, fun Y => ⟨rfl, rfl, rfl⟩, u64_if _, id, fun _ Y => ⟨rfl, by simp⟩⟩
    · simp only [if_neg ha, if_neg ho]
      obtain ⟨x, ux, b3, y1, y2, y3⟩ := bin_two (b := b2) (c := c) (u := u) (uw := uw) (lev_mem op h0) ho ha hv hw
      refine ⟨x, ux, b3, y1, y2, y3, ?_⟩
      intro hb Y
      have hb2 : b2 = false := by
        cases b2 with
        | false => rfl
        | true => rw [y3 rfl] at hb; cases hb
      subst hb hb2
      exact same_binary c _ _ (y1 Y)
theorem mono_loop (C : Lexd l) (A : At l M q) (S : Mono l M q k1 k2) (n : Nat) (hn : n ≤ 11) (c : Bool) : ∀ m j v u j' v' u', l.length - j ≤ m → j ≤ l.length → 4 * (l.length - j) + 3 ≤ k1 + 1 → 4 * (l.length - j) + 3 ≤ k2 + 1 → U64 v → j' ≤ l.length →
    loopO (G_cond_eval_chain_L1 (Rec_cond_eval_choice.lvl k1) ((n : Nat) : Int)) (c, l.drop j, false, v, u) = some (l.drop j', false, v', u') →
    loopO (G_cond_eval_chain_L1 (Rec_cond_eval_choice.lvl k2) ((n : Nat) : Int)) (false, M.drop (q + j), false, v, u) = some (M.drop (q + j'), false, v', u') := by
  intro m
  induction m with
  | zero =>
    intro j v u j' v' u' hm hj hk1 hk2 hv hj' h
    have e : j = l.length := by omega
    subst e
    rw [chain_stop (G_sign l l.length false) (.inl (by rw [sgn_e (Nat.le_refl _)]; rfl))] at h
    injection h with h
    injection h with h1 h2
    injection h2 with _ h2
    injection h2 with h2 h3
    subst h2 h3
    have := drop_inj (Nat.le_refl _) hj' h1
    subst this
    exact chain_stop (G_sign M (q + l.length) false) (.inl (lev_at A))
  | succ m ih =>
    intro j v u j' v' u' hm hj hk1 hk2 hv hj' h
    by_cases hstop : lev (sgn l j false) = 0 ∨ lev (sgn l j false) < n
    · rw [chain_stop (G_sign l j false) hstop] at h
      injection h with h
      injection h with h1 h2
      injection h2 with _ h2
      injection h2 with h2 h3
      subst h2 h3
      have := drop_inj hj hj' h1
      subst this
      refine chain_stop (G_sign M (q + j) false) ?_
      by_cases hlt : j < l.length
      · rw [sgn_in A hlt]; exact hstop
      · have e : j = l.length := by omega
        rw [e]; exact .inl (lev_at A)
    · obtain ⟨op, hop⟩ : ∃ op, sgn l j false = op := ⟨_, rfl⟩
      rw [hop] at hstop
      have h0 : lev op ≠ 0 := fun h => hstop (.inl h)
      have hl : ¬ lev op < n := fun h => hstop (.inr h)
      have hne : op ≠ [] := by rintro rfl; exact h0 rfl
      have n41 : op ≠ [41] := by rintro rfl; exact h0 rfl
      have hlt := (sgn_lt hop hne).1
      have g1 := G_sign l j false
      rw [hop] at g1
      have g2 : G_cond_eval_sign ⟨M.drop (q + j), false⟩ = some (op, ⟨M.drop (q + j), false⟩) := by
        rw [G_sign M (q + j) false, sgn_in A hlt, hop]
      have t1 := take_yes hne hop
      have t2 : G_cond_eval_take ⟨M.drop (q + j), false⟩ op = some (true, ⟨M.drop (q + (j + 1)), false⟩) := take_yes hne (by rw [sgn_in A hlt, hop])
      have l3 := lev_le op
      obtain ⟨v2, u2, j2, b2, X2, p1, p2, p3, p4, p5, p6, p7⟩ := (side_all C A k1 k2).chain (j + 1) false (M.drop (q + (j + 1))) (lev op + 1) (c1 op c v) (by omega) (by omega) (fun _ => rfl) (by omega) (by omega)
      obtain ⟨x, ux, b3, y1, y2, y3, y4⟩ := opR_ok (op := op) (c := c) (u := u) (uw := u2) (b2 := b2) h0 hv p3
      rw [loopO_inl (chain_one g1 t1 h0 hl p1 (y1 _))] at h
      cases b3 with
      | true =>
        rw [chain_stop (X := l.drop j2) (b := true) (op := []) rfl (.inl rfl)] at h
        injection h with h
        injection h with h1 h2
        injection h2 with h2 _
        cases h2
      | false =>
        have hb2 : b2 = false := by
          cases b2 with
          | false => rfl
          | true => exact absurd (y3 rfl) (by simp)
        subst hb2
        have r := S.chain (j + 1) (lev op + 1) (c1 op c v) (by omega) (by omega) (by omega) (by omega) _ j2 p5 p1
        have r' : (Rec_cond_eval_choice.lvl k2).cond_eval_chain ⟨M.drop (q + (j + 1)), false⟩ ((lev op + 1 : Nat) : Int) (c1 op false v) = some (⟨v2, u2⟩, ⟨M.drop (q + j2), false⟩) := by
          rw [c1_false]; exact r
        rw [loopO_inl (chain_one g2 t2 h0 hl r' (y4 rfl _))]
        exact ih j2 x ux j' v' u' (by omega) p5 (by omega) (by omega) y2 hj' h
theorem mono_chain (C : Lexd l) (A : At l M q) (S : Mono l M q k1 k2) : ∀ j n c, j ≤ l.length → n ≤ 11 → 4 * (l.length - j) + 3 ≤ k1 + 1 → 4 * (l.length - j) + 3 ≤ k2 + 1 →
    MB l M q (G_cond_eval_chain_b (Rec_cond_eval_choice.lvl k1) ⟨l.drop j, false⟩ ((n : Nat) : Int) c) (G_cond_eval_chain_b (Rec_cond_eval_choice.lvl k2) ⟨M.drop (q + j), false⟩ ((n : Nat) : Int) false) := by
  intro j n c hj hn hk1 hk2 w j' hj' e
  obtain ⟨v, u, j1, b1, X1, p1, p2, p3, p4, p5, p6, p7⟩ := (side_all C A k1 k2).unary j false (M.drop (q + j)) c hj (fun _ => rfl) (by omega) (by omega)
  obtain ⟨v', u', j2, b2, X2, q1, q2, q3, q4, q5, q6, q7⟩ := side_loop C A (side_all C A k1 k2) n hn c _ j1 b1 X1 v u (Nat.le_refl _) p5 (fun h => (p7 h).1) (by omega) (by omega) p3
  unfold G_cond_eval_chain_b at e ⊢
  rw [p1, bind_some'] at e
  simp only [] at e
  rw [q1, bind_some'] at e
  injection e with e
  injection e with e1 e2
  injection e2 with e2 e3
  subst e1 e3
  have := drop_inj q5 hj' e2
  subst this
  have hb1 : b1 = false := by
    cases b1 with
    | false => rfl
    | true => exact absurd (q6 rfl) (by simp)
  subst hb1
  rw [S.unary j c hj (by omega) (by omega) _ j1 p5 p1, bind_some']
  simp only []
  rw [mono_loop C A S n hn c _ j1 v u j2 v' u' (Nat.le_refl _) p5 (by omega) (by omega) p3 q5 q1, bind_some']
theorem mono_choice (C : Lexd l) (A : At l M q) (S : Mono l M q k1 k2) : ∀ j c, j ≤ l.length → 4 * (l.length - j) + 4 ≤ k1 + 1 → 4 * (l.length - j) + 4 ≤ k2 + 1 →
    MB l M q (G_cond_eval_choice_b (Rec_cond_eval_choice.lvl k1) ⟨l.drop j, false⟩ c) (G_cond_eval_choice_b (Rec_cond_eval_choice.lvl k2) ⟨M.drop (q + j), false⟩ false) := by
  intro j c hj hk1 hk2 w j' hj' e
  have T := side_all C A k1 k2
  obtain ⟨v, u, j1, b1, X1, p1, p2, p3, p4, p5, p6, p7⟩ := T.chain j false (M.drop (q + j)) 1 c hj (by omega) (fun _ => rfl) (by omega) (by omega)
  unfold G_cond_eval_choice_b at e ⊢
  rw [show (1 : Int) = ((1 : Nat) : Int) from rfl] at e ⊢
  rw [p1, bind_some'] at e
  simp only [] at e
  rw [G_take l j1 b1 _ (by simp), bind_some'] at e
  simp only [] at e
  by_cases h1 : sgn l j1 b1 = [63]
  · obtain ⟨hlt, rfl, _⟩ := sgn_lt h1 (by simp)
    have e63 : (sgn l j1 false == [63]) = true := by simpa using h1
    have en : nx j1 true = j1 + 1 := rfl
    simp only [e63, Bool.not_true, Bool.false_eq_true, if_false, en] at e
    rw [S.chain j 1 c hj (by omega) (by omega) (by omega) _ j1 p5 p1, bind_some']
    simp only []
    rw [take_yes (j := q + j1) (by simp) (by rw [sgn_in A hlt, h1]), bind_some']
    simp only [Bool.not_true, Bool.false_eq_true, if_false]
    have key : ∀ ca cb : Bool, ∃ v2 u2 j2 b2 v3 u3 j3 b3, (Rec_cond_eval_choice.lvl k1).cond_eval_choice ⟨l.drop (j1 + 1), false⟩ ca = some (⟨v2, u2⟩, ⟨l.drop j2, b2⟩) ∧
        G_cond_eval_take ⟨l.drop j2, b2⟩ [58] = some (sgn l j2 b2 == [58], ⟨l.drop (nx j2 (sgn l j2 b2 == [58])), b2⟩) ∧
        (Rec_cond_eval_choice.lvl k1).cond_eval_choice ⟨l.drop (nx j2 (sgn l j2 b2 == [58])), b2 || !(sgn l j2 b2 == [58])⟩ cb = some (⟨v3, u3⟩, ⟨l.drop j3, b3⟩) ∧ j3 ≤ l.length ∧
        (b3 = false → (Rec_cond_eval_choice.lvl k2).cond_eval_choice ⟨M.drop (q + j1 + 1), false⟩ false = some (⟨v2, u2⟩, ⟨M.drop (q + j2), false⟩) ∧ G_cond_eval_take ⟨M.drop (q + j2), false⟩ [58] = some (true, ⟨M.drop (q + j2 + 1), false⟩) ∧
          (Rec_cond_eval_choice.lvl k2).cond_eval_choice ⟨M.drop (q + j2 + 1), false⟩ false = some (⟨v3, u3⟩, ⟨M.drop (q + j3), false⟩)) := by
      intro ca cb
      obtain ⟨v2, u2, j2, b2, X3, q1, q2, q3, q4, q5, q6, q7⟩ := T.choice (j1 + 1) false (M.drop (q + (j1 + 1))) ca (by omega) (fun _ => rfl) (by omega) (by omega)
      obtain ⟨n1, n2⟩ := nx_le (L := l) (j := j2) (b := b2) (s := [58]) (by simp) q5
      obtain ⟨v3, u3, j3, b3, X5, r1, r2, r3, r4, r5, r6, r7⟩ := T.choice _ (b2 || !(sgn l j2 b2 == [58])) (M.drop (q + nx j2 (sgn l j2 b2 == [58]))) cb n2 (fun _ => rfl) (by omega) (by omega)
      refine ⟨v2, u2, j2, b2, v3, u3, j3, b3, q1, G_take l j2 b2 _ (by simp), r1, r5, ?_⟩
      intro hb3
      subst hb3
      have hb : (b2 || !(sgn l j2 b2 == [58])) = false := by
        cases hx : (b2 || !(sgn l j2 b2 == [58])) with
        | false => rfl
        | true => exact absurd (r6 hx) (by simp)
      rw [hb] at r1
      simp only [Bool.or_eq_false_iff, Bool.not_eq_false'] at hb
      obtain ⟨rfl, hs⟩ := hb
      have h58 : sgn l j2 false = [58] := by simpa using hs
      have hlt2 := (sgn_lt h58 (by simp)).1
      rw [hs] at r1
      have m1 := S.choice (j1 + 1) ca (by omega) (by omega) (by omega) _ j2 q5 q1
      have m2 := S.choice (j2 + 1) cb (by omega) (by omega) (by omega) _ j3 r5 r1
      exact ⟨m1, take_yes (by simp) (by rw [sgn_in A hlt2, h58]), m2⟩
    cases c with
    | true =>
      obtain ⟨v2, u2, j2, b2, v3, u3, j3, b3, q1, s1, r1, r5, hk⟩ := key (!(v == 0)) (v == 0)
      simp only [if_true, q1, bind_some', s1, G_fails, r1] at e
      have hb3 : b3 = false := by
        cases b3 with
        | false => rfl
        | true => exfalso; revert e; cases u2 <;> cases (v == 0) <;> simp
      obtain ⟨m1, m2, m3⟩ := hk hb3
      subst hb3
      simp only [m1, m2, m3, bind_some', G_fails, Bool.not_true, Bool.or_false]
      have fin : ∀ y : T_cond_value, some (y, (⟨l.drop j3, false⟩ : T_cond_eval)) = some (w, ⟨l.drop j', false⟩) → some (y, (⟨M.drop (q + j3), false⟩ : T_cond_eval)) = some (w, ⟨M.drop (q + j'), false⟩) := by
        intro y h
        injection h with h
        injection h with h1 h2
        injection h2 with h2 _
        rw [h1, drop_inj r5 hj' h2]
      cases u2 <;> cases hv0 : (v == 0) <;> rw [hv0] at e <;> exact fin _ e
    | false =>
      obtain ⟨v2, u2, j2, b2, v3, u3, j3, b3, q1, s1, r1, r5, hk⟩ := key false false
      simp only [Bool.false_eq_true, if_false, q1, bind_some', s1, G_fails, r1] at e
      have hb3 : b3 = false := by
        cases b3 with
        | false => rfl
        | true => exfalso; revert e; cases u2 <;> cases (v == 0) <;> simp
      obtain ⟨m1, m2, m3⟩ := hk hb3
      subst hb3
      simp only [m1, m2, m3, bind_some', G_fails, Bool.not_true, Bool.or_false]
      have fin : ∀ y : T_cond_value, some (y, (⟨l.drop j3, false⟩ : T_cond_eval)) = some (w, ⟨l.drop j', false⟩) → some (y, (⟨M.drop (q + j3), false⟩ : T_cond_eval)) = some (w, ⟨M.drop (q + j'), false⟩) := by
        intro y h
        injection h with h
        injection h with h1 h2
        injection h2 with h2 _
        rw [h1, drop_inj r5 hj' h2]
      cases u2 <;> cases hv0 : (v == 0) <;> rw [hv0] at e <;> exact fin _ e
  · have e63 : (sgn l j1 b1 == [63]) = false := by simpa using h1
    have en : nx j1 false = j1 := rfl
    simp only [e63, Bool.not_false, if_true, en] at e
    injection e with e
    injection e with e1 e2
    injection e2 with e2 e3
    subst e1 e3
    have := drop_inj p5 hj' e2
    subst this
    rw [S.chain j 1 c hj (by omega) (by omega) (by omega) _ j1 p5 p1, bind_some']
    simp only []
    obtain ⟨X2, t1, t2, t3⟩ := two_take A p5 (fun _ => rfl) (b := false) (s := [63]) (by simp) (.inl (by simp))
    rw [t2, bind_some', t3 rfl]
    simp only [e63, Bool.not_false, if_true, en]
end
theorem mono_all {l M : List T_api_Tok} {q : Nat} (C : Lexd l) (A : At l M q) : ∀ k1 k2, Mono l M q k1 k2
  | 0, _ => ⟨fun _ _ _ h => absurd h (by omega), fun _ _ _ _ _ h => absurd h (by omega), fun _ _ _ h => absurd h (by omega), fun _ _ _ h => absurd h (by omega)⟩
  | _ + 1, 0 => ⟨fun _ _ _ _ h => absurd h (by omega), fun _ _ _ _ _ _ h => absurd h (by omega), fun _ _ _ _ h => absurd h (by omega), fun _ _ _ _ h => absurd h (by omega)⟩
  | k1 + 1, k2 + 1 => have S := mono_all C A k1 k2; ⟨mono_choice C A S, mono_chain C A S, mono_unary A S, mono_atom C A S⟩
end Go.Proofs.YtmngkcpobmhnoaaGreatDoor.Sim.Pl
