/- The plain law of CondNots. -/
import Derived.Test.YtmngkcpobmhnoaaGreatDoorKPCondBrackets
import Derived.Test.YtmngkcpobmhnoaaGreatDoorKPMono
import Derived.Test.YtmngkcpobmhnoaaGreatDoorKPl3
set_option linter.all false
namespace Go.Proofs.YtmngkcpobmhnoaaGreatDoor.Sim.Pl
open Go.Proofs
theorem eval_tot {l : List T_api_Tok} (C : Lexd l) {k : Nat} (hk : 4 * l.length + 4 ≤ k) : ∃ v u e, G_cond_Eval k l = some (v, u, e) := by
  have A : At l l 0 := ⟨fun j _ => by rw [Nat.zero_add], .inr (by rw [Nat.zero_add]; exact List.getElem?_eq_none (Nat.le_refl _))⟩
  obtain ⟨v, u, j', b', X, p1, p2, p3, p4, p5, p6, p7⟩ := (side_all C A k k).choice 0 false (l.drop (0 + 0)) true (Nat.zero_le _) (fun _ => rfl) (by omega) (by omega)
  have p1 : G_cond_eval_choice k ⟨l, false⟩ true = _ := p1
  unfold G_cond_Eval
  rw [p1, bind_some']
  simp only []
  cases b' with
  | true => exact ⟨_, _, _, rfl⟩
  | false =>
    by_cases h : decide ((0 : Int) < (((l.drop j').length : Nat) : Int)) = true
    · exact ⟨0, false, 50, by simp only [h, if_true, Bool.false_eq_true, if_false]⟩
    · have h : decide ((0 : Int) < (((l.drop j').length : Nat) : Int)) = false := by simpa using h
      exact ⟨v, u, 0, by simp only [h, Bool.false_eq_true, if_false]⟩

def PB (a : List T_api_Tok) : List T_api_Tok := tk [40] :: (a ++ [tk [41]])
theorem at_post {l : List T_api_Tok} (C : Clo l) (pre post : List T_api_Tok) : At l (pre ++ (PB l ++ post)) (pre.length + 1) where
  same := by
    intro j hj
    rw [List.getElem?_append_right (by omega), show pre.length + 1 + j - pre.length = j + 1 by omega, PB, List.cons_append, List.getElem?_cons_succ, List.append_assoc, List.getElem?_append_left hj]
  stop := by
    refine .inl ⟨C, tk [41], ?_, rfl, rfl⟩
    rw [List.getElem?_append_right (by omega), show pre.length + 1 + l.length - pre.length = l.length + 1 by omega, PB, List.cons_append, List.getElem?_cons_succ, List.append_assoc, List.getElem?_append_right (Nat.le_refl _)]
    simp
theorem un_PB {a : List T_api_Tok} (C : Clo a) {k1 : Nat} (hk1 : 4 * a.length + 4 ≤ k1) {v : Int} {u : Bool} (he : G_cond_Eval k1 a = some (v, u, 0)) {L pre post : List T_api_Tok} (hL : L = pre ++ (PB a ++ post)) {k : Nat} (hk : 4 * a.length + 7 ≤ k) (c : Bool) :
    U64 v ∧ (Rec_cond_eval_choice.lvl k).cond_eval_unary ⟨L.drop pre.length, false⟩ c = some (⟨v, u⟩, ⟨L.drop (pre.length + a.length + 2), false⟩) := by
  subst hL
  obtain ⟨k, rfl⟩ : ∃ k', k = k' + 1 + 1 := ⟨k - 2, by omega⟩
  have A := at_post C pre post
  have h40 : sgn (pre ++ (PB a ++ post)) pre.length false = [40] := sgn_of pre _ [40]
  obtain ⟨t, hst, hk5, hS⟩ : ∃ t, (pre ++ (PB a ++ post))[pre.length + 1 + a.length]? = some t ∧ t.Kind_ = 5 ∧ t.S_ = [41] := by
    rcases A.stop with ⟨_, h⟩ | h
    · exact h
    · exfalso
      have := List.getElem?_eq_none_iff.1 h
      simp [PB] at this
      omega
  have h41 : sgn (pre ++ (PB a ++ post)) (pre.length + 1 + a.length) false = [41] := by rw [sgn_p hst hk5, hS]
  obtain ⟨v1, u1, j', b', X, p1, p2, p3, p4, p5, p6, p7⟩ := (side_all C.toLexd A k1 k).choice 0 false ((pre ++ (PB a ++ post)).drop (pre.length + 1 + 0)) true (Nat.zero_le _) (fun _ => rfl) (by omega) (by omega)
  have q1 : G_cond_eval_choice k1 ⟨a, false⟩ true = _ := p1
  unfold G_cond_Eval at he
  rw [q1, bind_some'] at he
  simp only [] at he
  cases b' with
  | true => cases he
  | false =>
    have hlen : j' = a.length ∧ v1 = v ∧ u1 = u := by
      by_cases h : decide ((0 : Int) < (((a.drop j').length : Nat) : Int)) = true
      · simp only [h, if_true, Bool.false_eq_true, if_false] at he
        cases he
      · have h' : decide ((0 : Int) < (((a.drop j').length : Nat) : Int)) = false := by simpa using h
        simp only [h', Bool.false_eq_true, if_false] at he
        injection he with he
        injection he with e1 e2
        injection e2 with e2 _
        refine ⟨?_, e1, e2⟩
        simp at h
        omega
    obtain ⟨rfl, rfl, rfl⟩ := hlen
    refine ⟨p3, ?_⟩
    have hc : (Rec_cond_eval_choice.lvl k).cond_eval_choice ⟨(pre ++ (PB a ++ post)).drop (pre.length + 1), false⟩ c = some (⟨v1, u1⟩, ⟨(pre ++ (PB a ++ post)).drop (pre.length + 1 + a.length), false⟩) := by
      cases c with
      | true => rw [(p7 rfl).1] at p2; exact p2
      | false => exact (mono_all C.toLexd A k1 k).choice 0 true (Nat.zero_le _) (by omega) (by omega) _ a.length p5 p1
    have := un_br (k := k + 1) h40 (ev_atom_br (k := k) h40 hc h41)
    rw [this, show pre.length + 1 + a.length + 1 = pre.length + a.length + 2 by omega]
section
variable {L : List T_api_Tok} {j j1 j2 N : Nat} {va vb x : Int} {ua ub ux : Bool} {op : Bytes}
def Un (N : Nat) (L : List T_api_Tok) (j : Nat) (v : Int) (u : Bool) (j2 : Nat) : Prop := ∀ k c, N ≤ k → (Rec_cond_eval_choice.lvl k).cond_eval_unary ⟨L.drop j, false⟩ c = some (⟨v, u⟩, ⟨L.drop j2, false⟩)
theorem Un.not (h : Un N L (j + 1) va ua j2) (hs : sgn L j false = [33]) : Un (N + 1) L j (if va == 0 then 1 else 0) false j2 := by
  intro k c hk
  obtain ⟨k, rfl⟩ : ∃ k', k = k' + 1 := ⟨k - 1, by omega⟩
  show G_cond_eval_unary_b (Rec_cond_eval_choice.lvl k) ⟨L.drop j, false⟩ c = _
  unfold G_cond_eval_unary_b
  rw [take_no (by simp) (by rw [hs]; simp), bind_some']
  simp only [Bool.false_eq_true, if_false]
  rw [take_no (by simp) (by rw [hs]; simp), bind_some']
  simp only [Bool.false_eq_true, if_false]
  rw [take_no (by simp) (by rw [hs]; simp), bind_some']
  simp only [Bool.false_eq_true, if_false]
  rw [take_yes (by simp) hs, bind_some']
  simp only [if_true, h k c (by omega), bind_some', G_truth]
theorem two_op (hA : Un N L j va ua j1) (hs : sgn L j1 false = op) (h0 : lev op ≠ 0) (hB : Un N L (j1 + 1) vb ub j2) (hz : lev (sgn L j2 false) = 0) (hr : ∀ c Y, OpR op c va ua vb ub false x ux false Y) {n : Nat} (hn : ¬ lev op < n) {k : Nat} (hk : N + 2 ≤ k) (c : Bool) :
    (Rec_cond_eval_choice.lvl k).cond_eval_chain ⟨L.drop j, false⟩ ((n : Nat) : Int) c = some (⟨x, ux⟩, ⟨L.drop j2, false⟩) := by
  obtain ⟨k, rfl⟩ : ∃ k', k = k' + 1 + 1 := ⟨k - 2, by omega⟩
  have hne : op ≠ [] := by rintro rfl; exact h0 rfl
  refine ev_chain (k := k + 1) (r := (L.drop j2, false, x, ux)) (hA _ c (by omega)) ?_
  have g := G_sign L j1 false
  rw [hs] at g
  have ho : (Rec_cond_eval_choice.lvl (k + 1)).cond_eval_chain ⟨L.drop (j1 + 1), false⟩ ((lev op + 1 : Nat) : Int) (c1 op c va) = some (⟨vb, ub⟩, ⟨L.drop j2, false⟩) :=
    ev_chain (k := k) (r := (L.drop j2, false, vb, ub)) (hB _ _ (by omega)) (chain_stop (G_sign L j2 false) (.inl hz))
  rw [loopO_inl (chain_one g (take_yes hne hs) h0 hn ho (hr c _))]
  exact chain_stop (G_sign L j2 false) (.inl hz)
theorem two_eval (hA : Un N L 0 va ua j1) (hs : sgn L j1 false = op) (h0 : lev op ≠ 0) (hB : Un N L (j1 + 1) vb ub L.length) (hr : ∀ c Y, OpR op c va ua vb ub false x ux false Y) {k : Nat} (hk : N + 3 ≤ k) :
    G_cond_Eval k L = some (x, ux, 0) := by
  obtain ⟨k, rfl⟩ : ∃ k', k = k' + 1 := ⟨k - 1, by omega⟩
  have hz : sgn L L.length false = [] := sgn_e (Nat.le_refl _)
  exact ev_Eval (ev_choice (k := k) (two_op hA hs h0 hB (by rw [hz]; rfl) hr (n := 1) (by omega) (by omega) true) (by rw [hz]; simp))
theorem two_un (h40 : sgn L j false = [40]) (hA : Un N L (j + 1) va ua j1) (hs : sgn L j1 false = op) (h0 : lev op ≠ 0) (hB : Un N L (j1 + 1) vb ub j2) (h41 : sgn L j2 false = [41]) (hr : ∀ c Y, OpR op c va ua vb ub false x ux false Y) :
    Un (N + 5) L j x ux (j2 + 1) := by
  intro k c hk
  obtain ⟨k, rfl⟩ : ∃ k', k = k' + 1 + 1 + 1 := ⟨k - 3, by omega⟩
  exact un_br h40 (ev_atom_br h40 (ev_choice (two_op hA hs h0 hB (by rw [h41]; rfl) hr (n := 1) (by omega) (by omega) c) (by rw [h41]; simp)) h41)
theorem one_eval (hA : Un N L 0 va ua L.length) {k : Nat} (hk : N + 2 ≤ k) : G_cond_Eval k L = some (va, ua, 0) := by
  obtain ⟨k, rfl⟩ : ∃ k', k = k' + 2 := ⟨k - 2, by omega⟩
  exact eval_last (hA k true (by omega)) (fun _ => by simp)
end

def pieceOf (a b : List T_api_Tok) (x : UInt8) : List T_api_Tok :=
  if x == 65 then PB a else if x == 66 then PB b else if x == 38 || x == 124 then [tk [x, x]] else if x == 61 then [tk [61, 61]] else if x == 35 then [tk [33, 61]] else [tk [x]]
theorem k_eq (x : UInt8) : (((x.toNat : Nat) : Int) == 65) = (x == 65) ∧ (((x.toNat : Nat) : Int) == 66) = (x == 66) ∧ (((x.toNat : Nat) : Int) == 38) = (x == 38) ∧ (((x.toNat : Nat) : Int) == 124) = (x == 124) ∧ (((x.toNat : Nat) : Int) == 61) = (x == 61) ∧ (((x.toNat : Nat) : Int) == 35) = (x == 35) := by
  revert x; refine all8 ?_; decide +kernel
theorem said_step (w : Bytes) (hw : w.length ≤ 100) (a b l : List T_api_Tok) (hl : l.length + a.length + b.length ≤ 1000000) (i : Nat) (x : UInt8) (hx : w[i]? = some x) :
    G_burinlaw05_said_L1 w a b (l, (i : Int)) = some (Sum.inl (l ++ pieceOf a b x, ((i + 1 : Nat) : Int))) := by
  have hlt := (List.getElem?_eq_some_iff.1 hx).1
  have ap : ∀ (l' m : List T_api_Tok), l'.length + m.length ≤ 1100000 → app 56 l' m = some (l' ++ m) := fun l' m h => app_some (by omega)
  have e : decide ((i : Int) < ((w.length : Nat) : Int)) = true := by simp; omega
  have e4 : idx w (i : Int) = some x := by rw [idx_nat]; exact hx
  have e5 : IntKind.wrap .i64 ((i : Int) + 1) = ((i + 1 : Nat) : Int) := by rw [wi (by omega) (by omega)]; rfl
  have e6 : subB w (i : Int) ((i + 1 : Nat) : Int) = some [x] := by
    rw [subB_nat (by omega) (by omega), List.take_add_one, hx]
    simp
    have : i = (w.take i).length := by simp; omega
    conv => lhs; rw [this]
    simp
  have e7 : cat [x] [x] = some [x, x] := by unfold cat; rw [if_pos (by simp)]; rfl
  obtain ⟨k1, k2, k3, k4, k5, k6⟩ := k_eq x
  have g : ∀ s, G_burinlaw05_sign s = some (tk s) := fun _ => rfl
  have a1 : ∀ s, app 56 l [tk s] = some (l ++ [tk s]) := fun s => ap _ _ (by simp; omega)
  have a2 : app 56 (l ++ [tk [40]]) a = some (l ++ [tk [40]] ++ a) := ap _ _ (by simp; omega)
  have a3 : app 56 (l ++ [tk [40]] ++ a) [tk [41]] = some (l ++ [tk [40]] ++ a ++ [tk [41]]) := ap _ _ (by simp; omega)
  have b2 : app 56 (l ++ [tk [40]]) b = some (l ++ [tk [40]] ++ b) := ap _ _ (by simp; omega)
  have b3 : app 56 (l ++ [tk [40]] ++ b) [tk [41]] = some (l ++ [tk [40]] ++ b ++ [tk [41]]) := ap _ _ (by simp; omega)
  simp only [G_burinlaw05_said_L1, e, e4, bind_some', k1, k2, k3, k4, k5, k6, if_true, g, a1, e5, e6, e7]
  unfold pieceOf
  cases h1 : x == 65 with
  | true => simp only [if_true, a2, a3, bind_some']; simp [PB]
  | false =>
    cases h2 : x == 66 with
    | true => simp only [if_true, Bool.false_eq_true, if_false, b2, b3, bind_some']; simp [PB]
    | false =>
      cases h3 : x == 38 with
      | true => simp only [if_true, Bool.false_eq_true, if_false, bind_some', Bool.true_or]
      | false =>
        cases h4 : x == 124 with
        | true => simp only [if_true, Bool.false_eq_true, if_false, bind_some', Bool.or_true]
        | false =>
          cases h5 : x == 61 with
          | true => simp only [if_true, Bool.false_eq_true, if_false, bind_some', Bool.or_false]
          | false =>
            cases h6 : x == 35 with
            | true => simp only [if_true, Bool.false_eq_true, if_false, bind_some', Bool.or_false]
            | false => simp only [Bool.false_eq_true, if_false, bind_some', Bool.or_false]
theorem piece_len (a b : List T_api_Tok) (x : UInt8) : (pieceOf a b x).length ≤ a.length + b.length + 2 := by
  unfold pieceOf PB
  repeat' split
  all_goals simp
  all_goals omega
theorem said_loop (w : Bytes) (hw : w.length ≤ 11) (a b : List T_api_Tok) (hab : a.length + b.length ≤ 40000) : ∀ m i l, w.length - i ≤ m → i ≤ w.length → l.length ≤ i * 40002 →
    loopO (G_burinlaw05_said_L1 w a b) (l, (i : Int)) = some (l ++ (w.drop i).flatMap (pieceOf a b)) := by
  have fin : ∀ l, loopO (G_burinlaw05_said_L1 w a b) (l, (w.length : Int)) = some (l ++ (w.drop w.length).flatMap (pieceOf a b)) := by
    intro l
    refine loopO_inr ?_
    have e : decide (((w.length : Nat) : Int) < ((w.length : Nat) : Int)) = false := by simp
    simp only [G_burinlaw05_said_L1, e]
    simp
  intro m
  induction m with
  | zero =>
    intro i l hm hi hl
    have e : i = w.length := by omega
    subst e
    exact fin l
  | succ m ih =>
    intro i l hm hi hl
    rcases Nat.lt_or_ge i w.length with hlt | hge
    · have hg := List.getElem?_eq_getElem hlt
      have := piece_len a b w[i]
      rw [loopO_inl (said_step w (by omega) a b l (by omega) i w[i] hg), ih (i + 1) _ (by omega) (by omega) (by rw [List.length_append]; omega), List.drop_eq_getElem_cons hlt, List.flatMap_cons, List.append_assoc]
    · have e : i = w.length := by omega
      subst e
      exact fin l
theorem said_ok (w : Bytes) (hw : w.length ≤ 11) (a b : List T_api_Tok) (hab : a.length + b.length ≤ 40000) (k : Nat) : G_burinlaw05_said k w a b = G_cond_Eval k (w.flatMap (pieceOf a b)) := by
  unfold G_burinlaw05_said
  have h : loopO (G_burinlaw05_said_L1 w a b) (([] : List T_api_Tok), (0 : Int)) = _ := said_loop w hw a b hab _ 0 [] (Nat.le_refl _) (Nat.zero_le _) (by simp)
  rw [h, bind_some', List.drop_zero, List.nil_append]
  cases G_cond_Eval k (w.flatMap (pieceOf a b)) with
  | none => rfl
  | some r => rfl

section
variable {L a b pre post : List T_api_Tok} {j N : Nat} {va vb x : Int} {ua ub ux : Bool} {op s : Bytes}
theorem sgn_pl (hL : L = pre ++ tk s :: post) (hj : pre.length = j) : sgn L j false = s := by
  subst hL hj; exact sgn_of pre post s
theorem un_pl (C : Clo a) {k1 : Nat} (hk1 : 4 * a.length + 4 ≤ k1) (he : G_cond_Eval k1 a = some (va, ua, 0)) (hL : L = pre ++ (PB a ++ post)) (hj : pre.length = j) (hN : 4 * a.length + 7 ≤ N) : Un N L j va ua (j + a.length + 2) := by
  subst hj
  intro k c hk
  exact (un_PB C hk1 he hL (by omega) c).2
theorem say_both {K : Nat} (Ca : Clo a) (Cb : Clo b) (hK : 4 * a.length + 4 * b.length + 100 ≤ K) (ha : G_cond_Eval K a = some (va, ua, 0)) (hb : G_cond_Eval K b = some (vb, ub, 0)) (h0 : lev op ≠ 0)
    (hr : ∀ c Y, OpR op c va ua vb ub false x ux false Y) : G_cond_Eval K (tk [33] :: tk [40] :: (PB a ++ (tk op :: (PB b ++ [tk [41]])))) = some (if x == 0 then 1 else 0, false, 0) := by
  generalize hL : tk [33] :: tk [40] :: (PB a ++ (tk op :: (PB b ++ [tk [41]]))) = L
  have s0 : sgn L 0 false = [33] := by subst hL; rfl
  have s1 : sgn L 1 false = [40] := by subst hL; rfl
  have uA : Un (4 * a.length + 4 * b.length + 7) L 2 va ua (2 + a.length + 2) := un_pl Ca (by omega) ha (pre := [tk [33], tk [40]]) hL.symm rfl (by omega)
  have s2 : sgn L (2 + a.length + 2) false = op := sgn_pl (pre := [tk [33], tk [40]] ++ PB a) (by rw [← hL]; simp <;> rfl) (by simp [PB]; omega)
  have uB : Un (4 * a.length + 4 * b.length + 7) L (2 + a.length + 2 + 1) vb ub (2 + a.length + 2 + 1 + b.length + 2) := un_pl Cb (by omega) hb (pre := [tk [33], tk [40]] ++ PB a ++ [tk op]) (by rw [← hL]; simp <;> rfl) (by simp [PB]; omega) (by omega)
  have s3 : sgn L (2 + a.length + 2 + 1 + b.length + 2) false = [41] := sgn_pl (pre := [tk [33], tk [40]] ++ PB a ++ [tk op] ++ PB b) (post := []) (by rw [← hL]; simp <;> rfl) (by simp [PB]; omega)
  have hlen : L.length = 2 + a.length + 2 + 1 + b.length + 2 + 1 := by rw [← hL]; simp [PB]; omega
  have h := (two_un s1 uA s2 h0 uB s3 hr).not s0
  rw [← hlen] at h
  exact one_eval h (by omega)
theorem say_nots {K : Nat} (Ca : Clo a) (Cb : Clo b) (hK : 4 * a.length + 4 * b.length + 100 ≤ K) (ha : G_cond_Eval K a = some (va, ua, 0)) (hb : G_cond_Eval K b = some (vb, ub, 0)) (h0 : lev op ≠ 0)
    (hr : ∀ c Y, OpR op c (if va == 0 then 1 else 0) false (if vb == 0 then 1 else 0) false false x ux false Y) : G_cond_Eval K (tk [33] :: (PB a ++ (tk op :: tk [33] :: PB b))) = some (x, ux, 0) := by
  generalize hL : tk [33] :: (PB a ++ (tk op :: tk [33] :: PB b)) = L
  have s0 : sgn L 0 false = [33] := by subst hL; rfl
  have uA : Un (4 * a.length + 4 * b.length + 7) L 1 va ua (1 + a.length + 2) := un_pl Ca (by omega) ha (pre := [tk [33]]) hL.symm rfl (by omega)
  have s2 : sgn L (1 + a.length + 2) false = op := sgn_pl (pre := [tk [33]] ++ PB a) (by rw [← hL]; simp <;> rfl) (by simp [PB]; omega)
  have s3 : sgn L (1 + a.length + 2 + 1) false = [33] := sgn_pl (pre := [tk [33]] ++ PB a ++ [tk op]) (post := PB b) (by rw [← hL]; simp <;> rfl) (by simp [PB]; omega)
  have uB : Un (4 * a.length + 4 * b.length + 7) L (1 + a.length + 2 + 1 + 1) vb ub (1 + a.length + 2 + 1 + 1 + b.length + 2) := un_pl Cb (by omega) hb (pre := [tk [33]] ++ PB a ++ [tk op, tk [33]]) (post := []) (by rw [← hL]; simp <;> rfl) (by simp [PB]; omega) (by omega)
  have hlen : L.length = 1 + a.length + 2 + 1 + 1 + b.length + 2 := by rw [← hL]; simp [PB]; omega
  have hB := uB.not s3
  rw [← hlen] at hB
  exact two_eval (uA.not s0) s2 h0 hB hr (by omega)
theorem eq_ne (va vb : Int) (ua ub : Bool) : ∃ E : Bool, (∀ c Y, OpR [61, 61] c va ua vb ub false (if E then 1 else 0) false false Y) ∧ ∀ c Y, OpR [33, 61] c va ua vb ub false (if !E then 1 else 0) false false Y := by
  obtain ⟨x, y, xy⟩ : ∃ x y : Int, (if (!ua) = true then if (!ub) = true then some ((bxor .u64 va (9223372036854775808 : Int)), (bxor .u64 vb (9223372036854775808 : Int))) else some (va, vb) else some (va, vb)) = some (x, y) := by
    cases ua <;> cases ub <;> exact ⟨_, _, rfl⟩
  refine ⟨x == y, ?_, ?_⟩
  · intro c Y
    have h := cmp_prog (va := va) (vb := vb) (ua := ua) (ub := ub) [61, 61] (by decide) x y xy
    unfold OpR
    rw [if_neg (by decide), if_neg (by decide)]
    simp only [G_cond_eval_binary, if_u, bind_some']
    rw [show G_cond_compared _ _ _ = _ from h]
    rfl
  · intro c Y
    have h := cmp_prog (va := va) (vb := vb) (ua := ua) (ub := ub) [33, 61] (by decide) x y xy
    unfold OpR
    rw [if_neg (by decide), if_neg (by decide)]
    simp only [G_cond_eval_binary, if_u, bind_some']
    rw [show G_cond_compared _ _ _ = _ from h]
    rfl
theorem say_one {K : Nat} (Ca : Clo a) (Cb : Clo b) (hK : 4 * a.length + 4 * b.length + 100 ≤ K) (ha : G_cond_Eval K a = some (va, ua, 0)) (hb : G_cond_Eval K b = some (vb, ub, 0)) :
    G_cond_Eval K (tk [40] :: (PB a ++ (tk [61, 61] :: (PB b ++ (tk [41] :: tk [43] :: tk [40] :: (PB a ++ (tk [33, 61] :: (PB b ++ [tk [41]])))))))) = some (1, false, 0) := by
  obtain ⟨E, e1, e2⟩ := eq_ne va vb ua ub
  generalize hL : tk [40] :: (PB a ++ (tk [61, 61] :: (PB b ++ (tk [41] :: tk [43] :: tk [40] :: (PB a ++ (tk [33, 61] :: (PB b ++ [tk [41]]))))))) = L
  have s0 : sgn L 0 false = [40] := by subst hL; rfl
  have uA : Un (4 * a.length + 4 * b.length + 7) L 1 va ua (1 + a.length + 2) := un_pl Ca (by omega) ha (pre := [tk [40]]) hL.symm rfl (by omega)
  have s1 : sgn L (1 + a.length + 2) false = [61, 61] := sgn_pl (pre := [tk [40]] ++ PB a) (by rw [← hL]; simp <;> rfl) (by simp [PB]; omega)
  have uB : Un (4 * a.length + 4 * b.length + 7) L (1 + a.length + 2 + 1) vb ub (1 + a.length + 2 + 1 + b.length + 2) := un_pl Cb (by omega) hb (pre := [tk [40]] ++ PB a ++ [tk [61, 61]]) (by rw [← hL]; simp <;> rfl) (by simp [PB]; omega) (by omega)
  generalize hj : 1 + a.length + 2 + 1 + b.length + 2 = j at uB
  have s2 : sgn L j false = [41] := sgn_pl (pre := [tk [40]] ++ PB a ++ [tk [61, 61]] ++ PB b) (by rw [← hL]; simp <;> rfl) (by rw [← hj]; simp [PB]; omega)
  have s3 : sgn L (j + 1) false = [43] := sgn_pl (pre := [tk [40]] ++ PB a ++ [tk [61, 61]] ++ PB b ++ [tk [41]]) (by rw [← hL]; simp <;> rfl) (by rw [← hj]; simp [PB]; omega)
  have s4 : sgn L (j + 1 + 1) false = [40] := sgn_pl (pre := [tk [40]] ++ PB a ++ [tk [61, 61]] ++ PB b ++ [tk [41], tk [43]]) (by rw [← hL]; simp <;> rfl) (by rw [← hj]; simp [PB]; omega)
  have uA2 : Un (4 * a.length + 4 * b.length + 7) L (j + 1 + 1 + 1) va ua (j + 1 + 1 + 1 + a.length + 2) := un_pl Ca (by omega) ha (pre := [tk [40]] ++ PB a ++ [tk [61, 61]] ++ PB b ++ [tk [41], tk [43], tk [40]]) (by rw [← hL]; simp <;> rfl) (by rw [← hj]; simp [PB]; omega) (by omega)
  have s5 : sgn L (j + 1 + 1 + 1 + a.length + 2) false = [33, 61] := sgn_pl (pre := [tk [40]] ++ PB a ++ [tk [61, 61]] ++ PB b ++ [tk [41], tk [43], tk [40]] ++ PB a) (by rw [← hL]; simp <;> rfl) (by rw [← hj]; simp [PB]; omega)
  have uB2 : Un (4 * a.length + 4 * b.length + 7) L (j + 1 + 1 + 1 + a.length + 2 + 1) vb ub (j + 1 + 1 + 1 + a.length + 2 + 1 + b.length + 2) := un_pl Cb (by omega) hb (pre := [tk [40]] ++ PB a ++ [tk [61, 61]] ++ PB b ++ [tk [41], tk [43], tk [40]] ++ PB a ++ [tk [33, 61]]) (by rw [← hL]; simp <;> rfl) (by rw [← hj]; simp [PB]; omega) (by omega)
  have s6 : sgn L (j + 1 + 1 + 1 + a.length + 2 + 1 + b.length + 2) false = [41] := sgn_pl (pre := [tk [40]] ++ PB a ++ [tk [61, 61]] ++ PB b ++ [tk [41], tk [43], tk [40]] ++ PB a ++ [tk [33, 61]] ++ PB b) (post := []) (by rw [← hL]; simp <;> rfl) (by rw [← hj]; simp [PB]; omega)
  have hlen : L.length = j + 1 + 1 + 1 + a.length + 2 + 1 + b.length + 2 + 1 := by rw [← hL, ← hj]; simp [PB]; omega
  have x1 := two_un s0 uA s1 (by decide) uB s2 e1
  have x2 := two_un s4 uA2 s5 (by decide) uB2 s6 e2
  rw [← hlen] at x2
  refine two_eval x1 s3 (by decide) x2 ?_ (by omega)
  intro c Y
  unfold OpR
  rw [if_neg (by decide), if_neg (by decide)]
  cases E <;> rfl
theorem say_PB {K : Nat} (Ca : Clo a) (hK : 4 * a.length + 100 ≤ K) : G_cond_Eval K (PB a) = G_cond_Eval K a := by
  obtain ⟨k, rfl⟩ : ∃ k, K = k + 1 + 2 := ⟨K - 3, by omega⟩
  have a1 := atom_closed (q := 0) (k1 := k + 1 + 2) (k2 := k) Ca (at_of Ca []) (sgn_of [] _ _) (sgn_end [] a) (by omega) (by omega)
  have d1 := drop_of [] a
  simp only [List.nil_append, List.length_nil] at a1 d1
  have z1 : sgn (PB a) 0 false = [40] := rfl
  obtain ⟨v, u, e, b0, b1⟩ := a1
  rw [b0]
  rcases b1 with ⟨rfl, hu, b1⟩ | ⟨rfl, rfl, rfl, w, uw, X, hu, b1⟩
  · have := eval_last (un_br z1 b1) (fun _ => by simpa using d1)
    rw [this]; rfl
  · have := eval_last (un_br z1 b1) (fun h => by cases h)
    rw [this]; rfl
end
theorem lexd_PB {a : List T_api_Tok} (C : Lexd a) (h : a.length ≤ 1000000) : Lexd (PB a) := by
  have k : ∀ t ∈ PB a, t = tk [40] ∨ t = tk [41] ∨ t ∈ a := by
    intro t ht
    simp only [PB, List.mem_cons, List.mem_append, List.not_mem_nil, or_false] at ht
    rcases ht with h | h | h
    · exact .inl h
    · exact .inr (.inr h)
    · exact .inr (.inl h)
  refine ⟨⟨by simp [PB]; omega, ?_⟩, ?_⟩
  · intro t ht
    rcases k t ht with rfl | rfl | h
    · decide
    · decide
    · exact C.ok.2 t h
  · intro t ht hk
    rcases k t ht with rfl | rfl | h
    · exact absurd rfl hk
    · exact absurd rfl hk
    · exact C.kind t h hk
theorem part_ok (s : Bytes) (hs : s.length ≤ 1048576) : ∃ l r, subT s (if (500 : Int) < ((List.length s : Nat) : Int) then (500 : Int) else ((List.length s : Nat) : Int)) = some (s.take 500) ∧ G_burinlaw05_lexed (s.take 500) = some l ∧ l.length ≤ 20000 ∧ Lexd l ∧ G_burinlaw05_closed l = some r ∧ (r = true → Clo l) := by
  have hsub : subT s (if (500 : Int) < ((List.length s : Nat) : Int) then (500 : Int) else ((List.length s : Nat) : Int)) = some (s.take 500) := by
    split
    · rename_i h; exact subT_nat (n := 500) (by omega)
    · rename_i h; rw [subT_len, List.take_of_length_le (by omega)]
  have hl : (s.take 500).length ≤ 500 := by simp; omega
  obtain ⟨l, h1, h2, h3, h4⟩ := lexed_ok (s.take 500) (by omega)
  obtain ⟨r, c1, c2⟩ := closed_ok l (by omega)
  have C : Lexd l := ⟨⟨by omega, fun t ht => by have := h3 t ht; omega⟩, h4⟩
  exact ⟨l, r, hsub, h1, h2, C, c1, fun h => ⟨C, (c2 h).1, (c2 h).2⟩⟩
theorem condNots_true (s : Bytes) (hs : s.length ≤ 1048576) (t : Bytes) (ht : t.length ≤ 1048576) : ∃ k, G_burinlaw05_CondNots k s t = some true := by
  obtain ⟨a, ra, a1, a2, a3, a4, a5, a6⟩ := part_ok s hs
  obtain ⟨b, rb, b1, b2, b3, b4, b5, b6⟩ := part_ok t ht
  refine ⟨4 * a.length + 4 * b.length + 200, ?_⟩
  generalize hK : 4 * a.length + 4 * b.length + 200 = K
  obtain ⟨va, ua, ea, hA⟩ := eval_tot (lexd_PB a4 (by omega)) (k := K) (by simp [PB]; omega)
  obtain ⟨vb, ub, eb, hB⟩ := eval_tot (lexd_PB b4 (by omega)) (k := K) (by simp [PB]; omega)
  have sd := fun w h => said_ok w h a b (by omega) K
  have wA : ([65] : Bytes).flatMap (pieceOf a b) = PB a := List.append_nil _
  have wB : ([66] : Bytes).flatMap (pieceOf a b) = PB b := List.append_nil _
  unfold G_burinlaw05_CondNots
  rw [show G_burinlaw05_shown = some true from rfl, bind_some', a1, bind_some', a2, bind_some', b1, bind_some', b2, bind_some', sd [65] (by decide), wA, hA, bind_some', sd [66] (by decide), wB, hB]
  simp only [bind_some']
  by_cases e1 : ea = 0
  case neg =>
    have : (!(ea == (0 : Int))) = true := by simpa using e1
    simp only [this, if_true, bind_some']
  by_cases e2 : eb = 0
  case neg =>
    have : (!(eb == (0 : Int))) = true := by simpa using e2
    have h1 : (!(ea == (0 : Int))) = false := by simpa using e1
    simp only [this, h1, if_true, Bool.false_eq_true, if_false, bind_some']
  subst e1 e2
  have z : (!((0 : Int) == (0 : Int))) = false := rfl
  simp only [z, Bool.false_eq_true, if_false, a5, bind_some']
  cases ra with
  | false => simp only [Bool.not_false, if_true, bind_some']
  | true =>
    simp only [Bool.not_true, Bool.false_eq_true, if_false, b5, bind_some']
    cases rb with
    | false => simp only [Bool.not_false, if_true, bind_some']
    | true =>
      have Ca := a6 rfl
      have Cb := b6 rfl
      rw [say_PB Ca (by omega)] at hA
      rw [say_PB Cb (by omega)] at hB
      have k1 := say_both (op := [38, 38]) (K := K) Ca Cb (by omega) hA hB (by decide) (x := if !(va == 0) && !(vb == 0) then 1 else 0) (ux := false) (fun c Y => ⟨rfl, rfl, rfl⟩)
      have k2 := say_nots (op := [124, 124]) (K := K) Ca Cb (by omega) hA hB (by decide) (x := if !((if va == 0 then (1 : Int) else 0) == 0) || !((if vb == 0 then (1 : Int) else 0) == 0) then 1 else 0) (ux := false) (fun c Y => ⟨rfl, rfl, rfl⟩)
      have k3 := say_both (op := [124, 124]) (K := K) Ca Cb (by omega) hA hB (by decide) (x := if !(va == 0) || !(vb == 0) then 1 else 0) (ux := false) (fun c Y => ⟨rfl, rfl, rfl⟩)
      have k4 := say_nots (op := [38, 38]) (K := K) Ca Cb (by omega) hA hB (by decide) (x := if !((if va == 0 then (1 : Int) else 0) == 0) && !((if vb == 0 then (1 : Int) else 0) == 0) then 1 else 0) (ux := false) (fun c Y => ⟨rfl, rfl, rfl⟩)
      have k5 := say_one (K := K) Ca Cb (by omega) hA hB
      have w1 : ([33, 40, 65, 38, 66, 41] : Bytes).flatMap (pieceOf a b) = tk [33] :: tk [40] :: (PB a ++ (tk [38, 38] :: (PB b ++ [tk [41]]))) := rfl
      have w2 : ([33, 65, 124, 33, 66] : Bytes).flatMap (pieceOf a b) = tk [33] :: (PB a ++ (tk [124, 124] :: tk [33] :: (PB b ++ []))) := rfl
      have w3 : ([33, 40, 65, 124, 66, 41] : Bytes).flatMap (pieceOf a b) = tk [33] :: tk [40] :: (PB a ++ (tk [124, 124] :: (PB b ++ [tk [41]]))) := rfl
      have w4 : ([33, 65, 38, 33, 66] : Bytes).flatMap (pieceOf a b) = tk [33] :: (PB a ++ (tk [38, 38] :: tk [33] :: (PB b ++ []))) := rfl
      have w5 : ([40, 65, 61, 66, 41, 43, 40, 65, 35, 66, 41] : Bytes).flatMap (pieceOf a b) = tk [40] :: (PB a ++ (tk [61, 61] :: (PB b ++ (tk [41] :: tk [43] :: tk [40] :: (PB a ++ (tk [33, 61] :: (PB b ++ [tk [41]]))))))) := rfl
      rw [List.append_nil] at w2 w4
      simp only [Bool.not_true, Bool.false_eq_true, if_false, bind_some']
      rw [← w1] at k1
      rw [← w2] at k2
      rw [← w3] at k3
      rw [← w4] at k4
      rw [← w5] at k5
      rw [← sd _ (by decide)] at k1 k2 k3 k4 k5
      simp only [k1, k2, k3, k4, k5, bind_some']
      cases va == 0 <;> cases vb == 0 <;> rfl
end Go.Proofs.YtmngkcpobmhnoaaGreatDoor.Sim.Pl
