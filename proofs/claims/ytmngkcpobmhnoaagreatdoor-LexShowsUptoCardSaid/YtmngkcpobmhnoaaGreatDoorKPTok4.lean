/- Plain laws: the tokens of lines, as the document has them; which token a text is. -/
import Derived.Test.YtmngkcpobmhnoaaGreatDoorKPl3
set_option linter.all false
namespace Go.Proofs.YtmngkcpobmhnoaaGreatDoor.Sim.Pl
open Go.Proofs

def tokStep (s : Bytes) (n : Int) (i : Int) (out : List T_api_Tok) (sp fi : Bool) (f : Int) : Option ((Int × List T_api_Tok × Bool × Bool × Bool × Int) ⊕ (Ex2 (Int × List T_api_Tok × Bool × Bool × Int) (List T_api_Tok × Bool × Bool × Bool × Int))) :=
 subF s i >>= fun t171 =>
 G_burinref02_first t171 >>= fun (r172, r173) =>
 if (r173 == (0 : Int)) then
  some (Sum.inr (Ex2.a ((21 : Int), out, sp, fi, f)))
 else
  if (decide ((20000 : Int) ≤ ((List.length out : Nat) : Int))) then
   some (Sum.inr (Ex2.a ((22 : Int), out, sp, fi, f)))
  else
   subB s i (IntKind.wrap .i64 (i + r173)) >>= fun t177 =>
   app 56 out [(T_api_Tok.mk r172 t177 [] n sp fi)] >>= fun t179 =>
   some (Sum.inl ((IntKind.wrap .i64 (i + r173)), t179, false, false, false, f))

theorem ref_skip (s : Bytes) (n : Int) (hs : s.length ≤ 16777216) (out : List T_api_Tok) (fi : Bool) : ∀ (m i : Nat) (o : Bool) (f : Int) (sp : Bool), s.length - i ≤ m → i ≤ s.length →
  match skipS n o f sp (s.drop i) with
  | ([], o', f', sp') => ∃ X, loopO (G_burinref02_Lex_L2 s n) ((i : Int), out, sp, fi, o, f) = some X ∧ (X = Ex2.a (0, out, sp', fi, f') ∧ o' = false ∨ X = Ex2.b (out, sp', fi, o', f'))
  | (c :: r, o', f', sp') => ∃ i' : Nat, i ≤ i' ∧ i' < s.length ∧ s.drop i' = c :: r ∧ o' = false ∧ loopO (G_burinref02_Lex_L2 s n) ((i : Int), out, sp, fi, o, f) = loopO (G_burinref02_Lex_L2 s n) ((i' : Int), out, sp', fi, false, f') ∧
    G_burinref02_Lex_L2 s n ((i' : Int), out, sp', fi, false, f') = tokStep s n (i' : Int) out sp' fi f' := by
 intro m
 induction m with
 | zero =>
  intro i o f sp h hi
  have e : s.drop i = [] := List.drop_eq_nil_of_le (by omega)
  rw [e, skipS_nil]
  refine ⟨_, loopO_inr ?_, .inr rfl⟩
  have : decide ((i : Int) < (s.length : Int)) = false := by simp only [decide_eq_false_iff_not]; omega
  simp only [G_burinref02_Lex_L2, this]
  rfl
 | succ m ih =>
  intro i o f sp h hi
  by_cases hlt : i < s.length
  ·have hlt' : decide ((i : Int) < (s.length : Int)) = true := by simp only [decide_eq_true_eq]; omega
   have e1 := List.drop_eq_getElem_cons hlt
   have hc1 : idx s (i : Int) = some s[i] := by rw [idx_nat, List.getElem?_eq_getElem hlt]
   generalize s[i] = c at e1 hc1
   have w1 : IntKind.wrap .i64 ((i : Int) + 1) = ((i + 1 : Nat) : Int) := by rw [wi (by omega) (by omega)]; rfl
   have w2 : IntKind.wrap .i64 ((i : Int) + 2) = ((i + 2 : Nat) : Int) := by rw [wi (by omega) (by omega)]; rfl
   have w11 : IntKind.wrap .i64 (((i + 1 : Nat) : Int) + 1) = ((i + 2 : Nat) : Int) := by rw [wi (by omega) (by omega)]; rfl
   cases hr : s.drop (i + 1) with
   | nil =>
    have hend : s.length = i + 1 := by
     have := congrArg List.length hr
     simp at this; omega
    have hl1 : decide (((i + 1 : Nat) : Int) < (s.length : Int)) = false := by simp only [decide_eq_false_iff_not]; omega
    have hfin : ∀ (sp o : Bool) (f : Int), G_burinref02_Lex_L2 s n (((i + 1 : Nat) : Int), out, sp, fi, o, f) = some (Sum.inr (Ex2.b (out, sp, fi, o, f))) := by
     intro sp o f
     simp only [G_burinref02_Lex_L2, hl1]
     rfl
    rw [e1, hr]
    cases o with
    | true =>
     rw [skipS]
     have body : G_burinref02_Lex_L2 s n ((i : Int), out, sp, fi, true, f) = some (Sum.inl (((i + 1 : Nat) : Int), out, true, fi, true, f)) := by
      simp only [G_burinref02_Lex_L2, hlt', if_true, w1, hl1]
      rfl
     exact ⟨_, (loopO_inl body).trans (loopO_inr (hfin _ _ _)), .inr rfl⟩
    | false =>
     rw [skipS]
     cases hb : blankB c with
     | true =>
      have body : G_burinref02_Lex_L2 s n ((i : Int), out, sp, fi, false, f) = some (Sum.inl (((i + 1 : Nat) : Int), out, true, fi, false, f)) := by
       simp only [G_burinref02_Lex_L2, hlt', if_true, Bool.false_eq_true, if_false, hc1, bind_some', G_blank, hb, w1]
      exact ⟨_, (loopO_inl body).trans (loopO_inr (hfin _ _ _)), .inr rfl⟩
     | false =>
      refine ⟨i, Nat.le_refl _, hlt, by rw [e1, hr], rfl, rfl, ?_⟩
      simp only [G_burinref02_Lex_L2, hlt', if_true, Bool.false_eq_true, if_false, hc1, bind_some', G_blank, hb, w1, hl1]
      rfl
   | cons d r =>
    have hlt2 : i + 1 < s.length := by
     have := congrArg List.length hr
     simp at this; omega
    have hl1 : decide (((i + 1 : Nat) : Int) < (s.length : Int)) = true := by simp only [decide_eq_true_eq]; omega
    have hd1 : idx s ((i + 1 : Nat) : Int) = some d := by
     rw [idx_nat]
     have := List.drop_eq_getElem_cons hlt2
     rw [hr] at this
     rw [List.getElem?_eq_getElem hlt2]
     injection this with h1 h2
     rw [h1]
    have hr2 : s.drop (i + 2) = r := by rw [show i + 2 = (i + 1) + 1 by omega, ← List.drop_drop, hr]; rfl
    rw [e1, hr]
    cases o with
    | true =>
     rw [skipS]
     by_cases h1 : c = 42 ∧ d = 47
     ·rw [if_pos h1]
      obtain ⟨rfl, rfl⟩ := h1
      have body : G_burinref02_Lex_L2 s n ((i : Int), out, sp, fi, true, f) = some (Sum.inl (((i + 2 : Nat) : Int), out, true, fi, false, f)) := by
       have e42 : ((42 : UInt8) == 42) = true := rfl
       have e47 : ((47 : UInt8) == 47) = true := rfl
       simp only [G_burinref02_Lex_L2, hlt', if_true, w1, hl1, hc1, hd1, bind_some', q42, q47, e42, e47, w11]
      have := ih (i + 2) false f true (by omega) (by omega)
      rw [hr2] at this
      rw [loopO_inl body]
      generalize skipS n false f true r = Q at this ⊢
      obtain ⟨R, o', f', sp'⟩ := Q
      cases R with
      | nil => exact this
      | cons x y =>
       obtain ⟨i', a1, a2, a3, a4, a5, a6⟩ := this
       exact ⟨i', by omega, a2, a3, a4, a5, a6⟩
     ·rw [if_neg h1]
      have body : G_burinref02_Lex_L2 s n ((i : Int), out, sp, fi, true, f) = some (Sum.inl (((i + 1 : Nat) : Int), out, true, fi, true, f)) := by
       simp only [G_burinref02_Lex_L2, hlt', if_true, w1, hl1, hc1, hd1, bind_some', q42, q47]
       cases h2 : (c == 42) with
       | false => rfl
       | true =>
        have : (d == 47) = false := by
         rw [Bool.eq_false_iff]
         intro h3
         exact h1 ⟨by simpa using h2, by simpa using h3⟩
        rw [this]; rfl
      have := ih (i + 1) true f true (by omega) (by omega)
      rw [hr] at this
      rw [loopO_inl body]
      generalize skipS n true f true (d :: r) = Q at this ⊢
      obtain ⟨R, o', f', sp'⟩ := Q
      cases R with
      | nil => exact this
      | cons x y =>
       obtain ⟨i', a1, a2, a3, a4, a5, a6⟩ := this
       exact ⟨i', by omega, a2, a3, a4, a5, a6⟩
    | false =>
     rw [skipS]
     cases hb : blankB c with
     | true =>
      have body : G_burinref02_Lex_L2 s n ((i : Int), out, sp, fi, false, f) = some (Sum.inl (((i + 1 : Nat) : Int), out, true, fi, false, f)) := by
       simp only [G_burinref02_Lex_L2, hlt', if_true, Bool.false_eq_true, if_false, hc1, bind_some', G_blank, hb, w1]
      have := ih (i + 1) false f true (by omega) (by omega)
      rw [hr] at this
      rw [loopO_inl body]
      simp only [if_true]
      generalize skipS n false f true (d :: r) = Q at this ⊢
      obtain ⟨R, o', f', sp'⟩ := Q
      cases R with
      | nil => exact this
      | cons x y =>
       obtain ⟨i', a1, a2, a3, a4, a5, a6⟩ := this
       exact ⟨i', by omega, a2, a3, a4, a5, a6⟩
     | false =>
      simp only [Bool.false_eq_true, if_false]
      by_cases h1 : c = 47 ∧ d = 47
      ·rw [if_pos h1]
       obtain ⟨rfl, rfl⟩ := h1
       have e47 : ((47 : UInt8) == 47) = true := rfl
       refine ⟨_, loopO_inr (x := Ex2.a (0, out, sp, fi, f)) ?_, .inl ⟨rfl, rfl⟩⟩
       simp only [G_burinref02_Lex_L2, hlt', if_true, Bool.false_eq_true, if_false, hc1, hd1, bind_some', G_blank, hb, w1, hl1, q47, e47]
      ·rw [if_neg h1]
       by_cases h2 : c = 47 ∧ d = 42
       ·rw [if_pos h2]
        obtain ⟨rfl, rfl⟩ := h2
        have e47 : ((47 : UInt8) == 47) = true := rfl
        have e42 : ((42 : UInt8) == 42) = true := rfl
        have e42' : ((42 : UInt8) == 47) = false := rfl
        have body : G_burinref02_Lex_L2 s n ((i : Int), out, sp, fi, false, f) = some (Sum.inl (((i + 2 : Nat) : Int), out, sp, fi, true, n)) := by
         simp only [G_burinref02_Lex_L2, hlt', if_true, Bool.false_eq_true, if_false, hc1, hd1, bind_some', G_blank, hb, w1, w2, hl1, q47, q42, e47, e42, e42']
        have := ih (i + 2) true n sp (by omega) (by omega)
        rw [hr2] at this
        rw [loopO_inl body]
        generalize skipS n true n sp r = Q at this ⊢
        obtain ⟨R, o', f', sp'⟩ := Q
        cases R with
        | nil => exact this
        | cons x y =>
         obtain ⟨i', a1, a2, a3, a4, a5, a6⟩ := this
         exact ⟨i', by omega, a2, a3, a4, a5, a6⟩
       ·rw [if_neg h2]
        refine ⟨i, Nat.le_refl _, hlt, by rw [e1, hr], rfl, rfl, ?_⟩
        cases h47 : (c == 47) with
        | false =>
         simp only [G_burinref02_Lex_L2, hlt', if_true, Bool.false_eq_true, if_false, hc1, hd1, bind_some', G_blank, hb, w1, hl1, q47, h47]
         rfl
        | true =>
         have hc47 : c = 47 := by simpa using h47
         have d47 : (d == 47) = false := by
          rw [Bool.eq_false_iff]; intro h3; exact h1 ⟨hc47, by simpa using h3⟩
         have d42 : (d == 42) = false := by
          rw [Bool.eq_false_iff]; intro h3; exact h2 ⟨hc47, by simpa using h3⟩
         simp only [G_burinref02_Lex_L2, hlt', if_true, Bool.false_eq_true, if_false, hc1, hd1, bind_some', G_blank, hb, w1, hl1, q47, q42, h47, d47, d42]
         rfl
  ·have e : s.drop i = [] := List.drop_eq_nil_of_le (by omega)
   rw [e, skipS_nil]
   refine ⟨_, loopO_inr ?_, .inr rfl⟩
   have : decide ((i : Int) < (s.length : Int)) = false := by simp only [decide_eq_false_iff_not]; omega
   simp only [G_burinref02_Lex_L2, this]
   rfl

theorem ref_toks (s : Bytes) (n : Int) (hs : s.length ≤ 16777216) : ∀ (k i : Nat) (o : Bool) (f : Int) (sp fi : Bool) (out : List T_api_Tok), s.length - i < k → i ≤ s.length → out.length ≤ 20000 →
  ∃ X, loopO (G_burinref02_Lex_L2 s n) ((i : Int), out, sp, fi, o, f) = some X ∧
   (match lexL n k o f sp fi out (s.drop i) with
    | .quote => ∃ a b c d, X = Ex2.a (21, a, b, c, d)
    | .many => ∃ a b c d, X = Ex2.a (22, a, b, c, d)
    | .ok out' o' f' sp' fi' => (X = Ex2.a (0, out', sp', fi', f') ∧ o' = false ∨ X = Ex2.b (out', sp', fi', o', f')) ∧ out'.length ≤ 20000) := by
 intro k
 induction k with
 | zero => intro i o f sp fi out h; omega
 | succ k ih =>
  intro i o f sp fi out h hi ho
  have hsk := ref_skip s n hs out fi (s.length - i) i o f sp (Nat.le_refl _) hi
  simp only [lexL]
  generalize skipS n o f sp (s.drop i) = Q at hsk
  obtain ⟨R, o', f', sp'⟩ := Q
  cases R with
  | nil =>
   obtain ⟨X, h1, h2⟩ := hsk
   exact ⟨X, h1, h2, ho⟩
  | cons c r =>
   obtain ⟨i', a1, a2, a3, rfl, a5, a6⟩ := hsk
   rw [a5]
   have hlr : s.length - i' = r.length + 1 := by
    have := congrArg List.length a3
    simpa using this
   have hle := nextS_le c r
   have hf : subF s (i' : Int) = some (c :: r) := by rw [subF_nat (by omega), a3]
   have hn := G_first c r (by simp only [List.length_cons]; omega)
   have w1 : IntKind.wrap .i64 ((i' : Int) + ((nextS c r).2 : Int)) = ((i' + (nextS c r).2 : Nat) : Int) := by rw [wi (by omega) (by omega)]; rfl
   have hsb : subB s (i' : Int) ((i' + (nextS c r).2 : Nat) : Int) = some ((c :: r).take (nextS c r).2) := by
    rw [subB_nat (by omega) (by omega), List.drop_take, a3, Nat.add_sub_cancel_left]
   simp only []
   by_cases h0 : (nextS c r).2 = 0
   ·rw [if_pos h0]
    have h0' : (((nextS c r).2 : Int) == 0) = true := by simp [h0]
    refine ⟨Ex2.a (21, out, sp', fi, f'), loopO_inr ?_, _, _, _, _, rfl⟩
    rw [a6]
    simp only [tokStep, hf, hn, bind_some', h0', if_true]
   ·rw [if_neg h0]
    have h0' : (((nextS c r).2 : Int) == 0) = false := by simp; omega
    by_cases hm : 20000 ≤ out.length
    ·rw [if_pos hm]
     have hml : decide ((20000 : Int) ≤ ((List.length out : Nat) : Int)) = true := by simp only [decide_eq_true_eq]; omega
     refine ⟨Ex2.a (22, out, sp', fi, f'), loopO_inr ?_, _, _, _, _, rfl⟩
     rw [a6]
     simp only [tokStep, hf, hn, bind_some', h0', hml, if_true, Bool.false_eq_true, if_false]
    ·rw [if_neg hm]
     have hml : decide ((20000 : Int) ≤ ((List.length out : Nat) : Int)) = false := by simp only [decide_eq_false_iff_not]; omega
     have hap : app 56 out [(⟨((nextS c r).1 : Int), (c :: r).take (nextS c r).2, [], n, sp', fi⟩ : T_api_Tok)] = some (out ++ [⟨((nextS c r).1 : Int), (c :: r).take (nextS c r).2, [], n, sp', fi⟩]) := app_some (by simp; omega)
     have body : G_burinref02_Lex_L2 s n ((i' : Int), out, sp', fi, false, f') = some (Sum.inl (((i' + (nextS c r).2 : Nat) : Int), out ++ [⟨((nextS c r).1 : Int), (c :: r).take (nextS c r).2, [], n, sp', fi⟩], false, false, false, f')) := by
      rw [a6]
      simp only [tokStep, hf, hn, bind_some', h0', hml, Bool.false_eq_true, if_false, w1, hsb, hap]
     rw [loopO_inl body]
     have := ih (i' + (nextS c r).2) false f' false false (out ++ [⟨((nextS c r).1 : Int), (c :: r).take (nextS c r).2, [], n, sp', fi⟩]) (by omega) (by omega) (by simp; omega)
     rw [← List.drop_drop, a3] at this
     exact this

theorem ref_lines (L : List T_api_Line) (hL : LinesOK L) : ∀ j, j ≤ L.length → ∀ (o : Bool) (f : Int) (sp fi : Bool) (out : List T_api_Tok), out.length ≤ 20000 →
  ∃ X, loopO (G_burinref02_Lex_L1 L) ((j : Int), out, sp, fi, o, f) = some X ∧
   (match lexLs o f sp fi out (L.drop j) with
    | .inl out' => ∃ b c e, X = Ex2.b (out', b, c, false, e)
    | .inr (e, m) => (∃ a b c d g, X = Ex2.a (e, m, a, b, c, d, g)) ∨ (e = 20 ∧ ∃ a b c, X = Ex2.b (a, b, c, true, m))) := by
 refine rest_ind (P := fun j r => ∀ (o : Bool) (f : Int) (sp fi : Bool) (out : List T_api_Tok), out.length ≤ 20000 →
  ∃ X, loopO (G_burinref02_Lex_L1 L) ((j : Int), out, sp, fi, o, f) = some X ∧
   (match lexLs o f sp fi out r with
    | .inl out' => ∃ b c e, X = Ex2.b (out', b, c, false, e)
    | .inr (e, m) => (∃ a b c d g, X = Ex2.a (e, m, a, b, c, d, g)) ∨ (e = 20 ∧ ∃ a b c, X = Ex2.b (a, b, c, true, m)))) ?_ ?_
 ·intro o f sp fi out ho
  have hlt : decide (((L.length : Nat) : Int) < ((L.length : Nat) : Int)) = false := by simp
  refine ⟨Ex2.b (out, sp, fi, o, f), loopO_inr ?_, ?_⟩
  ·simp only [G_burinref02_Lex_L1, hlt]; rfl
  ·cases o with
   | true => exact .inr ⟨rfl, _, _, _, rfl⟩
   | false => exact ⟨_, _, _, rfl⟩
 ·intro j l r hj hc e1 e2 ih o f sp fi out ho
  have hlt : decide (((j : Nat) : Int) < ((L.length : Nat) : Int)) = true := by simp; omega
  have hc1 : idx L (j : Int) = some l := by rw [idx_nat, hc]
  have hl : l.S_.length ≤ 16777216 := hL.2 l (List.mem_of_getElem? hc)
  have hw : IntKind.wrap .i64 ((j : Int) + 1) = ((j + 1 : Nat) : Int) := by have := hL.1; rw [wi (by omega) (by omega)]; rfl
  have hif : (if (!o) = true then some (false, true) else some (sp, fi)) = some ((if o then sp else false), (if o then fi else true)) := by cases o <;> rfl
  obtain ⟨X, h1, h2⟩ := ref_toks l.S_ l.N_ hl (l.S_.length + 1) 0 o f (if o then sp else false) (if o then fi else true) out (by omega) (Nat.zero_le _) ho
  rw [List.drop_zero] at h2
  have h1 : loopO (G_burinref02_Lex_L2 l.S_ l.N_) ((0 : Int), out, (if o then sp else false), (if o then fi else true), o, f) = some X := h1
  simp only [lexLs]
  cases hlex : lexL l.N_ (l.S_.length + 1) o f (if o then sp else false) (if o then fi else true) out l.S_ with
  | quote =>
   rw [hlex] at h2
   obtain ⟨a, b, c, d, rfl⟩ := h2
   refine ⟨_, loopO_inr (x := Ex2.a (21, l.N_, a, b, c, false, d)) ?_, .inl ⟨_, _, _, _, _, rfl⟩⟩
   simp only [G_burinref02_Lex_L1, hlt, if_true, hc1, bind_some', hif, h1]
   rfl
  | many =>
   rw [hlex] at h2
   obtain ⟨a, b, c, d, rfl⟩ := h2
   refine ⟨_, loopO_inr (x := Ex2.a (22, l.N_, a, b, c, false, d)) ?_, .inl ⟨_, _, _, _, _, rfl⟩⟩
   simp only [G_burinref02_Lex_L1, hlt, if_true, hc1, bind_some', hif, h1]
   rfl
  | ok out' o' f' sp' fi' =>
   rw [hlex] at h2
   obtain ⟨h3, h4⟩ := h2
   have body : G_burinref02_Lex_L1 L ((j : Int), out, sp, fi, o, f) = some (Sum.inl (((j + 1 : Nat) : Int), out', sp', fi', o', f')) := by
    rcases h3 with ⟨rfl, rfl⟩ | rfl
    ·simp only [G_burinref02_Lex_L1, hlt, if_true, hc1, bind_some', hif, h1, hw]
     rfl
    ·simp only [G_burinref02_Lex_L1, hlt, if_true, hc1, bind_some', hif, h1, hw]
     rfl
   rw [loopO_inl body]
   exact ih o' f' sp' fi' out' h4
theorem G_ref_Lex (L : List T_api_Line) (hL : LinesOK L) : G_burinref02_Lex L = some (lexR (lexLs false 0 false false [] L)) := by
 obtain ⟨X, h1, h2⟩ := ref_lines L hL 0 (Nat.zero_le _) false 0 false false [] (by simp)
 rw [List.drop_zero] at h2
 have h1 : loopO (G_burinref02_Lex_L1 L) ((0 : Int), ([] : List T_api_Tok), false, false, false, (0 : Int)) = some X := h1
 rw [G_burinref02_Lex, h1, bind_some']
 cases hx : lexLs false 0 false false [] L with
 | inl out =>
  rw [hx] at h2
  obtain ⟨b, c, e, rfl⟩ := h2
  rfl
 | inr p =>
  obtain ⟨e', m⟩ := p
  rw [hx] at h2
  rcases h2 with ⟨a, b, c, d, g, rfl⟩ | ⟨rfl, a, b, c, rfl⟩
  ·rfl
  ·rfl

def oneS (s : Bytes) : Option T_api_Tok :=
 match lexLs false 0 false false [] [⟨1, s⟩] with
 | .inl [t] => if t.S_ = s then some t else none
 | _ => none
def oneR : Option T_api_Tok → T_api_Tok × Bool
 | none => (⟨0, [], [], 0, false, false⟩, false)
 | some t => (t, true)
theorem lexLs_err {o : Bool} {f : Int} {sp fi : Bool} {out : List T_api_Tok} {L : List T_api_Line} {e m : Int} (h : lexLs o f sp fi out L = .inr (e, m)) : e ≠ 0 := by
 induction L generalizing o f sp fi out with
 | nil =>
  simp only [lexLs] at h
  split at h
  ·cases h; decide
  ·cases h
 | cons l ls ih =>
  simp only [lexLs] at h
  split at h
  ·cases h; decide
  ·cases h; decide
  ·exact ih h
theorem G_One (s : Bytes) (hs : s.length ≤ 16777216) : G_token_One s = some (oneR (oneS s)) := by
 have h := G_Lex [⟨1, s⟩] ⟨by simp, fun x hx => by simp at hx; subst hx; exact hs⟩
 unfold G_token_One oneS
 rw [h, bind_some']
 cases hx : lexLs false 0 false false [] [⟨1, s⟩] with
 | inr p =>
  obtain ⟨e, m⟩ := p
  have h0 := lexLs_err hx
  have h0' : (e == (0 : Int)) = false := by simpa using h0
  simp only [lexR, h0', Bool.not_false, if_true]
  rfl
 | inl out =>
  match out with
  | [] => rfl
  | [t] =>
   have e1 : ((((([t] : List T_api_Tok).length : Nat) : Int)) == 1) = true := rfl
   simp only [lexR, idx_0, bind_some']
   by_cases ht : t.S_ = s
   ·have ht' : (t.S_ == s) = true := by simpa using ht
    rw [if_pos ht]
    simp only [ht']
    rfl
   ·have ht' : (t.S_ == s) = false := by simpa using ht
    rw [if_neg ht]
    simp only [ht']
    rfl
  | t :: u :: r =>
   have e1 : (((((t :: u :: r).length : Nat) : Int)) == 1) = false := by simp; omega
   simp only [lexR, e1]
   rfl

theorem skipS_suf (n : Int) : ∀ (k : Nat) (o : Bool) (f : Int) (sp : Bool) (s : Bytes), s.length ≤ k → (skipS n o f sp s).1 <:+ s := by
 intro k
 induction k with
 | zero =>
  intro o f sp s h
  have : s = [] := List.length_eq_zero_iff.1 (by omega)
  subst this
  rw [skipS_nil]; exact List.suffix_refl _
 | succ k ih =>
  intro o f sp s h
  match o, s, h with
  | o, [], _ => rw [skipS_nil]; exact List.suffix_refl _
  | true, [c], _ => rw [skipS]; exact List.nil_suffix
  | true, c :: d :: r, h =>
   rw [skipS]
   simp only [List.length_cons] at h
   split
   ·exact (ih false f true r (by omega)).trans ⟨[c, d], rfl⟩
   ·exact (ih true f true (d :: r) (by simp only [List.length_cons]; omega)).trans ⟨[c], rfl⟩
  | false, [c], _ => rw [skipS]; split; exact List.nil_suffix; exact List.suffix_refl _
  | false, c :: d :: r, h =>
   rw [skipS]
   simp only [List.length_cons] at h
   split
   ·exact (ih false f true (d :: r) (by simp only [List.length_cons]; omega)).trans ⟨[c], rfl⟩
   ·split
    ·exact List.nil_suffix
    ·split
     ·exact (ih true n sp r (by omega)).trans ⟨[c, d], rfl⟩
     ·exact List.suffix_refl _
theorem lexL_inf (n : Int) : ∀ (k : Nat) (o : Bool) (f : Int) (sp fi : Bool) (out : List T_api_Tok) (s : Bytes) (out' : List T_api_Tok) (o' : Bool) (f' : Int) (sp' fi' : Bool), lexL n k o f sp fi out s = .ok out' o' f' sp' fi' →
  ∀ t ∈ out', t ∈ out ∨ t.S_ <:+: s := by
 intro k
 induction k with
 | zero =>
  intro o f sp fi out s out' o' f' sp' fi' h t ht
  simp only [lexL] at h
  cases h
  exact .inl ht
 | succ k ih =>
  intro o f sp fi out s out' o' f' sp' fi' h t ht
  simp only [lexL] at h
  have hsuf := skipS_suf n s.length o f sp s (Nat.le_refl _)
  generalize skipS n o f sp s = Q at h hsuf
  obtain ⟨R, o1, f1, sp1⟩ := Q
  cases R with
  | nil => cases h; exact .inl ht
  | cons c r =>
   simp only at h hsuf
   split at h
   ·cases h
   ·split at h
    ·cases h
    ·rcases ih _ _ _ _ _ _ _ _ _ _ _ h t ht with h1 | h1
     ·rcases List.mem_append.1 h1 with h2 | h2
      ·exact .inl h2
      ·right
       simp only [List.mem_singleton] at h2
       subst h2
       exact (List.take_prefix _ _).isInfix.trans hsuf.isInfix
     ·exact .inr (h1.trans ((List.drop_suffix _ _).isInfix.trans hsuf.isInfix))
theorem lex1_inf {s : Bytes} {out : List T_api_Tok} (h : lexLs false 0 false false [] [⟨1, s⟩] = .inl out) : ∀ t ∈ out, t.S_ <:+: s := by
 intro t ht
 simp only [lexLs] at h
 split at h
 ·cases h
 ·cases h
 ·rename_i hl
  split at h
  ·cases h
  ·cases h
   rcases lexL_inf _ _ _ _ _ _ _ _ _ _ _ _ _ hl t ht with h1 | h1
   ·cases h1
   ·exact h1
theorem inf_len {T : Type} {a b : List T} (h : a <:+: b) (hl : a.length = b.length) : a = b := h.eq_of_length hl
theorem G_ref_One (s : Bytes) (hs : s.length ≤ 16777216) : G_burinref02_One s = some (oneR (oneS s)) := by
 have h := G_ref_Lex [⟨1, s⟩] ⟨by simp, fun x hx => by simp at hx; subst hx; exact hs⟩
 unfold G_burinref02_One oneS
 rw [h, bind_some']
 cases hx : lexLs false 0 false false [] [⟨1, s⟩] with
 | inr p =>
  obtain ⟨e, m⟩ := p
  have h0 := lexLs_err hx
  have h0' : (e == (0 : Int)) = false := by simpa using h0
  simp only [lexR, h0', Bool.not_false, if_true]
  rfl
 | inl out =>
  match out, hx with
  | [], _ => rfl
  | [t], hx =>
   have hinf := lex1_inf hx t (by simp)
   simp only [lexR, idx_0, bind_some']
   by_cases ht : t.S_ = s
   ·have ht' : (((t.S_.length : Nat) : Int) == ((s.length : Nat) : Int)) = true := by simp [ht]
    rw [if_pos ht]
    simp only [ht']
    rfl
   ·have ht' : (((t.S_.length : Nat) : Int) == ((s.length : Nat) : Int)) = false := by
     rw [Bool.eq_false_iff]; intro h2; exact ht (inf_len hinf (by have := eq_of_beq h2; omega))
    rw [if_neg ht]
    simp only [ht']
    rfl
  | t :: u :: r, _ =>
   have e1 : (((((t :: u :: r).length : Nat) : Int)) == 1) = false := by simp; omega
   simp only [lexR, e1]
   rfl
end Go.Proofs.YtmngkcpobmhnoaaGreatDoor.Sim.Pl
