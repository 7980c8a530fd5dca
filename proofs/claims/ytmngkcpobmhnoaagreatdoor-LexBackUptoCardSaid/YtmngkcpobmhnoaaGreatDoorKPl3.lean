/- Plain laws: which token begins a text: the program's answer and the document's. -/
import Derived.Test.YtmngkcpobmhnoaaGreatDoorKPl1
set_option linter.all false
namespace Go.Proofs.YtmngkcpobmhnoaaGreatDoor.Sim.Pl
open Go.Proofs

def letB (c : UInt8) : Bool := (97 ≤ c.toNat && c.toNat ≤ 122) || (65 ≤ c.toNat && c.toNat ≤ 90) || c.toNat == 95
def digB (c : UInt8) : Bool := 48 ≤ c.toNat && c.toNat ≤ 57
def wordB (c : UInt8) : Bool := letB c || digB c
theorem G_isLetter (c : UInt8) : G_token_isLetter (c.toNat : Int) = some (letB c) := by
 revert c; refine all8 ?_; decide +kernel
theorem G_isDigit (c : UInt8) : G_token_isDigit (c.toNat : Int) = some (digB c) := by
 revert c; refine all8 ?_; decide +kernel
theorem G_isWord (c : UInt8) : G_token_isWord (c.toNat : Int) = some (wordB c) := by
 rw [G_token_isWord, G_isLetter, bind_some', G_isDigit]
 unfold wordB
 cases letB c <;> rfl
theorem eqb {c : UInt8} {k : Nat} (hk : k < 256) : ((c.toNat : Int) == (k : Int)) = (c == UInt8.ofNat k) := eq8 c k hk
theorem q46 (c : UInt8) : ((c.toNat : Int) == 46) = (c == 46) := eqb (k := 46) (by decide)
theorem q43 (c : UInt8) : ((c.toNat : Int) == 43) = (c == 43) := eqb (k := 43) (by decide)
theorem q45 (c : UInt8) : ((c.toNat : Int) == 45) = (c == 45) := eqb (k := 45) (by decide)
theorem q92 (c : UInt8) : ((c.toNat : Int) == 92) = (c == 92) := eqb (k := 92) (by decide)
theorem q34 (c : UInt8) : ((c.toNat : Int) == 34) = (c == 34) := eqb (k := 34) (by decide)
theorem q39 (c : UInt8) : ((c.toNat : Int) == 39) = (c == 39) := eqb (k := 39) (by decide)
theorem q101 (c : UInt8) : ((c.toNat : Int) == 101) = (c == 101) := eqb (k := 101) (by decide)
theorem qcc (c d : UInt8) : ((c.toNat : Int) == (d.toNat : Int)) = (c == d) := by
 rw [Bool.eq_iff_iff, beq_iff_eq, beq_iff_eq, Int.natCast_inj, UInt8.toNat_inj]

theorem G_next_L1 (s : Bytes) (hs : s.length ≤ 16777216) : ∀ j, j ≤ s.length → loopO (G_token_next_L1 s s) (j : Int) = some (((j + ((s.drop j).takeWhile wordB).length : Nat)) : Int) := by
 refine rest_ind (P := fun j r => loopO (G_token_next_L1 s s) (j : Int) = some (((j + (r.takeWhile wordB).length : Nat)) : Int)) ?_ ?_
 ·rw [loopO_inr (x := (s.length : Int))]
  ·simp
  ·simp [G_token_next_L1]
 ·intro j c r hj hc e1 e2 ih
  have hlt : decide ((j : Int) < (s.length : Int)) = true := by simp; omega
  have hc1 : idx s (j : Int) = some c := by rw [idx_nat, hc]
  rw [List.takeWhile_cons]
  cases hw : wordB c with
  | true =>
   rw [loopO_inl (s' := ((j + 1 : Nat) : Int)), ih]
   ·simp; omega
   ·simp only [G_token_next_L1, hlt, hc1, bind_some', G_isWord, hw, if_true]
    rw [wi (by omega) (by omega)]; rfl
  | false =>
   rw [loopO_inr (x := (j : Int))]
   ·simp
   ·simp only [G_token_next_L1, hlt, hc1, bind_some', G_isWord, hw, if_true]
    rfl
def expB (c : UInt8) : Bool := c == 101 || c == 69 || c == 112 || c == 80
def numOn (p c : UInt8) : Bool := wordB c || c == 46 || ((c == 43 || c == 45) && expB p)
def numL : UInt8 → Bytes → Nat
 | _, [] => 0
 | p, c :: r => if numOn p c then numL c r + 1 else 0
theorem numL_le (p : UInt8) (r : Bytes) : numL p r ≤ r.length := by
 induction r generalizing p with
 | nil => exact Nat.le_refl _
 | cons c r ih => simp only [numL]; have := ih c; split <;> simp <;> omega
theorem exp_in (c : UInt8) : (decide ((0 : Int) ≤ Lib.indexByte ([101, 69, 112, 80] : Bytes) c)) = expB c := by
 rw [indexByte_nn']
 revert c; refine all8 ?_; decide +kernel
theorem G_numeric_L1 (s : Bytes) (hs : s.length ≤ 16777216) : ∀ j, j ≤ s.length → 0 < j → ∀ p, s[j - 1]? = some p → loopO (G_token_numeric_L1 s s) (j : Int) = some (((j + numL p (s.drop j) : Nat)) : Int) := by
 refine rest_ind (P := fun j r => 0 < j → ∀ p, s[j - 1]? = some p → loopO (G_token_numeric_L1 s s) (j : Int) = some (((j + numL p r : Nat)) : Int)) ?_ ?_
 ·intro _ p _
  rw [loopO_inr (x := (s.length : Int))]
  ·simp [numL]
  ·simp [G_token_numeric_L1]
 ·intro j c r hj hc e1 e2 ih hj0 p hp
  have hlt : decide ((j : Int) < (s.length : Int)) = true := by simp; omega
  have hc1 : idx s (j : Int) = some c := by rw [idx_nat, hc]
  have hp1 : idx s (IntKind.wrap .i64 ((j : Int) - 1)) = some p := by
   rw [wi (by omega) (by omega)]
   exact idx_lt hp (by omega)
  have hj1 : decide ((0 : Int) < (j : Int)) = true := by simp; omega
  have hw : IntKind.wrap .i64 ((j : Int) + 1) = ((j + 1 : Nat) : Int) := by rw [wi (by omega) (by omega)]; rfl
  have body : G_token_numeric_L1 s s (j : Int) = some (if numOn p c then Sum.inl ((j + 1 : Nat) : Int) else Sum.inr (j : Int)) := by
   simp only [G_token_numeric_L1, hlt, hc1, hp1, hj1, bind_some', G_isWord, q46, q43, q45, if_true, toNat8, exp_in, hw]
   unfold numOn
   cases wordB c <;> cases c == 46 <;> cases c == 43 <;> cases c == 45 <;> cases expB p <;> rfl
  simp only [numL]
  cases hn : numOn p c with
  | true =>
   rw [hn] at body
   rw [loopO_inl body, ih (by omega) c (by simpa using hc)]
   simp; omega
  | false =>
   rw [hn] at body
   rw [loopO_inr body]
   simp
theorem G_numeric (c : UInt8) (r : Bytes) (hs : (c :: r).length ≤ 16777216) (hc : wordB c = true ∨ c = 46) : G_token_numeric (c :: r) = some (((1 + numL c r : Nat)) : Int) := by
 have h1 := G_numeric_L1 (c :: r) hs 1 (by simp) (by omega) c rfl
 rw [List.drop_one, List.tail_cons] at h1
 have body : G_token_numeric_L1 (c :: r) (c :: r) (0 : Int) = some (Sum.inl ((1 : Nat) : Int)) := by
  have hlt : decide ((0 : Int) < (((c :: r).length : Nat) : Int)) = true := by simp <;> omega
  have hw : IntKind.wrap .i64 ((0 : Int) + 1) = ((1 : Nat) : Int) := by decide
  simp only [G_token_numeric_L1, hlt, idx_0, bind_some', G_isWord, q46, if_true, hw]
  rcases hc with h | h
  ·rw [h]; rfl
  ·subst h; rfl
 rw [G_token_numeric, loopO_inl body, h1]
 rfl
def numB (c : UInt8) (r : Bytes) : Bool := digB c || (c == 46 && (match r with | [] => false | d :: _ => digB d))
def quoL (q : UInt8) : Bytes → Option Nat
 | [] => none
 | [c] => if c = 92 then none else if c = q then some 1 else none
 | c :: d :: r => if c = 92 then (quoL q r).map (· + 2) else if c = q then some 1 else (quoL q (d :: r)).map (· + 1)
def quoS (c : UInt8) (r : Bytes) : Nat := match quoL c r with | none => 0 | some n => n + 1
theorem quoL_le {q : UInt8} {r : Bytes} {n : Nat} (h : quoL q r = some n) : n ≤ r.length := by
 induction r using quoL.induct q generalizing n with
 | case1 => cases h
 | case2 => simp [quoL] at h
 | case3 h1 => simp [quoL] at h; obtain ⟨_, rfl⟩ := h; simp
 | case4 c h1 h2 => simp [quoL, h1, h2] at h
 | case5 d r ih =>
  simp only [quoL, if_true] at h
  obtain ⟨m, h1, rfl⟩ := Option.map_eq_some_iff.1 h
  have := ih h1
  simp; omega
 | case6 d r h1 => simp only [quoL, h1, if_false, if_true] at h; cases h; simp
 | case7 c d r h1 h2 ih =>
  simp only [quoL, h1, h2, if_false] at h
  obtain ⟨m, h3, rfl⟩ := Option.map_eq_some_iff.1 h
  have := ih h3
  simp at this ⊢; omega
theorem quo_loop (q : UInt8) (s : Bytes) (body : Int → Option (Int ⊕ Ex2 Int Unit)) (hs : s.length ≤ 16777216)
  (hend : ∀ j : Nat, s.length ≤ j → j ≤ s.length + 1 → body (j : Int) = some (Sum.inr (Ex2.b ())))
  (hstep : ∀ (j : Nat) (c : UInt8), s[j]? = some c → body (j : Int) = some (if c = 92 then Sum.inl ((j + 2 : Nat) : Int) else if c = q then Sum.inr (Ex2.a ((j + 1 : Nat) : Int)) else Sum.inl ((j + 1 : Nat) : Int))) :
  ∀ (k j : Nat), s.length - j ≤ k → j ≤ s.length + 1 → loopO body (j : Int) = some (match quoL q (s.drop j) with | none => Ex2.b () | some n => Ex2.a ((j + n : Nat) : Int)) := by
 intro k
 induction k with
 | zero =>
  intro j hk hj
  have e : s.drop j = [] := List.drop_eq_nil_of_le (by omega)
  rw [e, loopO_inr (hend j (by omega) hj)]
  rfl
 | succ k ih =>
  intro j hk hj
  by_cases hlt : j < s.length
  ·have e1 := List.drop_eq_getElem_cons hlt
   have hb := hstep j s[j] (List.getElem?_eq_getElem hlt)
   generalize s[j] = c at e1 hb
   rw [e1]
   by_cases hc : c = 92
   ·rw [if_pos hc] at hb
    rw [loopO_inl hb, ih (j + 2) (by omega) (by omega)]
    cases hr : s.drop (j + 1) with
    | nil =>
     have e2 : s.drop (j + 2) = [] := by
      have := congrArg List.length hr
      simp at this
      exact List.drop_eq_nil_of_le (by omega)
     rw [e2]
     simp [quoL, hc]
    | cons d r =>
     have e2 : s.drop (j + 2) = r := by
      rw [show j + 2 = (j + 1) + 1 by omega, ← List.drop_drop, hr]; rfl
     rw [e2]
     simp only [quoL, hc, if_true]
     cases quoL q r with
     | none => rfl
     | some n =>
      simp only [Option.map_some]
      rw [show j + 2 + n = j + (n + 2) by omega]
   ·rw [if_neg hc] at hb
    by_cases hq : c = q
    ·rw [if_pos hq] at hb
     rw [loopO_inr hb]
     subst hq
     cases s.drop (j + 1) with
     | nil => simp [quoL, hc]
     | cons d r => simp [quoL, hc]
    ·rw [if_neg hq] at hb
     rw [loopO_inl hb, ih (j + 1) (by omega) (by omega)]
     cases hr : s.drop (j + 1) with
     | nil => simp [quoL, hc, hq]
     | cons d r =>
      have e3 : quoL q (c :: d :: r) = (quoL q (d :: r)).map (· + 1) := by simp only [quoL, hc, hq, if_false]
      rw [e3]
      cases quoL q (d :: r) with
      | none => rfl
      | some n =>
       simp only [Option.map_some]
       rw [show j + 1 + n = j + (n + 1) by omega]
  ·have e : s.drop j = [] := List.drop_eq_nil_of_le (by omega)
   rw [e, loopO_inr (hend j (by omega) hj)]
   rfl
theorem G_quoted (c : UInt8) (r : Bytes) (hs : (c :: r).length ≤ 16777216) : G_token_quoted (c :: r) = some (quoS c r : Int) := by
 have h := quo_loop c (c :: r) (G_token_quoted_L1 (c :: r)) hs (fun j h1 h2 => by
   have : ¬ (j : Int) < (((c :: r).length : Nat) : Int) := by omega
   simp only [G_token_quoted_L1, this, decide_false, Bool.false_eq_true, if_false])
  (fun j d hd => by
   have hj := (List.getElem?_eq_some_iff.1 hd).1
   have hlt : decide ((j : Int) < (((c :: r).length : Nat) : Int)) = true := by simp only [decide_eq_true_eq]; omega
   have hd1 : idx (c :: r) (j : Int) = some d := by rw [idx_nat, hd]
   have w1 : IntKind.wrap .i64 ((j : Int) + 1) = ((j + 1 : Nat) : Int) := by rw [wi (by omega) (by omega)]; rfl
   have w2 : IntKind.wrap .i64 (((j + 1 : Nat) : Int) + 1) = ((j + 2 : Nat) : Int) := by rw [wi (by omega) (by omega)]; rfl
   simp only [G_token_quoted_L1, hlt, hd1, idx_0, bind_some', q92, qcc, w1, w2, if_true]
   by_cases h1 : d = 92
   ·subst h1; rfl
   ·have h1' : (d == 92) = false := by simpa using h1
    rw [h1', if_neg h1]
    by_cases h2 : d = c
    ·have h2' : (d == c) = true := by simpa using h2
     rw [h2', if_pos h2]; rfl
    ·have h2' : (d == c) = false := by simpa using h2
     rw [h2', if_neg h2]; rfl) (c :: r).length 1 (by simp) (by simp)
 rw [List.drop_one, List.tail_cons] at h
 have h : loopO (G_token_quoted_L1 (c :: r)) (1 : Int) = _ := h
 rw [G_token_quoted, h, quoS]
 cases quoL c r with
 | none => rfl
 | some n =>
  show (some (Ex2.a ((1 + n : Nat) : Int)) >>= _) = _
  rw [Nat.add_comm 1 n]; rfl
end Go.Proofs.YtmngkcpobmhnoaaGreatDoor.Sim.Pl
/- Plain laws: signs; which token begins a text. -/
namespace Go.Proofs.YtmngkcpobmhnoaaGreatDoor.Sim.Pl
open Go.Proofs

theorem G_next_L2 (s : Bytes) : ∀ j, j ≤ signsL.length → loopO (G_token_next_L2 s) (j : Int) = some (match (signsL.drop j).find? (fun x => x.isPrefixOf s) with | none => Ex2.b () | some x => Ex2.a ((x.length : Nat) : Int)) := by
 refine rest_ind (P := fun j r => loopO (G_token_next_L2 s) (j : Int) = some (match (r : List Bytes).find? (fun x => x.isPrefixOf s) with | none => Ex2.b () | some x => Ex2.a ((x.length : Nat) : Int))) ?_ ?_
 ·exact loopO_inr rfl
 ·intro j x r hj hc e1 e2 ih
  have hlen : signsL.length = 48 := rfl
  have hlt : decide ((j : Int) < 48) = true := by simp only [decide_eq_true_eq]; omega
  have hc1 : idx signsL (j : Int) = some x := by rw [idx_nat, hc]
  have hw : IntKind.wrap .i64 ((j : Int) + 1) = ((j + 1 : Nat) : Int) := by rw [wi (by omega) (by omega)]; rfl
  rw [List.find?_cons]
  cases hp : x.isPrefixOf s with
  | true =>
   refine loopO_inr ?_
   simp only [G_token_next_L2, hlt, hc1, bind_some', if_true, Lib.hasPrefix, hp]
  | false =>
   rw [loopO_inl (s' := ((j + 1 : Nat) : Int)), ih]
   simp only [G_token_next_L2, hlt, hc1, bind_some', if_true, Lib.hasPrefix, hp, hw]
   rfl

def sgL (s : Bytes) : Nat → Nat
 | 0 => 0
 | n + 1 => if s.take (n + 1) ∈ signsL then n + 1 else sgL s n
def signS (s : Bytes) : Nat := sgL s (min 3 s.length)
theorem find_len (k : Nat) (s : Bytes) (L : List Bytes) (h : ∀ x ∈ L, x.length = k) : L.find? (fun x => x.isPrefixOf s) = if k ≤ s.length ∧ s.take k ∈ L then some (s.take k) else none := by
 induction L with
 | nil => simp
 | cons x L ih =>
  have hx := h x List.mem_cons_self
  have ih := ih (fun y hy => h y (List.mem_cons_of_mem _ hy))
  rw [List.find?_cons]
  by_cases hp : x.isPrefixOf s = true
  ·have hp' := List.isPrefixOf_iff_prefix.1 hp
   have hle : k ≤ s.length := by rw [← hx]; exact hp'.length_le
   have he : s.take k = x := by rw [← hx]; exact (List.prefix_iff_eq_take.1 hp').symm
   simp only [hp]
   rw [if_pos ⟨hle, by rw [he]; exact List.mem_cons_self⟩, he]
  ·have hp1 : x.isPrefixOf s = false := Bool.eq_false_iff.2 hp
   simp only [hp1]
   rw [ih]
   by_cases hk : k ≤ s.length
   ·have hne : s.take k ≠ x := by
     intro e
     apply hp
     rw [List.isPrefixOf_iff_prefix, ← e]
     exact List.take_prefix k s
    have : (s.take k ∈ x :: L) ↔ s.take k ∈ L := by
     rw [List.mem_cons]
     exact ⟨fun h => h.resolve_left hne, .inr⟩
    simp only [hk, true_and, this]
   ·rw [if_neg (fun h => hk h.1), if_neg (fun h => hk h.1)]
theorem signs_parts : signsL = signsL.take 3 ++ ((signsL.drop 3).take 20 ++ signsL.drop 23) := by decide +kernel
theorem mem_k (k : Nat) (Lk : List Bytes) (hk : ∀ x ∈ signsL, x.length = k → x ∈ Lk) (hs : ∀ x ∈ Lk, x ∈ signsL) (s : Bytes) (hl : k ≤ s.length) : s.take k ∈ signsL ↔ s.take k ∈ Lk :=
 ⟨fun h => hk _ h (by simp; omega), hs _⟩
theorem sign_find (s : Bytes) : (match signsL.find? (fun x => x.isPrefixOf s) with | none => 0 | some x => x.length) = signS s := by
 have f3 := find_len 3 s (signsL.take 3) (by decide)
 have f2 := find_len 2 s ((signsL.drop 3).take 20) (by decide)
 have f1 := find_len 1 s (signsL.drop 23) (by decide)
 have m3 := mem_k 3 (signsL.take 3) (by decide) (by decide) s
 have m2 := mem_k 2 ((signsL.drop 3).take 20) (by decide) (by decide) s
 have m1 := mem_k 1 (signsL.drop 23) (by decide) (by decide) s
 have e0 : ∀ p, signsL.find? p = ((signsL.take 3).find? p).or ((((signsL.drop 3).take 20).find? p).or ((signsL.drop 23).find? p)) := by
  intro p
  conv => lhs; rw [signs_parts]
  rw [List.find?_append, List.find?_append]
 rw [e0, f3, f2, f1]
 unfold signS
 generalize signsL.take 3 = S3 at *
 generalize (signsL.drop 3).take 20 = S2 at *
 generalize signsL.drop 23 = S1 at *
 have tl : ∀ k, k ≤ s.length → (s.take k).length = k := fun k h => List.length_take_of_le h
 by_cases h3 : 3 ≤ s.length
 ·have e : min 3 s.length = 3 := by omega
  rw [e]
  simp only [sgL, m3 h3, m2 (by omega), m1 (by omega), h3, true_and, show 2 ≤ s.length by omega, show 1 ≤ s.length by omega]
  by_cases a3 : s.take 3 ∈ S3
  ·simp only [a3, if_true, Option.some_or]; exact tl 3 h3
  ·by_cases a2 : s.take 2 ∈ S2
   ·simp only [a3, a2, if_true, if_false, Option.some_or, Option.none_or]; exact tl 2 (by omega)
   ·by_cases a1 : s.take 1 ∈ S1
    ·simp only [a3, a2, a1, if_true, if_false, Option.some_or, Option.none_or]; exact tl 1 (by omega)
    ·simp [a3, a2, a1]
 ·by_cases h2 : 2 ≤ s.length
  ·have e : min 3 s.length = 2 := by omega
   rw [e]
   simp only [sgL, m2 h2, m1 (by omega), h3, h2, true_and, false_and, show 1 ≤ s.length by omega]
   by_cases a2 : s.take 2 ∈ S2
   ·simp only [a2, if_true, if_false, Option.some_or, Option.none_or]; exact tl 2 (by omega)
   ·by_cases a1 : s.take 1 ∈ S1
    ·simp only [a2, a1, if_true, if_false, Option.some_or, Option.none_or]; exact tl 1 (by omega)
    ·simp [a2, a1]
  ·by_cases h1 : 1 ≤ s.length
   ·have e : min 3 s.length = 1 := by omega
    rw [e]
    simp only [sgL, m1 h1, h3, h2, h1, true_and, false_and]
    by_cases a1 : s.take 1 ∈ S1
    ·simp only [a1, if_true, if_false, Option.some_or, Option.none_or]; exact tl 1 (by omega)
    ·simp [a1]
   ·have e : min 3 s.length = 0 := by omega
    rw [e]
    simp [sgL, h3, h2, h1]
theorem sgL_le (s : Bytes) (n : Nat) : sgL s n ≤ n := by
 induction n with
 | zero => exact Nat.le_refl _
 | succ n ih => simp only [sgL]; split <;> omega
theorem find_some {s x : Bytes} (h : signsL.find? (fun x => x.isPrefixOf s) = some x) : 0 < x.length := by
 have k : ∀ x ∈ signsL, 0 < x.length := by decide
 exact k x (List.mem_of_find?_eq_some h)

def nextS (c : UInt8) (r : Bytes) : Nat × Nat :=
 if letB c then (1, 1 + (r.takeWhile wordB).length)
 else if numB c r then (2, 1 + numL c r)
 else if c = 34 then (4, quoS c r)
 else if c = 39 then (3, if quoS c r = 2 then 0 else quoS c r)
 else if signS (c :: r) = 0 then (6, 1) else (5, signS (c :: r))
theorem takeWhile_le {T : Type} (p : T → Bool) (l : List T) : (l.takeWhile p).length ≤ l.length := by
 induction l with
 | nil => simp
 | cons c r ih => rw [List.takeWhile_cons]; split <;> simp; omega
theorem nextS_le (c : UInt8) (r : Bytes) : (nextS c r).2 ≤ r.length + 1 := by
 unfold nextS
 split
 ·have := takeWhile_le wordB r; simp; omega
 ·split
  ·have := numL_le c r; simp; omega
  ·have hq : quoS c r ≤ r.length + 1 := by
    unfold quoS
    cases h : quoL c r with
    | none => simp
    | some n => have := quoL_le h; simp; omega
   split
   ·exact hq
   ·split
    ·simp only []; split <;> omega
    ·have h1 := sgL_le (c :: r) (min 3 (c :: r).length)
     have h2 := Nat.min_le_right 3 (c :: r).length
     simp only [List.length_cons] at h2
     have h3 : signS (c :: r) ≤ r.length + 1 := by unfold signS; simp only [List.length_cons] at h1 ⊢; omega
     split
     ·simp
     ·exact h3
theorem G_next (c : UInt8) (r : Bytes) (hs : (c :: r).length ≤ 16777216) : G_token_next (c :: r) = some (((nextS c r).1 : Int), ((nextS c r).2 : Int)) := by
 unfold G_token_next nextS
 rw [idx_0, bind_some']
 simp only [G_isLetter, bind_some', G_isDigit, q46, q34, q39]
 cases hl : letB c with
 | true =>
  have h1 := G_next_L1 (c :: r) hs 0 (Nat.zero_le _)
  have h1 : loopO (G_token_next_L1 (c :: r) (c :: r)) (0 : Int) = _ := h1
  rw [List.drop_zero] at h1
  have hw : wordB c = true := by simp [wordB, hl]
  rw [List.takeWhile_cons, if_pos hw] at h1
  simp only [if_true, h1, bind_some']
  simp; omega
 | false =>
  simp only [Bool.false_eq_true, if_false]
  have hv : (if digB c = true then some true else if (c == 46) = true then if (decide ((1 : Int) < (((c :: r).length : Nat) : Int))) = true then (idx (c :: r) (1 : Int) >>= fun x52 => some (digB x52)) else some false else some false) = some (numB c r) := by
   unfold numB
   cases digB c with
   | true => rfl
   | false =>
    cases hc : (c == 46) with
    | false => rfl
    | true =>
     cases r with
     | nil => rfl
     | cons d r =>
      have hl2 : decide ((1 : Int) < (((c :: d :: r).length : Nat) : Int)) = true := by simp only [List.length_cons, decide_eq_true_eq]; omega
      simp only [Bool.false_eq_true, if_false, if_true, hl2, idx_1, bind_some', G_isDigit, Bool.false_or, Bool.true_and]
  rw [hv, bind_some']
  cases hn : numB c r with
  | true =>
   have hc : wordB c = true ∨ c = 46 := by
    unfold numB at hn
    cases hd : digB c with
    | true => left; simp [wordB, hd]
    | false => right; rw [hd] at hn; simp at hn; exact hn.1
   simp only [if_true, G_numeric c r hs hc, bind_some', Bool.false_eq_true, if_false]
   rfl
  | false =>
   simp only [Bool.false_eq_true, if_false]
   by_cases h34 : c = 34
   ·subst h34
    simp only [beq_self_eq_true, if_true, G_quoted _ _ hs, bind_some']
    rfl
   ·have h34' : (c == 34) = false := by simpa using h34
    by_cases h39 : c = 39
    ·subst h39
     simp only [h34', beq_self_eq_true, if_true, G_quoted _ _ hs, bind_some', Bool.false_eq_true, if_false]
     by_cases h2 : quoS 39 r = 2
     ·have : ((quoS 39 r : Int) == 2) = true := by simp; omega
      simp only [this, if_true, h2]
      rfl
     ·have : ((quoS 39 r : Int) == 2) = false := by simp; omega
      simp only [this, h2]
      rfl
    ·have h39' : (c == 39) = false := by simpa using h39
     have hf := G_next_L2 (c :: r) 0 (Nat.zero_le _)
     rw [List.drop_zero] at hf
     have hf : loopO (G_token_next_L2 (c :: r)) (0 : Int) = _ := hf
     have hsf := sign_find (c :: r)
     simp only [h34', h39', h34, h39, Bool.false_eq_true, if_false, bind_some', hf]
     cases hx : signsL.find? (fun x => x.isPrefixOf (c :: r)) with
     | none =>
      rw [hx] at hsf
      rw [if_pos hsf.symm]
      rfl
     | some x =>
      rw [hx] at hsf
      have h0 := find_some hx
      have hsf : x.length = signS (c :: r) := hsf
      rw [if_neg (by omega), ← hsf]
      rfl
end Go.Proofs.YtmngkcpobmhnoaaGreatDoor.Sim.Pl
/- Plain laws: blanks and comments; the tokens of lines. -/
namespace Go.Proofs.YtmngkcpobmhnoaaGreatDoor.Sim.Pl
open Go.Proofs

def blankB (c : UInt8) : Bool := c == 32 || c == 9 || c == 11 || c == 12
theorem blank_in (c : UInt8) : (decide ((0 : Int) ≤ Lib.indexByte ([32, 9, 11, 12] : Bytes) c)) = blankB c := by
 rw [indexByte_nn']
 revert c; refine all8 ?_; decide +kernel

def skipS (n : Int) : Bool → Int → Bool → Bytes → Bytes × Bool × Int × Bool
 | o, f, sp, [] => ([], o, f, sp)
 | true, f, _, [_] => ([], true, f, true)
 | true, f, sp, c :: d :: r => if c = 42 ∧ d = 47 then skipS n false f true r else skipS n true f true (d :: r)
 | false, f, sp, [c] => if blankB c then ([], false, f, true) else ([c], false, f, sp)
 | false, f, sp, c :: d :: r => if blankB c then skipS n false f true (d :: r) else if c = 47 ∧ d = 47 then ([], false, f, sp) else if c = 47 ∧ d = 42 then skipS n true n sp r else (c :: d :: r, false, f, sp)
termination_by o f sp s => s.length
decreasing_by all_goals (simp; try omega)

theorem skipS_nil (n : Int) (o : Bool) (f : Int) (sp : Bool) : skipS n o f sp [] = ([], o, f, sp) := by cases o <;> rw [skipS]
theorem skipS_len (n : Int) : ∀ (k : Nat) (o : Bool) (f : Int) (sp : Bool) (s : Bytes), s.length ≤ k → (skipS n o f sp s).1.length ≤ s.length := by
 intro k
 induction k with
 | zero =>
  intro o f sp s h
  have : s = [] := List.length_eq_zero_iff.1 (by omega)
  subst this
  rw [skipS_nil]; exact Nat.le_refl _
 | succ k ih =>
  intro o f sp s h
  match o, s, h with
  | o, [], _ => rw [skipS_nil]; exact Nat.le_refl _
  | true, [c], _ => rw [skipS]; simp
  | true, c :: d :: r, h =>
   rw [skipS]
   simp only [List.length_cons] at h ⊢
   split
   ·have := ih false f true r (by omega); omega
   ·have := ih true f true (d :: r) (by simp only [List.length_cons]; omega)
    simp only [List.length_cons] at this; omega
  | false, [c], _ => rw [skipS]; split <;> simp
  | false, c :: d :: r, h =>
   rw [skipS]
   simp only [List.length_cons] at h ⊢
   split
   ·have := ih false f true (d :: r) (by simp only [List.length_cons]; omega)
    simp only [List.length_cons] at this; omega
   ·split
    ·simp
    ·split
     ·have := ih true n sp r (by omega); omega
     ·simp
theorem skipS_open (n : Int) : ∀ (k : Nat) (o : Bool) (f : Int) (sp : Bool) (s : Bytes), s.length ≤ k → (skipS n o f sp s).1 ≠ [] → (skipS n o f sp s).2.1 = false := by
 intro k
 induction k with
 | zero =>
  intro o f sp s h hn
  have : s = [] := List.length_eq_zero_iff.1 (by omega)
  subst this
  rw [skipS_nil] at hn
  exact absurd rfl hn
 | succ k ih =>
  intro o f sp s h hn
  match o, s, h, hn with
  | o, [], _, hn => rw [skipS_nil] at hn; exact absurd rfl hn
  | true, [c], _, hn => rw [skipS] at hn; exact absurd rfl hn
  | true, c :: d :: r, h, hn =>
   rw [skipS] at hn ⊢
   simp only [List.length_cons] at h
   split at hn
   ·rename_i h1; rw [if_pos h1]; exact ih _ _ _ _ (by omega) hn
   ·rename_i h1; rw [if_neg h1]; exact ih _ _ _ _ (by simp only [List.length_cons]; omega) hn
  | false, [c], _, hn =>
   rw [skipS] at hn ⊢
   split at hn
   ·exact absurd rfl hn
   ·rename_i h1; rw [if_neg h1]
  | false, c :: d :: r, h, hn =>
   rw [skipS] at hn ⊢
   simp only [List.length_cons] at h
   split at hn
   ·rename_i h1; rw [if_pos h1]; exact ih _ _ _ _ (by simp only [List.length_cons]; omega) hn
   ·rename_i h1
    rw [if_neg h1]
    split at hn
    ·exact absurd rfl hn
    ·rename_i h2
     rw [if_neg h2]
     split at hn
     ·rename_i h3; rw [if_pos h3]; exact ih _ _ _ _ (by omega) hn
     ·rename_i h3; rw [if_neg h3]

theorem index_ge (l sub : Bytes) : -1 ≤ Lib.index l sub := by
 induction l with
 | nil => simp only [Lib.index]; split <;> omega
 | cons b l ih =>
  simp only [Lib.index]
  split
  ·omega
  ·split
   ·omega
   ·omega
theorem skip_cut (n : Int) (f : Int) : ∀ (s : Bytes) (sp : Bool), s ≠ [] → skipS n true f sp s = if 0 ≤ Lib.index s [42, 47] then skipS n false f true (s.drop ((Lib.index s [42, 47]).toNat + 2)) else ([], true, f, true) := by
 intro s
 induction s with
 | nil => intro sp h; exact absurd rfl h
 | cons c r ih =>
  intro sp _
  cases r with
  | nil =>
   rw [skipS]
   have : Lib.index [c] [42, 47] = -1 := by
    simp [Lib.index, List.isPrefixOf]
   rw [this]; rfl
  | cons d r =>
   rw [skipS]
   have ih := ih true (by simp)
   by_cases h : c = 42 ∧ d = 47
   ·have e : Lib.index (c :: d :: r) [42, 47] = 0 := by
     simp [Lib.index, List.isPrefixOf, h.1, h.2]
    rw [if_pos h, e]
    rfl
   ·rw [if_neg h, ih]
    have hp : ([42, 47] : Bytes).isPrefixOf (c :: d :: r) = false := by
     rw [Bool.eq_false_iff]
     intro hp
     simp [List.isPrefixOf] at hp
     exact h ⟨hp.1.symm, hp.2.symm⟩
    have e : Lib.index (c :: d :: r) [42, 47] = if Lib.index (d :: r) [42, 47] == -1 then -1 else Lib.index (d :: r) [42, 47] + 1 := by
     conv => lhs; rw [Lib.index]
     rw [hp]; rfl
    have hge := index_ge (d :: r) [42, 47]
    rw [e]
    by_cases h1 : Lib.index (d :: r) [42, 47] = -1
    ·have h1' : (Lib.index (d :: r) [42, 47] == -1) = true := by simpa using h1
     rw [h1', if_neg (by omega)]
     rfl
    ·have h1' : (Lib.index (d :: r) [42, 47] == -1) = false := by simpa using h1
     rw [h1', if_pos (by omega)]
     simp only [Bool.false_eq_true, if_false]
     rw [if_pos (by omega)]
     have : (Lib.index (d :: r) [42, 47] + 1).toNat + 2 = ((Lib.index (d :: r) [42, 47]).toNat + 2) + 1 := by omega
     rw [this]
     rfl
theorem cut_eq (s : Bytes) (hs : s.length ≤ 16777216) : oCut s ([42, 47] : Bytes) = some (if 0 ≤ Lib.index s [42, 47] then (s.take (Lib.index s [42, 47]).toNat, s.drop ((Lib.index s [42, 47]).toNat + 2), true) else (s, [], false)) := by
 have : small s = true := by simp [small]; omega
 unfold oCut
 rw [if_pos this]
 unfold Lib.cut
 split <;> rfl
theorem skip_loop (n : Int) : ∀ (k : Nat) (s : Bytes) (o : Bool) (f : Int) (sp : Bool), s.length ≤ k → s.length ≤ 16777216 →
  ∃ X, loopO (G_token_scan_skip_L1 n) (s, o, f, sp) = some X ∧ (X = Ex2.a ((skipS n o f sp s).1, (skipS n o f sp s).2.2.1, (skipS n o f sp s).2.2.2) ∧ (skipS n o f sp s).2.1 = false ∨
   X = Ex2.b ((skipS n o f sp s).2.1, (skipS n o f sp s).2.2.1, (skipS n o f sp s).2.2.2) ∧ (skipS n o f sp s).1 = []) := by
 intro k
 induction k with
 | zero =>
  intro s o f sp h _
  have : s = [] := List.length_eq_zero_iff.1 (by omega)
  subst this
  rw [skipS_nil]
  exact ⟨_, loopO_inr rfl, .inr ⟨rfl, rfl⟩⟩
 | succ k ih =>
  intro s o f sp h hs
  cases s with
  | nil =>
   rw [skipS_nil]
   exact ⟨_, loopO_inr rfl, .inr ⟨rfl, rfl⟩⟩
  | cons c r =>
   have e0 : ((c :: r) == ([] : Bytes)) = false := by simp
   cases o with
   | true =>
    have hc := skip_cut n f (c :: r) sp (by simp)
    by_cases hi : 0 ≤ Lib.index (c :: r) [42, 47]
    ·rw [if_pos hi] at hc
     have hb : G_token_scan_skip_L1 n (c :: r, true, f, sp) = some (Sum.inl ((c :: r).drop ((Lib.index (c :: r) [42, 47]).toNat + 2), false, f, true)) := by
      simp only [G_token_scan_skip_L1, e0, Bool.not_false, if_true, cut_eq _ hs, bind_some', if_pos hi]
     rw [loopO_inl hb, hc]
     simp only [List.length_cons] at h hs
     exact ih _ false f true (by rw [List.length_drop]; simp only [List.length_cons]; omega) (by rw [List.length_drop]; simp only [List.length_cons]; omega)
    ·rw [if_neg hi] at hc
     have hb : G_token_scan_skip_L1 n (c :: r, true, f, sp) = some (Sum.inl ([], true, f, true)) := by
      simp only [G_token_scan_skip_L1, e0, Bool.not_false, if_true, cut_eq _ hs, bind_some', if_neg hi]
      rfl
     have hb2 : G_token_scan_skip_L1 n ([], true, f, true) = some (Sum.inr (Ex2.b (true, f, true))) := rfl
     rw [loopO_inl hb, loopO_inr hb2, hc]
     exact ⟨_, rfl, .inr ⟨rfl, rfl⟩⟩
   | false =>
    have hsub : subF (c :: r) 1 = some r := subF_1
    have hstep : G_token_scan_skip_L1 n (c :: r, false, f, sp) = (if (Lib.hasPrefix (c :: r) ([47, 47] : Bytes)) then some (Sum.inr (Ex2.a (([] : Bytes), f, sp))) else
      if (Lib.hasPrefix (c :: r) ([47, 42] : Bytes)) then subF (c :: r) (2 : Int) >>= fun t42 => some (Sum.inl (t42, true, n, sp)) else
      if blankB c then some (Sum.inl (r, false, f, true)) else some (Sum.inr (Ex2.a (c :: r, f, sp)))) := by
     simp only [G_token_scan_skip_L1, e0, Bool.not_false, if_true, Bool.false_eq_true, if_false, idx_0, bind_some', toNat8, blank_in, hsub]
    cases r with
    | nil =>
     have p1 : ∀ x : UInt8, Lib.hasPrefix [c] [47, x] = false := fun x => by simp [Lib.hasPrefix, List.isPrefixOf]
     rw [p1, p1] at hstep
     simp only [Bool.false_eq_true, if_false] at hstep
     rw [skipS]
     cases hbl : blankB c with
     | true =>
      rw [hbl] at hstep
      have hb2 : G_token_scan_skip_L1 n ([], false, f, true) = some (Sum.inr (Ex2.b (false, f, true))) := rfl
      rw [loopO_inl hstep, loopO_inr hb2]
      exact ⟨_, rfl, .inr ⟨rfl, rfl⟩⟩
     | false =>
      rw [hbl] at hstep
      rw [loopO_inr hstep]
      exact ⟨_, rfl, .inl ⟨rfl, rfl⟩⟩
    | cons d r =>
     have p1 : ∀ x : UInt8, Lib.hasPrefix (c :: d :: r) [47, x] = (decide (c = 47 ∧ d = x)) := by
      intro x
      rw [Bool.eq_iff_iff]
      simp [Lib.hasPrefix, List.isPrefixOf]
      constructor
      ·rintro ⟨h1, h2⟩; exact ⟨h1.symm, h2.symm⟩
      ·rintro ⟨h1, h2⟩; exact ⟨h1.symm, h2.symm⟩
     rw [p1, p1] at hstep
     rw [skipS]
     simp only [List.length_cons] at h hs
     by_cases h1 : c = 47 ∧ d = 47
     ·have hbl : blankB c = false := by rw [h1.1]; decide
      rw [if_pos (by simpa using h1)] at hstep
      rw [loopO_inr hstep, hbl]
      simp only [Bool.false_eq_true, if_false]
      rw [if_pos h1]
      exact ⟨_, rfl, .inl ⟨rfl, rfl⟩⟩
     ·rw [if_neg (by simpa using h1)] at hstep
      by_cases h2 : c = 47 ∧ d = 42
      ·have hbl : blankB c = false := by rw [h2.1]; decide
       rw [if_pos (by simpa using h2), subF_2] at hstep
       rw [loopO_inl hstep, hbl]
       simp only [Bool.false_eq_true, if_false]
       rw [if_neg h1, if_pos h2]
       exact ih _ true n sp (by omega) (by omega)
      ·rw [if_neg (by simpa using h2)] at hstep
       cases hbl : blankB c with
       | true =>
        rw [hbl] at hstep
        rw [loopO_inl hstep]
        simp only [if_true]
        exact ih _ false f true (by simp only [List.length_cons]; omega) (by simp only [List.length_cons]; omega)
       | false =>
        rw [hbl] at hstep
        rw [loopO_inr hstep]
        simp only [Bool.false_eq_true, if_false]
        rw [if_neg h1, if_neg h2]
        exact ⟨_, rfl, .inl ⟨rfl, rfl⟩⟩
theorem G_skip (n : Int) (s : Bytes) (o : Bool) (f : Int) (sp fi : Bool) (hs : s.length ≤ 16777216) :
  G_token_scan_skip ⟨o, f, sp, fi⟩ s n = some ((skipS n o f sp s).1, ⟨(skipS n o f sp s).2.1, (skipS n o f sp s).2.2.1, (skipS n o f sp s).2.2.2, fi⟩) := by
 obtain ⟨X, h1, h2⟩ := skip_loop n s.length s o f sp (Nat.le_refl _) hs
 unfold G_token_scan_skip
 simp only []
 rw [h1, bind_some']
 rcases h2 with ⟨rfl, h2⟩ | ⟨rfl, h2⟩
 ·simp only [h2]
 ·simp only [h2]

inductive LR
 | quote
 | many
 | ok (out : List T_api_Tok) (o : Bool) (f : Int) (sp fi : Bool)
def lexL (n : Int) : Nat → Bool → Int → Bool → Bool → List T_api_Tok → Bytes → LR
 | 0, o, f, sp, fi, out, _ => .ok out o f sp fi
 | k + 1, o, f, sp, fi, out, s =>
  match skipS n o f sp s with
  | ([], o', f', sp') => .ok out o' f' sp' fi
  | (c :: r, o', f', sp') =>
   if (nextS c r).2 = 0 then .quote
   else if 20000 ≤ out.length then .many
   else lexL n k o' f' false false (out ++ [⟨((nextS c r).1 : Int), (c :: r).take (nextS c r).2, [], n, sp', fi⟩]) ((c :: r).drop (nextS c r).2)
def lexLs : Bool → Int → Bool → Bool → List T_api_Tok → List T_api_Line → (List T_api_Tok ⊕ (Int × Int))
 | o, f, _, _, out, [] => if o then .inr (20, f) else .inl out
 | o, f, sp, fi, out, l :: ls =>
  match lexL l.N_ (l.S_.length + 1) o f (if o then sp else false) (if o then fi else true) out l.S_ with
  | .quote => .inr (21, l.N_)
  | .many => .inr (22, l.N_)
  | .ok out' o' f' sp' fi' => lexLs o' f' sp' fi' out' ls
def lexR : List T_api_Tok ⊕ (Int × Int) → List T_api_Tok × Int × Int
 | .inl out => (out, 0, 0)
 | .inr (e, n) => ([], e, n)

theorem toks_loop (n : Int) : ∀ (k : Nat) (s0 : Bytes) (o : Bool) (f : Int) (sp fi : Bool) (out : List T_api_Tok), s0.length < k → s0.length ≤ 16777216 → out.length ≤ 20000 →
  ∃ X, loopO (G_token_Lex_L2 n) ((skipS n o f sp s0).1, out, (skipS n o f sp s0).2.1, (skipS n o f sp s0).2.2.1, (skipS n o f sp s0).2.2.2, fi) = some X ∧
   (match lexL n k o f sp fi out s0 with
    | .quote => ∃ a b c d e, X = Ex2.a (a, 21, b, c, d, e)
    | .many => ∃ a b c d e, X = Ex2.a (a, 22, b, c, d, e)
    | .ok out' o' f' sp' fi' => X = Ex2.b (out', o', f', sp', fi') ∧ out'.length ≤ 20000) := by
 intro k
 induction k with
 | zero => intro s0 o f sp fi out h; omega
 | succ k ih =>
  intro s0 o f sp fi out h hs ho
  have hlen := skipS_len n s0.length o f sp s0 (Nat.le_refl _)
  have hop := skipS_open n s0.length o f sp s0 (Nat.le_refl _)
  simp only [lexL]
  generalize skipS n o f sp s0 = Q at hlen hop
  obtain ⟨R, o', f', sp'⟩ := Q
  simp only at hlen hop ⊢
  cases R with
  | nil => exact ⟨_, loopO_inr rfl, rfl, ho⟩
  | cons c r =>
   have hop := hop (by simp)
   subst hop
   have e0 : ((c :: r) == ([] : Bytes)) = false := by simp
   have hle := nextS_le c r
   have hn := G_next c r (by omega)
   have ht : subT (c :: r) ((nextS c r).2 : Int) = some ((c :: r).take (nextS c r).2) := subT_nat (by simp only [List.length_cons]; omega)
   have hf : subF (c :: r) ((nextS c r).2 : Int) = some ((c :: r).drop (nextS c r).2) := subF_nat (by simp only [List.length_cons]; omega)
   simp only []
   by_cases h0 : (nextS c r).2 = 0
   ·rw [if_pos h0]
    have hte : ((c :: r).take (nextS c r).2 == ([] : Bytes)) = true := by rw [h0]; rfl
    refine ⟨Ex2.a (out, 21, false, f', sp', fi), loopO_inr ?_, _, _, _, _, _, rfl⟩
    simp only [G_token_Lex_L2, e0, Bool.not_false, if_true, hn, bind_some', ht, hte]
   ·rw [if_neg h0]
    have hte : ((c :: r).take (nextS c r).2 == ([] : Bytes)) = false := by
     cases hm : (nextS c r).2 with
     | zero => exact absurd hm h0
     | succ m => simp
    by_cases hm : 20000 ≤ out.length
    ·rw [if_pos hm]
     have hml : (((List.length out : Nat) : Int) == (20000 : Int)) = true := by simp; omega
     refine ⟨Ex2.a (out, 22, false, f', sp', fi), loopO_inr ?_, _, _, _, _, _, rfl⟩
     simp only [G_token_Lex_L2, e0, Bool.not_false, if_true, hn, bind_some', ht, hte, hml, Bool.false_eq_true, if_false]
    ·rw [if_neg hm]
     have hml : (((List.length out : Nat) : Int) == (20000 : Int)) = false := by simp; omega
     have hdl : ((c :: r).drop (nextS c r).2).length < s0.length := by
      rw [List.length_drop]; simp only [List.length_cons] at hlen ⊢; omega
     have hap : app 56 out [(⟨((nextS c r).1 : Int), (c :: r).take (nextS c r).2, [], n, sp', fi⟩ : T_api_Tok)] = some (out ++ [⟨((nextS c r).1 : Int), (c :: r).take (nextS c r).2, [], n, sp', fi⟩]) := app_some (by simp; omega)
     have hsk := G_skip n ((c :: r).drop (nextS c r).2) false f' false false (by omega)
     have body : G_token_Lex_L2 n (c :: r, out, false, f', sp', fi) = some (Sum.inl ((skipS n false f' false ((c :: r).drop (nextS c r).2)).1, out ++ [⟨((nextS c r).1 : Int), (c :: r).take (nextS c r).2, [], n, sp', fi⟩],
       (skipS n false f' false ((c :: r).drop (nextS c r).2)).2.1, (skipS n false f' false ((c :: r).drop (nextS c r).2)).2.2.1, (skipS n false f' false ((c :: r).drop (nextS c r).2)).2.2.2, false)) := by
      simp only [G_token_Lex_L2, e0, Bool.not_false, if_true, hn, bind_some', ht, hf, hte, hml, Bool.false_eq_true, if_false, hap, hsk]
     rw [loopO_inl body]
     exact ih _ false f' false false _ (by omega) (by omega) (by simp; omega)

def LinesOK (l : List T_api_Line) : Prop := l.length ≤ 16777216 ∧ ∀ x ∈ l, x.S_.length ≤ 16777216
theorem lines_loop (L : List T_api_Line) (hL : LinesOK L) : ∀ j, j ≤ L.length → ∀ (o : Bool) (f : Int) (sp fi : Bool) (out : List T_api_Tok), out.length ≤ 20000 →
  ∃ X, loopO (G_token_Lex_L1 L ((L.length : Nat) : Int) (0 : Int) (0 : Int)) ((j : Int), out, o, f, sp, fi) = some X ∧
   (match lexLs o f sp fi out (L.drop j) with
    | .inl out' => X.1 = out' ∧ X.2.1 = 0 ∧ X.2.2.1 = 0 ∧ X.2.2.2.1 = false
    | .inr (e, m) => (e ≠ 0) ∧ ((X.2.1 = e ∧ X.2.2.1 = m) ∨ (X.2.1 = 0 ∧ X.2.2.2.1 = true ∧ e = 20 ∧ X.2.2.2.2.1 = m))) := by
 refine rest_ind (P := fun j r => ∀ (o : Bool) (f : Int) (sp fi : Bool) (out : List T_api_Tok), out.length ≤ 20000 →
  ∃ X, loopO (G_token_Lex_L1 L ((L.length : Nat) : Int) (0 : Int) (0 : Int)) ((j : Int), out, o, f, sp, fi) = some X ∧
   (match lexLs o f sp fi out r with
    | .inl out' => X.1 = out' ∧ X.2.1 = 0 ∧ X.2.2.1 = 0 ∧ X.2.2.2.1 = false
    | .inr (e, m) => (e ≠ 0) ∧ ((X.2.1 = e ∧ X.2.2.1 = m) ∨ (X.2.1 = 0 ∧ X.2.2.2.1 = true ∧ e = 20 ∧ X.2.2.2.2.1 = m)))) ?_ ?_
 ·intro o f sp fi out ho
  have hlt : decide (((L.length : Nat) : Int) < ((L.length : Nat) : Int)) = false := by simp
  refine ⟨(out, 0, 0, o, f, sp, fi), loopO_inr ?_, ?_⟩
  ·simp only [G_token_Lex_L1, hlt]; rfl
  ·cases o with
   | true => exact ⟨by decide, .inr ⟨rfl, rfl, rfl, rfl⟩⟩
   | false => exact ⟨rfl, rfl, rfl, rfl⟩
 ·intro j l r hj hc e1 e2 ih o f sp fi out ho
  have hlt : decide (((j : Nat) : Int) < ((L.length : Nat) : Int)) = true := by simp; omega
  have hc1 : idx L (j : Int) = some l := by rw [idx_nat, hc]
  have hl : l.S_.length ≤ 16777216 := hL.2 l (List.mem_of_getElem? hc)
  have hw : IntKind.wrap .i64 ((j : Int) + 1) = ((j + 1 : Nat) : Int) := by have := hL.1; rw [wi (by omega) (by omega)]; rfl
  have hif : (if (!o) = true then some (false, true) else some (sp, fi)) = some ((if o then sp else false), (if o then fi else true)) := by cases o <;> rfl
  have hsk := G_skip l.N_ l.S_ o f (if o then sp else false) (if o then fi else true) hl
  obtain ⟨X, h1, h2⟩ := toks_loop l.N_ (l.S_.length + 1) l.S_ o f (if o then sp else false) (if o then fi else true) out (by omega) hl ho
  simp only [lexLs]
  cases hlex : lexL l.N_ (l.S_.length + 1) o f (if o then sp else false) (if o then fi else true) out l.S_ with
  | quote =>
   rw [hlex] at h2
   obtain ⟨a, b, c, d, e, rfl⟩ := h2
   refine ⟨(a, 21, l.N_, b, c, d, e), loopO_inr ?_, by decide, .inl ⟨rfl, rfl⟩⟩
   simp only [G_token_Lex_L1, hlt, if_true, hc1, bind_some', hif, hsk, h1]
  | many =>
   rw [hlex] at h2
   obtain ⟨a, b, c, d, e, rfl⟩ := h2
   refine ⟨(a, 22, l.N_, b, c, d, e), loopO_inr ?_, by decide, .inl ⟨rfl, rfl⟩⟩
   simp only [G_token_Lex_L1, hlt, if_true, hc1, bind_some', hif, hsk, h1]
  | ok out' o' f' sp' fi' =>
   rw [hlex] at h2
   obtain ⟨rfl, h3⟩ := h2
   have body : G_token_Lex_L1 L ((L.length : Nat) : Int) (0 : Int) (0 : Int) ((j : Int), out, o, f, sp, fi) = some (Sum.inl (((j + 1 : Nat) : Int), out', o', f', sp', fi')) := by
    simp only [G_token_Lex_L1, hlt, if_true, hc1, bind_some', hif, hsk, h1, hw]
   rw [loopO_inl body]
   exact ih o' f' sp' fi' out' h3
theorem G_Lex (L : List T_api_Line) (hL : LinesOK L) : G_token_Lex L = some (lexR (lexLs false 0 false false [] L)) := by
 obtain ⟨X, h1, h2⟩ := lines_loop L hL 0 (Nat.zero_le _) false 0 false false [] (by simp)
 rw [List.drop_zero] at h2
 have h1 : loopO (G_token_Lex_L1 L ((L.length : Nat) : Int) (0 : Int) (0 : Int)) ((0 : Int), ([] : List T_api_Tok), false, (0 : Int), false, false) = some X := h1
 rw [G_token_Lex, h1, bind_some']
 obtain ⟨a, b, c, d, e, f, g⟩ := X
 cases hx : lexLs false 0 false false [] L with
 | inl out =>
  rw [hx] at h2
  obtain ⟨r1, r2, r3, r4⟩ := h2
  simp only at r1 r2 r3 r4
  subst r1; subst r2; subst r3; subst r4
  rfl
 | inr p =>
  obtain ⟨e', m⟩ := p
  rw [hx] at h2
  obtain ⟨h0, h2⟩ := h2
  simp only at h2
  rcases h2 with ⟨r1, r2⟩ | ⟨r1, r2, r3, r4⟩
  ·subst r1; subst r2
   have : (b == (0 : Int)) = false := by simpa using h0
   simp only [this, Bool.false_eq_true, if_false, bind_some', Bool.not_false, if_true]
   rfl
  ·subst r1; subst r2; subst r3; subst r4
   rfl

def lex1 (s : Bytes) : List T_api_Tok ⊕ (Int × Int) := lexLs false 0 false false [] [⟨1, s⟩]
theorem G_Lex1 (s : Bytes) (hs : s.length ≤ 16777216) : G_token_Lex [⟨1, s⟩] = some (lexR (lex1 s)) :=
 G_Lex [⟨1, s⟩] ⟨by simp, fun x hx => by simp at hx; subst hx; exact hs⟩
end Go.Proofs.YtmngkcpobmhnoaaGreatDoor.Sim.Pl
