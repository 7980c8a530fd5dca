/- Plain laws: a number's kind; which word a token is. -/
import Derived.Test.YtmngkcpobmhnoaaGreatDoorKPLex2
import Derived.Test.YtmngkcpobmhnoaaGreatDoorKPl1
set_option linter.all false
namespace Go.Proofs.YtmngkcpobmhnoaaGreatDoor.Sim.Pl
open Go.Proofs

theorem hexv_ascii (c : UInt8) : hexv c < 16 → c < 128 := by
 revert c; refine all8 ?_; decide +kernel
theorem sufL_ascii : ∀ x ∈ sufL, x.all (fun c => c < 128) = true := by decide +kernel
theorem num_ascii {s : Bytes} {v : Nat} {u : Bool} (h : numS s = some (v, u)) : s ≠ [] ∧ s.all (fun c => c < 128) = true ∧ v ≤ 18446744073709551615 := by
 unfold numS at h
 split at h
 ·cases h
 ·rename_i hne
  refine ⟨hne, ?_⟩
  split at h
  ·cases h
  ·rename_i w n hg
   split at h
   ·cases h
   ·split at h
    ·cases h
    ·rename_i u' hsf
     cases h
     have hb : (baseS s).1 ≤ 16 := by
      unfold baseS
      split <;> simp
     have ht : (baseS s).2.all (fun c => c < 128) = true := by
      rw [numGo_pu] at hg
      obtain ⟨x, hx, e⟩ := Option.map_eq_some_iff.1 hg
      simp only [Prod.mk.injEq] at e
      obtain ⟨_, rfl⟩ := e
      unfold sufS at hsf
      split at hsf
      ·rename_i hm
       have h1 := sufL_ascii _ hm
       have h2 := take_take_while (isDig (baseS s).1) (baseS s).2
       rw [← List.take_append_drop ((baseS s).2.takeWhile (isDig (baseS s).1)).length (baseS s).2, List.all_append, h1, Bool.and_true, h2, List.all_eq_true]
       intro c hc
       have := mem_takeWhile _ _ _ hc
       simp only [isDig, decide_eq_true_eq] at this
       simpa using hexv_ascii c (by omega)
      ·cases hsf
     refine ⟨?_, (numGo_le (by omega) hg).1⟩
     unfold baseS at ht
     split at ht
     ·simpa using ht
     ·simpa using ht
     ·exact ht
     ·exact ht
def hasB (s : Bytes) (a b : UInt8) : Bool := s.any fun c => c == a || c == b
theorem containsAny_any (s : Bytes) (a b : UInt8) : Lib.containsAny s [a, b] = hasB s a b := by
 unfold Lib.containsAny hasB
 induction s with
 | nil => rfl
 | cons c r ih =>
  have hg := Lib.indexAny_ge [a, b] r
  rw [Lib.indexAny, List.any_cons]
  have e : ([a, b] : List UInt8).contains c = (c == a || c == b) := by rw [Bool.eq_iff_iff]; simp
  rw [e]
  cases h : (c == a || c == b) with
  | true => rfl
  | false =>
   rw [Bool.false_or, ← ih]
   simp only [Bool.false_eq_true, if_false]
   by_cases h1 : Lib.indexAny r [a, b] = -1
   ·rw [h1]; rfl
   ·have : (Lib.indexAny r [a, b] == -1) = false := by simpa using h1
    simp only [this, Bool.false_eq_true, if_false]
    rw [Bool.eq_iff_iff, decide_eq_true_eq, decide_eq_true_eq]; omega
def kindB (u l z d1 d2 d3 : Bool) : Int :=
 if !u && !l && d1 then 5 else if (u || z) && !l && d2 then 6 else if !u && d3 then 7 else if u || z then 8 else 0
def kindS (s : Bytes) (v : Nat) : Int := kindB (hasB s 117 85) (hasB s 108 76) (s.head? == some 48) (decide ((v : Int) < 2147483648)) (decide ((v : Int) < 4294967296)) (decide ((v : Int) < 9223372036854775808))
def numW (s : Bytes) : Int × Int := match numS s with
 | none => (0, 0)
 | some (v, _) => if kindS s v = 0 then (0, 0) else (IntKind.wrap .i64 (v : Int), kindS s v)
theorem q48 (c : UInt8) : ((c.toNat : Int) == 48) = (c == 48) := eqb (k := 48) (by decide)
theorem G_lexnumber (s : Bytes) (hs : s.length ≤ 16777216) : G_lex_number s = some (numW s) := by
 unfold G_lex_number numW
 rw [G_Number s hs, bind_some']
 cases h : numS s with
 | none => rfl
 | some p =>
  obtain ⟨v, u⟩ := p
  obtain ⟨hne, ha, _⟩ := num_ascii h
  have hsm : small s = true := by simp [small]; omega
  have ha' : ascii s = true := ha
  have o1 : oContainsAny s ([117, 85] : Bytes) = some (hasB s 117 85) := by
   unfold oContainsAny
   rw [hsm, ha']
   simp only [show small ([117, 85] : Bytes) = true from rfl, show ascii ([117, 85] : Bytes) = true from rfl, Bool.and_self, if_true, containsAny_any]
  have o2 : oContainsAny s ([108, 76] : Bytes) = some (hasB s 108 76) := by
   unfold oContainsAny
   rw [hsm, ha']
   simp only [show small ([108, 76] : Bytes) = true from rfl, show ascii ([108, 76] : Bytes) = true from rfl, Bool.and_self, if_true, containsAny_any]
  cases s with
  | nil => exact absurd rfl hne
  | cons c r =>
   have e0 : (!((0 : Int) == 0)) = false := rfl
   have hz : (((c :: r).head?) == some 48) = (c == 48) := rfl
   simp only [numR, e0, Bool.false_eq_true, if_false, o1, o2, bind_some', idx_0, q48, kindS, hz]
   generalize hasB (c :: r) 117 85 = b1
   generalize hasB (c :: r) 108 76 = b2
   generalize (c == 48) = b3
   generalize (2147483648 : Int) = a1
   generalize (4294967296 : Int) = a2
   generalize (9223372036854775808 : Int) = a3
   by_cases p1 : (v : Int) < a1 <;> by_cases p2 : (v : Int) < a2 <;> by_cases p3 : (v : Int) < a3 <;> simp only [p1, p2, p3, decide_true, decide_false] <;> cases b1 <;> cases b2 <;> cases b3 <;> rfl
def charV (b : UInt8) : Int := IntKind.wrap .i64 (IntKind.wrap .i8 (b.toNat : Int))
def wordS (t : T_api_Tok) : Option T_api_Word := match oneS t.S_ with
 | none => none
 | some x => if x.Kind_ = t.Kind_ then
   (if t.Kind_ = 1 then some ⟨if t.S_ ∈ keysL then 1 else 2, t.S_, 0, 0, t.File_, t.Line_⟩
   else if t.Kind_ = 2 then (if (numW t.S_).2 = 0 then none else some ⟨3, [], (numW t.S_).1, (numW t.S_).2, t.File_, t.Line_⟩)
   else if t.Kind_ = 3 then (charS t.S_).map fun b => ⟨3, [], charV b, 5, t.File_, t.Line_⟩
   else if t.Kind_ = 5 then (if t.S_ = [35] ∨ t.S_ = [35, 35] then none else some ⟨5, t.S_, 0, 0, t.File_, t.Line_⟩)
   else none)
  else none
theorem G_wordOf (t : T_api_Tok) (hs : t.S_.length ≤ 1048576) : ∃ w, G_lex_wordOf t = some (w, (wordS t).isSome) ∧ ∀ w', wordS t = some w' → w = w' := by
 unfold G_lex_wordOf wordS
 rw [G_One t.S_ (by omega)]
 cases h : oneS t.S_ with
 | none => exact ⟨_, rfl, fun w' h => by cases h⟩
 | some x =>
  simp only [oneR, bind_some', Bool.not_true, Bool.false_eq_true, if_false]
  by_cases hk : x.Kind_ = t.Kind_
  ·have hk' : (x.Kind_ == t.Kind_) = true := by simpa using hk
   simp only [hk', if_pos hk, if_true, Bool.not_true, Bool.false_eq_true, if_false, bind_some']
   by_cases k1 : t.Kind_ = 1
   ·have k1' : (t.Kind_ == 1) = true := by simpa using k1
    simp only [k1', if_pos k1, if_true, G_IsKey, bind_some']
    by_cases hm : t.S_ ∈ keysL
    ·simp only [hm, decide_true, if_true]; exact ⟨_, rfl, fun w' h => by cases h; rfl⟩
    ·simp only [hm, decide_false, Bool.false_eq_true, if_false]; exact ⟨_, rfl, fun w' h => by cases h; rfl⟩
   ·have k1' : (t.Kind_ == 1) = false := by simpa using k1
    simp only [k1', if_neg k1, Bool.false_eq_true, if_false]
    by_cases k2 : t.Kind_ = 2
    ·have k2' : (t.Kind_ == 2) = true := by simpa using k2
     simp only [k2', if_pos k2, if_true, G_lexnumber t.S_ (by omega), bind_some']
     by_cases h0 : (numW t.S_).2 = 0
     ·have h0' : ((numW t.S_).2 == 0) = true := by simpa using h0
      simp only [h0, if_true]
      exact ⟨_, rfl, fun w' h => by cases h⟩
     ·have h0' : ((numW t.S_).2 == 0) = false := by simpa using h0
      simp only [h0, h0', if_false]
      exact ⟨_, rfl, fun w' h => by cases h; rfl⟩
    ·have k2' : (t.Kind_ == 2) = false := by simpa using k2
     simp only [k2', if_neg k2, Bool.false_eq_true, if_false]
     by_cases k3 : t.Kind_ = 3
     ·have k3' : (t.Kind_ == 3) = true := by simpa using k3
      simp only [k3', if_pos k3, if_true, G_Char t.S_ (by omega), bind_some']
      cases hc : charS t.S_ with
      | none => exact ⟨_, rfl, fun w' h => by cases h⟩
      | some b => exact ⟨_, rfl, fun w' h => by cases h; rfl⟩
     ·have k3' : (t.Kind_ == 3) = false := by simpa using k3
      simp only [k3', if_neg k3, Bool.false_eq_true, if_false]
      by_cases k5 : t.Kind_ = 5
      ·have k5' : (t.Kind_ == 5) = true := by simpa using k5
       have hm := one_punct h (by rw [hk, k5])
       obtain ⟨g1, g2⟩ := signs_hash _ hm
       cases hS : t.S_ with
       | nil => exact absurd hS g1
       | cons c r =>
        rw [hS] at g2
        have q35 : ((c.toNat : Int) == 35) = (c == 35) := eqb (k := 35) (by decide)
        simp only [k5', if_pos k5, if_true, idx_0, bind_some', q35]
        by_cases h35 : c = 35
        ·have := g2.1 (by rw [h35]; rfl)
         rw [if_pos this]
         have h35' : (c == 35) = true := by simpa using h35
         rw [h35']
         exact ⟨_, rfl, fun w' h => by cases h⟩
        ·have : ¬ ((c :: r) = [35] ∨ (c :: r) = [35, 35]) := fun h => by
          have := g2.2 h
          simp at this; exact h35 this
         rw [if_neg this]
         have h35' : (c == 35) = false := by simpa using h35
         rw [h35']
         exact ⟨_, rfl, fun w' h => by cases h; rfl⟩
      ·have k5' : (t.Kind_ == 5) = false := by simpa using k5
       simp only [k5', if_neg k5, Bool.false_eq_true, if_false]
       exact ⟨_, rfl, fun w' h => by cases h⟩
  ·have hk' : (x.Kind_ == t.Kind_) = false := by simpa using hk
   simp only [hk', if_neg hk, if_false]
   exact ⟨_, rfl, fun w' h => by cases h⟩
end Go.Proofs.YtmngkcpobmhnoaaGreatDoor.Sim.Pl
