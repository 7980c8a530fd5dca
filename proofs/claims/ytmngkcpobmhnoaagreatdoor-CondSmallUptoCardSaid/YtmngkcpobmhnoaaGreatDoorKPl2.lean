/- Plain laws: what conditions' operators make: the program's answer and the document's. -/
import Derived.Test.YtmngkcpobmhnoaaGreatDoorKPl1
set_option linter.all false
namespace Go.Proofs.YtmngkcpobmhnoaaGreatDoor.Sim.Pl
open Go.Proofs

def U64 (v : Int) : Prop := 0 ≤ v ∧ v ≤ 18446744073709551615
theorem xor_low (l : Nat) (h : l < 2 ^ 63) : l ^^^ 2 ^ 63 = l + 2 ^ 63 := by
  apply Nat.eq_of_testBit_eq
  intro i
  rw [Nat.testBit_xor, Nat.testBit_two_pow, Nat.add_comm]
  rcases Nat.lt_trichotomy i 63 with hi | rfl | hi
  · rw [Nat.testBit_two_pow_add_gt hi]
    have : decide (63 = i) = false := by simp; omega
    rw [this]; simp
  · rw [Nat.testBit_two_pow_add_eq]
    simp
  · have e1 : l.testBit i = false := Nat.testBit_lt_two_pow (Nat.lt_of_lt_of_le h (Nat.pow_le_pow_right (by omega) (by omega)))
    have e2 : (2 ^ 63 + l).testBit i = false := Nat.testBit_lt_two_pow (by
      have : 2 ^ 64 ≤ 2 ^ i := Nat.pow_le_pow_right (by omega) (by omega)
      have e : (2 : Nat) ^ 64 = 2 ^ 63 + 2 ^ 63 := by decide
      omega)
    have : decide (63 = i) = false := by simp; omega
    rw [e1, e2, this]; rfl
theorem bxor_high {a : Int} (h : U64 a) : bxor .u64 a 9223372036854775808 = if a < 9223372036854775808 then a + 9223372036854775808 else a - 9223372036854775808 := by
  obtain ⟨h1, h2⟩ := h
  obtain ⟨n, rfl⟩ := Int.eq_ofNat_of_zero_le h1
  have hn : n < 18446744073709551616 := by omega
  have e63 : (2 : Nat) ^ 63 = 9223372036854775808 := by decide
  have key : (BitVec.ofInt (IntKind.bits .u64) (n : Int) ^^^ BitVec.ofInt (IntKind.bits .u64) 9223372036854775808).toNat = n ^^^ 2 ^ 63 := by
    rw [BitVec.toNat_xor]
    have e1 : (BitVec.ofInt (IntKind.bits .u64) (n : Int)).toNat = n := by
      show (BitVec.ofInt 64 (n : Int)).toNat = n
      rw [BitVec.toNat_ofInt]
      omega
    have e2 : (BitVec.ofInt (IntKind.bits .u64) 9223372036854775808).toNat = 2 ^ 63 := by decide
    rw [e1, e2]
  unfold bxor
  rw [key]
  by_cases hlt : n < 9223372036854775808
  · rw [if_pos (by omega), xor_low n (by omega), wu (by omega) (by omega)]
    omega
  · rw [if_neg (by omega)]
    have e : n = (n - 9223372036854775808) ^^^ 2 ^ 63 := by rw [xor_low _ (by omega)]; omega
    have e2 : n ^^^ 2 ^ 63 = n - 9223372036854775808 := by
      conv => lhs; rw [e]
      rw [Nat.xor_assoc, Nat.xor_self, Nat.xor_zero]
    rw [e2, wu (by omega) (by omega)]
    omega
theorem lt_signed {a b : Int} (ha : U64 a) (hb : U64 b) : decide (bxor .u64 a 9223372036854775808 < bxor .u64 b 9223372036854775808) = decide (IntKind.wrap .i64 a < IntKind.wrap .i64 b) := by
  rw [bxor_high ha, bxor_high hb, wi_mod, wi_mod]
  obtain ⟨h1, h2⟩ := ha
  obtain ⟨h3, h4⟩ := hb
  congr 1
  apply propext
  split <;> split <;> omega
def lev (s : Bytes) : Nat :=
  if s = [124, 124] then 1 else if s = [38, 38] then 2 else if s = [124] then 3 else if s = [94] then 4 else if s = [38] then 5
  else if s = [61, 61] ∨ s = [33, 61] then 6 else if s = [60] ∨ s = [62] ∨ s = [60, 61] ∨ s = [62, 61] then 7 else if s = [60, 60] ∨ s = [62, 62] then 8
  else if s = [43] ∨ s = [45] then 9 else if s = [42] ∨ s = [47] ∨ s = [37] then 10 else 0
def opsL : List Bytes := [[124, 124], [38, 38], [124], [94], [38], [61, 61], [33, 61], [60], [62], [60, 61], [62, 61], [60, 60], [62, 62], [43], [45], [42], [47], [37]]
theorem lev_le (s : Bytes) : lev s ≤ 10 := by
  unfold lev
  repeat' split
  all_goals omega
theorem G_levelOf (s : Bytes) : G_cond_levelOf s = some (lev s : Int) := by
  by_cases h : s ∈ opsL
  · have k : ∀ s ∈ opsL, G_cond_levelOf s = some (lev s : Int) := by decide +kernel
    exact k s h
  · simp only [opsL, List.mem_cons, List.not_mem_nil, or_false, not_or] at h
    obtain ⟨h1, h2, h3, h4, h5, h6, h7, h8, h9, h10, h11, h12, h13, h14, h15, h16, h17, h18⟩ := h
    simp [lev, G_cond_levelOf, *]
theorem G_truth (b : Bool) : G_cond_truth b = some ⟨if b then 1 else 0, false⟩ := by cases b <;> rfl
theorem G_fails (l : List T_api_Tok) (b c : Bool) : G_cond_eval_fails ⟨l, b⟩ c = some ⟨l, b || c⟩ := by cases b <;> rfl
section
variable {l L : List T_api_Tok} {j : Int} {b c : Bool} {va vb : Int} {ua ub : Bool}
theorem if_u : (if ua = true then some (true, true) else some (ub, false)) = some ((ua || ub), ua) := by cases ua <;> rfl
def cmpS (op : Bytes) (lt eq : Bool) : Bool :=
  if op = [60] then lt else if op = [62] then !lt && !eq else if op = [60, 61] then lt || eq else if op = [62, 61] then !lt else if op = [61, 61] then eq else !eq
def cmpL : List Bytes := [[61, 61], [33, 61], [60], [62], [60, 61], [62, 61]]
theorem cmp_prog (op : Bytes) (h : op ∈ cmpL) (x y : Int) (xy : (if (!ua) = true then if (!ub) = true then some ((bxor .u64 va (9223372036854775808 : Int)), (bxor .u64 vb (9223372036854775808 : Int))) else some (va, vb) else some (va, vb)) = some (x, y)) :
    G_cond_compared op ⟨va, ua⟩ ⟨vb, ub⟩ = some ⟨if cmpS op (decide (x < y)) (x == y) then 1 else 0, false⟩ := by
  have tri : (decide (x < y) = true ∧ (x == y) = false ∧ decide (y < x) = false) ∨ (decide (x < y) = false ∧ (x == y) = true ∧ decide (y < x) = false) ∨ (decide (x < y) = false ∧ (x == y) = false ∧ decide (y < x) = true) := by
    rcases Int.lt_trichotomy x y with h | h | h
    · left; simp; omega
    · right; left; simp; omega
    · right; right; simp; omega
  simp only [cmpL, List.mem_cons, List.not_mem_nil, or_false] at h
  rcases h with rfl | rfl | rfl | rfl | rfl | rfl <;> rcases tri with ⟨t1, t2, t3⟩ | ⟨t1, t2, t3⟩ | ⟨t1, t2, t3⟩ <;>
    (simp only [G_cond_compared, xy, bind_some', t1, t2, t3, G_truth, idx_0]; rfl)
end
end Go.Proofs.YtmngkcpobmhnoaaGreatDoor.Sim.Pl
/- Plain laws: what conditions say: the program's reading and the document's go side by side. -/
namespace Go.Proofs.YtmngkcpobmhnoaaGreatDoor.Sim.Pl
open Go.Proofs

def sgn (L : List T_api_Tok) (j : Nat) (b : Bool) : Bytes := if b then [] else match L[j]? with | none => [] | some t => if t.Kind_ = 5 then t.S_ else []
theorem idx_drop {L : List T_api_Tok} {j : Nat} : idx (L.drop j) 0 = L[j]? := by simp [idx]
theorem G_sign (L : List T_api_Tok) (j : Nat) (b : Bool) : G_cond_eval_sign ⟨L.drop j, b⟩ = some (sgn L j b, ⟨L.drop j, b⟩) := by
  cases b with
  | true => rfl
  | false =>
    unfold G_cond_eval_sign sgn
    by_cases h : j < L.length
    · have e : ((((L.drop j).length : Nat) : Int) == 0) = false := by simp; omega
      have e2 := List.getElem?_eq_getElem h
      simp only [e, idx_drop, e2, bind_some', Bool.false_eq_true, if_false]
      by_cases hk : (L[j]).Kind_ = 5
      · simp [hk]
      · simp [hk]
    · have e : L.drop j = [] := List.drop_eq_nil_of_le (by omega)
      have e2 : L[j]? = none := List.getElem?_eq_none (by omega)
      simp only [e, e2]
      rfl
theorem sgn_lt {L : List T_api_Tok} {j : Nat} {b : Bool} {s : Bytes} (h : sgn L j b = s) (hs : s ≠ []) : j < L.length ∧ b = false ∧ ∃ t, L[j]? = some t ∧ t.Kind_ = 5 ∧ t.S_ = s := by
  unfold sgn at h
  cases b with
  | true => exact absurd h.symm hs
  | false =>
    simp only [Bool.false_eq_true, if_false] at h
    cases hj : L[j]? with
    | none => rw [hj] at h; exact absurd h.symm hs
    | some t =>
      rw [hj] at h
      refine ⟨(List.getElem?_eq_some_iff.1 hj).1, rfl, t, rfl, ?_⟩
      simp only [] at h
      split at h
      · exact ⟨‹_›, h⟩
      · exact absurd h.symm hs
theorem drop_1 {L : List T_api_Tok} {j : Nat} (h : j < L.length) : subF (L.drop j) 1 = some (L.drop (j + 1)) := by
  rw [List.drop_eq_getElem_cons h, subF_1]
def nx (j : Nat) (x : Bool) : Nat := if x then j + 1 else j
theorem G_take (L : List T_api_Tok) (j : Nat) (b : Bool) (s : Bytes) (hs : s ≠ []) : G_cond_eval_take ⟨L.drop j, b⟩ s = some (sgn L j b == s, ⟨L.drop (nx j (sgn L j b == s)), b⟩) := by
  rw [G_cond_eval_take, G_sign, bind_some']
  by_cases h : sgn L j b = s
  · obtain ⟨h1, h2, _⟩ := sgn_lt h hs
    have e : (sgn L j b == s) = true := by simpa using h
    simp only [e, if_true, drop_1 h1, bind_some']
    rfl
  · have e : (sgn L j b == s) = false := by simpa using h
    simp only [e, Bool.false_eq_true, if_false]
    rfl
end Go.Proofs.YtmngkcpobmhnoaaGreatDoor.Sim.Pl
/- Plain laws: what conditions say: chains of operators, and the whole. -/
namespace Go.Proofs.YtmngkcpobmhnoaaGreatDoor.Sim.Pl
open Go.Proofs

end Go.Proofs.YtmngkcpobmhnoaaGreatDoor.Sim.Pl
