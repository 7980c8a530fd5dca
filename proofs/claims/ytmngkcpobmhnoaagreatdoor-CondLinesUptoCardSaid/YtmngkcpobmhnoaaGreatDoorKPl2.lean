/- Plain laws: what conditions' operators make: the program's answer and the document's. -/
import Derived.Test.YtmngkcpobmhnoaaGreatDoorKPl1
set_option linter.all false
namespace Go.Proofs.YtmngkcpobmhnoaaGreatDoor.Sim.Pl
open Go.Proofs

def U64 (v : Int) : Prop := 0 ≤ v ∧ v ≤ 18446744073709551615
theorem u64_wrap (x : Int) : U64 (IntKind.wrap .u64 x) := by rw [wu_mod]; constructor <;> omega
theorem u64_0 : U64 0 := ⟨by decide, by decide⟩
theorem u64_xor (x y : Int) : U64 (bxor .u64 x y) := u64_wrap _

theorem xor_low (l : Nat) (h : l < 2 ^ 63) : l ^^^ 2 ^ 63 = l + 2 ^ 63 := by
  apply Nat.eq_of_testBit_eq
  intro i
  rw [Nat.testBit_xor, Nat.testBit_two_pow, Nat.add_comm]
  rcases Nat.lt_trichotomy i 63 with hi | rfl | hi
  · rw [Nat.testBit_two_pow_add_gt hi]
    have : decide (63 = i) = false := by simp; omega
    rw [this]; simp
  · rw [Nat.testBit_two_pow_add_eq]
    simp
  · have e1 : l.testBit i = false := Nat.testBit_lt_two_pow (Nat.lt_of_lt_of_le h (Nat.pow_le_pow_right (by omega) (by omega)))
    have e2 : (2 ^ 63 + l).testBit i = false := Nat.testBit_lt_two_pow (by
      have : 2 ^ 64 ≤ 2 ^ i := Nat.pow_le_pow_right (by omega) (by omega)
      have e : (2 : Nat) ^ 64 = 2 ^ 63 + 2 ^ 63 := by decide
      omega)
    have : decide (63 = i) = false := by simp; omega
    rw [e1, e2, this]; rfl
theorem bxor_high {a : Int} (h : U64 a) : bxor .u64 a 9223372036854775808 = if a < 9223372036854775808 then a + 9223372036854775808 else a - 9223372036854775808 := by
  obtain ⟨h1, h2⟩ := h
  obtain ⟨n, rfl⟩ := Int.eq_ofNat_of_zero_le h1
  have hn : n < 18446744073709551616 := by omega
  have e63 : (2 : Nat) ^ 63 = 9223372036854775808 := by decide
  have key : (BitVec.ofInt (IntKind.bits .u64) (n : Int) ^^^ BitVec.ofInt (IntKind.bits .u64) 9223372036854775808).toNat = n ^^^ 2 ^ 63 := by
    rw [BitVec.toNat_xor]
    have e1 : (BitVec.ofInt (IntKind.bits .u64) (n : Int)).toNat = n := by
      show (BitVec.ofInt 64 (n : Int)).toNat = n
      rw [BitVec.toNat_ofInt]
      omega
    have e2 : (BitVec.ofInt (IntKind.bits .u64) 9223372036854775808).toNat = 2 ^ 63 := by decide
    rw [e1, e2]
  unfold bxor
  rw [key]
  by_cases hlt : n < 9223372036854775808
  · rw [if_pos (by omega), xor_low n (by omega), wu (by omega) (by omega)]
    omega
  · rw [if_neg (by omega)]
    have e : n = (n - 9223372036854775808) ^^^ 2 ^ 63 := by rw [xor_low _ (by omega)]; omega
    have e2 : n ^^^ 2 ^ 63 = n - 9223372036854775808 := by
      conv => lhs; rw [e]
      rw [Nat.xor_assoc, Nat.xor_self, Nat.xor_zero]
    rw [e2, wu (by omega) (by omega)]
    omega
theorem lt_signed {a b : Int} (ha : U64 a) (hb : U64 b) : decide (bxor .u64 a 9223372036854775808 < bxor .u64 b 9223372036854775808) = decide (IntKind.wrap .i64 a < IntKind.wrap .i64 b) := by
  rw [bxor_high ha, bxor_high hb, wi_mod, wi_mod]
  obtain ⟨h1, h2⟩ := ha
  obtain ⟨h3, h4⟩ := hb
  congr 1
  apply propext
  split <;> split <;> omega
theorem eq_signed {a b : Int} (ha : U64 a) (hb : U64 b) : (bxor .u64 a 9223372036854775808 == bxor .u64 b 9223372036854775808) = (a == b) := by
  rw [bxor_high ha, bxor_high hb]
  obtain ⟨h1, h2⟩ := ha
  obtain ⟨h3, h4⟩ := hb
  rw [Bool.eq_iff_iff, beq_iff_eq, beq_iff_eq]
  split <;> split <;> omega

def lev (s : Bytes) : Nat :=
  if s = [124, 124] then 1 else if s = [38, 38] then 2 else if s = [124] then 3 else if s = [94] then 4 else if s = [38] then 5
  else if s = [61, 61] ∨ s = [33, 61] then 6 else if s = [60] ∨ s = [62] ∨ s = [60, 61] ∨ s = [62, 61] then 7 else if s = [60, 60] ∨ s = [62, 62] then 8
  else if s = [43] ∨ s = [45] then 9 else if s = [42] ∨ s = [47] ∨ s = [37] then 10 else 0
def opsL : List Bytes := [[124, 124], [38, 38], [124], [94], [38], [61, 61], [33, 61], [60], [62], [60, 61], [62, 61], [60, 60], [62, 62], [43], [45], [42], [47], [37]]
theorem lev_le (s : Bytes) : lev s ≤ 10 := by
  unfold lev
  repeat' split
  all_goals omega
theorem lev_mem (s : Bytes) : lev s ≠ 0 → s ∈ opsL := by
  intro h
  apply Decidable.byContradiction
  intro hn
  simp only [opsL, List.mem_cons, List.not_mem_nil, or_false, not_or] at hn
  obtain ⟨h1, h2, h3, h4, h5, h6, h7, h8, h9, h10, h11, h12, h13, h14, h15, h16, h17, h18⟩ := hn
  exact h (by simp [lev, *])
theorem G_levelOf (s : Bytes) : G_cond_levelOf s = some (lev s : Int) := by
  by_cases h : s ∈ opsL
  · have k : ∀ s ∈ opsL, G_cond_levelOf s = some (lev s : Int) := by decide +kernel
    exact k s h
  · simp only [opsL, List.mem_cons, List.not_mem_nil, or_false, not_or] at h
    obtain ⟨h1, h2, h3, h4, h5, h6, h7, h8, h9, h10, h11, h12, h13, h14, h15, h16, h17, h18⟩ := h
    simp [lev, G_cond_levelOf, *]
theorem G_ref_level (s : Bytes) : G_burinref05_level s = some (lev s : Int) := by
  by_cases h : s ∈ opsL
  · have k : ∀ s ∈ opsL, G_burinref05_level s = some (lev s : Int) := by decide +kernel
    exact k s h
  · simp only [opsL, List.mem_cons, List.not_mem_nil, or_false, not_or] at h
    obtain ⟨h1, h2, h3, h4, h5, h6, h7, h8, h9, h10, h11, h12, h13, h14, h15, h16, h17, h18⟩ := h
    simp [lev, G_burinref05_level, *]

theorem G_truth (b : Bool) : G_cond_truth b = some ⟨if b then 1 else 0, false⟩ := by cases b <;> rfl
theorem G_ref_truth (b : Bool) : G_burinref05_truth b = some ⟨if b then 1 else 0, false⟩ := by cases b <;> rfl
theorem G_fails (l : List T_api_Tok) (b c : Bool) : G_cond_eval_fails ⟨l, b⟩ c = some ⟨l, b || c⟩ := by cases b <;> rfl
theorem u64_if (b : Bool) : U64 (if b then 1 else 0) := by cases b <;> constructor <;> decide

section
variable {l L : List T_api_Tok} {j : Int} {b c : Bool} {va vb : Int} {ua ub : Bool}
def Bin (op : Bytes) (l L : List T_api_Tok) (j : Int) (b c : Bool) (va vb : Int) (ua ub : Bool) : Prop :=
  ∃ v u b', G_cond_eval_binary ⟨l, b⟩ op ⟨va, ua⟩ ⟨vb, ub⟩ c = some (⟨v, u⟩, ⟨l, b'⟩) ∧ G_burinref05_parser_apply ⟨L, j, !b⟩ op ⟨va, ua⟩ ⟨vb, ub⟩ c = some (⟨v, u⟩, ⟨L, j, !b'⟩) ∧ U64 v

theorem if_u : (if ua = true then some (true, true) else some (ub, false)) = some ((ua || ub), ua) := by cases ua <;> rfl
theorem i64_m1 (h : U64 vb) : ((IntKind.wrap .i64 vb) == (-1 : Int)) = (vb == 18446744073709551615) := by
  obtain ⟨h1, h2⟩ := h
  rw [wi_mod, Bool.eq_iff_iff, beq_iff_eq, beq_iff_eq]; omega
theorem i64_ne (h : U64 vb) (h0 : vb ≠ 0) : IntKind.wrap .i64 vb ≠ 0 := by
  obtain ⟨h1, h2⟩ := h
  rw [wi_mod]; omega
theorem bin_div (hb : U64 vb) (ha : U64 va) : Bin [47] l L j b c va vb ua ub := by
  unfold Bin
  simp only [G_cond_eval_binary, G_burinref05_parser_apply, G_cond_eval_divided, G_burinref05_parser_divide, if_u, bind_some', i64_m1 hb]
  by_cases h0 : vb = 0
  · subst h0
    cases ua <;> cases ub <;> cases b <;> cases c <;> exact ⟨_, _, _, rfl, rfl, u64_0⟩
  · have e0 : (vb == (0 : Int)) = false := by simpa using h0
    have e1 := i64_ne hb h0
    have r1 : rem va vb = some (va.tmod vb) := by simp [rem, h0]
    have q1 : quo .u64 va vb = some (IntKind.wrap .u64 (va.tdiv vb)) := by simp [quo, h0]
    have r2 : rem (IntKind.wrap .i64 va) (IntKind.wrap .i64 vb) = some ((IntKind.wrap .i64 va).tmod (IntKind.wrap .i64 vb)) := by simp [rem, e1]
    have q2 : quo .i64 (IntKind.wrap .i64 va) (IntKind.wrap .i64 vb) = some (IntKind.wrap .i64 ((IntKind.wrap .i64 va).tdiv (IntKind.wrap .i64 vb))) := by simp [quo, e1]
    simp only [e0, r1, q1, r2, q2, bind_some']
    cases hu : (ua || ub) with
    | true =>
      cases ua <;> cases ub <;> first | exact absurd hu (by decide) | exact ⟨_, _, _, rfl, rfl, u64_wrap _⟩
    | false =>
      have h1 : ua = false := by cases ua <;> simp_all
      have h2 : ub = false := by cases ub <;> simp_all
      subst h1; subst h2
      cases vb == 18446744073709551615 with
      | true => exact ⟨_, _, _, rfl, rfl, u64_wrap _⟩
      | false => exact ⟨_, _, _, rfl, rfl, u64_wrap _⟩
theorem u64_tmod (ha : U64 va) (hb : U64 vb) (h0 : vb ≠ 0) : U64 (va.tmod vb) := by
  obtain ⟨h1, h2⟩ := ha
  obtain ⟨h3, h4⟩ := hb
  have e := Int.tmod_nonneg vb h1
  have e2 := Int.tmod_lt_of_pos va (show 0 < vb by omega)
  exact ⟨e, by omega⟩
theorem bin_mod (hb : U64 vb) (ha : U64 va) : Bin [37] l L j b c va vb ua ub := by
  unfold Bin
  simp only [G_cond_eval_binary, G_burinref05_parser_apply, G_cond_eval_divided, G_burinref05_parser_divide, if_u, bind_some', i64_m1 hb]
  by_cases h0 : vb = 0
  · subst h0
    cases ua <;> cases ub <;> cases b <;> cases c <;> exact ⟨_, _, _, rfl, rfl, u64_0⟩
  · have e0 : (vb == (0 : Int)) = false := by simpa using h0
    have e1 := i64_ne hb h0
    have r1 : rem va vb = some (va.tmod vb) := by simp [rem, h0]
    have q1 : quo .u64 va vb = some (IntKind.wrap .u64 (va.tdiv vb)) := by simp [quo, h0]
    have r2 : rem (IntKind.wrap .i64 va) (IntKind.wrap .i64 vb) = some ((IntKind.wrap .i64 va).tmod (IntKind.wrap .i64 vb)) := by simp [rem, e1]
    have q2 : quo .i64 (IntKind.wrap .i64 va) (IntKind.wrap .i64 vb) = some (IntKind.wrap .i64 ((IntKind.wrap .i64 va).tdiv (IntKind.wrap .i64 vb))) := by simp [quo, e1]
    simp only [e0, r1, q1, r2, q2, bind_some']
    cases hu : (ua || ub) with
    | true => cases ua <;> cases ub <;> first | exact absurd hu (by decide) | exact ⟨_, _, _, rfl, rfl, u64_tmod ha hb h0⟩
    | false =>
      have h1 : ua = false := by cases ua <;> simp_all
      have h2 : ub = false := by cases ub <;> simp_all
      subst h1; subst h2
      cases vb == 18446744073709551615 with
      | true => exact ⟨_, _, _, rfl, rfl, u64_0⟩
      | false => exact ⟨_, _, _, rfl, rfl, u64_wrap _⟩
theorem bin_plain (op : Bytes) (h : op ∈ ([[42], [43], [45], [38], [94], [124]] : List Bytes)) : Bin op l L j b c va vb ua ub := by
  unfold Bin
  simp only [List.mem_cons, List.not_mem_nil, or_false] at h
  rcases h with rfl | rfl | rfl | rfl | rfl | rfl <;> cases ua <;> cases ub <;> exact ⟨_, _, _, rfl, rfl, u64_wrap _⟩
theorem u64_shr (ha : U64 va) (hb : 0 ≤ vb) : ∃ x, shr .u64 va vb = some x ∧ U64 x := by
  obtain ⟨h1, h2⟩ := ha
  refine ⟨_, by unfold shr; rw [if_neg (by omega)], ?_⟩
  have hp : (0 : Int) < 2 ^ (min vb.toNat (IntKind.bits .u64)) := Int.pow_pos (by omega)
  generalize (2 : Int) ^ (min vb.toNat (IntKind.bits .u64)) = p at hp
  constructor
  · exact Int.fdiv_nonneg h1 (by omega)
  · have := Int.fdiv_eq_ediv_of_nonneg va (show 0 ≤ p by omega)
    rw [this]
    have : va / p ≤ va := Int.ediv_le_self _ h1
    omega
theorem bin_shl (hb : U64 vb) : Bin [60, 60] l L j b c va vb ua ub := by
  unfold Bin
  simp only [G_cond_eval_binary, G_burinref05_parser_apply, G_cond_eval_shifted, G_burinref05_parser_shift, if_u, bind_some']
  obtain ⟨h1, h2⟩ := hb
  by_cases h : vb < 64
  · have e1 : decide ((63 : Int) < vb) = false := by simp; omega
    have e2 : decide ((64 : Int) ≤ vb) = false := by simp; omega
    have e3 : shl .u64 va vb = some (IntKind.wrap .u64 (va * 2 ^ (min vb.toNat (IntKind.bits .u64)))) := by unfold shl; rw [if_neg (by omega)]
    simp only [e1, e2, e3]
    cases ua <;> cases ub <;> exact ⟨_, _, _, rfl, rfl, u64_wrap _⟩
  · have e1 : decide ((63 : Int) < vb) = true := by simp; omega
    have e2 : decide ((64 : Int) ≤ vb) = true := by simp; omega
    simp only [e1, e2]
    cases ua <;> cases ub <;> cases b <;> cases c <;> exact ⟨_, _, _, rfl, rfl, u64_0⟩
theorem bin_shr (hb : U64 vb) (ha : U64 va) : Bin [62, 62] l L j b c va vb ua ub := by
  unfold Bin
  simp only [G_cond_eval_binary, G_burinref05_parser_apply, G_cond_eval_shifted, G_burinref05_parser_shift, if_u, bind_some']
  obtain ⟨h1, h2⟩ := hb
  by_cases h : vb < 64
  · have e1 : decide ((63 : Int) < vb) = false := by simp; omega
    have e2 : decide ((64 : Int) ≤ vb) = false := by simp; omega
    obtain ⟨x, e3, e4⟩ := u64_shr ha h1
    have e5 : shr .i64 (IntKind.wrap .i64 va) vb = some ((IntKind.wrap .i64 va).fdiv (2 ^ (min vb.toNat (IntKind.bits .i64)))) := by unfold shr; rw [if_neg (by omega)]
    simp only [e1, e2, e3, e5]
    cases ua with
    | true => exact ⟨_, _, _, rfl, rfl, e4⟩
    | false => cases ub <;> exact ⟨_, _, _, rfl, rfl, u64_wrap _⟩
  · have e1 : decide ((63 : Int) < vb) = true := by simp; omega
    have e2 : decide ((64 : Int) ≤ vb) = true := by simp; omega
    simp only [e1, e2]
    cases ua <;> cases ub <;> cases b <;> cases c <;> exact ⟨_, _, _, rfl, rfl, u64_0⟩

def cmpS (op : Bytes) (lt eq : Bool) : Bool :=
  if op = [60] then lt else if op = [62] then !lt && !eq else if op = [60, 61] then lt || eq else if op = [62, 61] then !lt else if op = [61, 61] then eq else !eq
def cmpL : List Bytes := [[61, 61], [33, 61], [60], [62], [60, 61], [62, 61]]
theorem cmp_prog (op : Bytes) (h : op ∈ cmpL) (x y : Int) (xy : (if (!ua) = true then if (!ub) = true then some ((bxor .u64 va (9223372036854775808 : Int)), (bxor .u64 vb (9223372036854775808 : Int))) else some (va, vb) else some (va, vb)) = some (x, y)) :
    G_cond_compared op ⟨va, ua⟩ ⟨vb, ub⟩ = some ⟨if cmpS op (decide (x < y)) (x == y) then 1 else 0, false⟩ := by
  have tri : (decide (x < y) = true ∧ (x == y) = false ∧ decide (y < x) = false) ∨ (decide (x < y) = false ∧ (x == y) = true ∧ decide (y < x) = false) ∨ (decide (x < y) = false ∧ (x == y) = false ∧ decide (y < x) = true) := by
    rcases Int.lt_trichotomy x y with h | h | h
    · left; simp; omega
    · right; left; simp; omega
    · right; right; simp; omega
  simp only [cmpL, List.mem_cons, List.not_mem_nil, or_false] at h
  rcases h with rfl | rfl | rfl | rfl | rfl | rfl <;> rcases tri with ⟨t1, t2, t3⟩ | ⟨t1, t2, t3⟩ | ⟨t1, t2, t3⟩ <;>
    (simp only [G_cond_compared, xy, bind_some', t1, t2, t3, G_truth, idx_0]; rfl)
theorem cmp_ref (op : Bytes) (h : op ∈ cmpL) (lt : Bool) (hlt : (if (!ua) = true then if (!ub) = true then some (decide ((IntKind.wrap .i64 va) < (IntKind.wrap .i64 vb))) else some (decide (va < vb)) else some (decide (va < vb))) = some lt) :
    G_burinref05_compare op ⟨va, ua⟩ ⟨vb, ub⟩ = some ⟨if cmpS op lt (va == vb) then 1 else 0, false⟩ := by
  simp only [cmpL, List.mem_cons, List.not_mem_nil, or_false] at h
  rcases h with rfl | rfl | rfl | rfl | rfl | rfl <;> cases lt <;> cases he : (va == vb) <;> (simp only [G_burinref05_compare, hlt, bind_some', he, G_ref_truth]; rfl)
theorem cmp_both (op : Bytes) (h : op ∈ cmpL) (ha : U64 va) (hb : U64 vb) : ∃ r : Bool, G_cond_compared op ⟨va, ua⟩ ⟨vb, ub⟩ = some ⟨if r then 1 else 0, false⟩ ∧ G_burinref05_compare op ⟨va, ua⟩ ⟨vb, ub⟩ = some ⟨if r then 1 else 0, false⟩ := by
  by_cases hu : ua = false ∧ ub = false
  · obtain ⟨rfl, rfl⟩ := hu
    exact ⟨_, cmp_prog op h _ _ rfl, by rw [cmp_ref op h _ rfl, lt_signed ha hb, eq_signed ha hb]⟩
  · refine ⟨_, cmp_prog op h va vb ?_, cmp_ref op h _ ?_⟩
    · cases ua <;> cases ub <;> first | rfl | exact absurd ⟨rfl, rfl⟩ hu
    · cases ua <;> cases ub <;> first | rfl | exact absurd ⟨rfl, rfl⟩ hu
theorem bin_cmp (op : Bytes) (h : op ∈ cmpL) (ha : U64 va) (hb : U64 vb) : Bin op l L j b c va vb ua ub := by
  obtain ⟨r, h1, h2⟩ := cmp_both (ua := ua) (ub := ub) op h ha hb
  have h1' : ∀ u', u' = ua → G_cond_compared op ⟨va, u'⟩ ⟨vb, ub⟩ = some ⟨if r then 1 else 0, false⟩ := by rintro _ rfl; exact h1
  unfold Bin
  simp only [cmpL, List.mem_cons, List.not_mem_nil, or_false] at h
  rcases h with rfl | rfl | rfl | rfl | rfl | rfl <;>
    (refine ⟨if r then 1 else 0, false, b, ?_, ?_, u64_if r⟩
     · simp only [G_cond_eval_binary, if_u, bind_some']
       rw [show G_cond_compared _ _ _ = _ from h1]
       rfl
     · simp only [G_burinref05_parser_apply, if_u, bind_some']
       rw [show G_burinref05_compare _ _ _ = _ from h2]
       rfl)
theorem bin_all (op : Bytes) (h : op ∈ opsL) (h1 : op ≠ [124, 124]) (h2 : op ≠ [38, 38]) (ha : U64 va) (hb : U64 vb) : Bin op l L j b c va vb ua ub := by
  simp only [opsL, List.mem_cons, List.not_mem_nil, or_false] at h
  rcases h with rfl | rfl | rfl | rfl | rfl | rfl | rfl | rfl | rfl | rfl | rfl | rfl | rfl | rfl | rfl | rfl | rfl | rfl
  · exact absurd rfl h1
  · exact absurd rfl h2
  · exact bin_plain _ (by decide)
  · exact bin_plain _ (by decide)
  · exact bin_plain _ (by decide)
  · exact bin_cmp _ (by decide) ha hb
  · exact bin_cmp _ (by decide) ha hb
  · exact bin_cmp _ (by decide) ha hb
  · exact bin_cmp _ (by decide) ha hb
  · exact bin_cmp _ (by decide) ha hb
  · exact bin_cmp _ (by decide) ha hb
  · exact bin_shl hb
  · exact bin_shr hb ha
  · exact bin_plain _ (by decide)
  · exact bin_plain _ (by decide)
  · exact bin_plain _ (by decide)
  · exact bin_div hb ha
  · exact bin_mod hb ha
end
end Go.Proofs.YtmngkcpobmhnoaaGreatDoor.Sim.Pl
/- Plain laws: what conditions say: the program's reading and the document's go side by side. -/
namespace Go.Proofs.YtmngkcpobmhnoaaGreatDoor.Sim.Pl
open Go.Proofs

def sgn (L : List T_api_Tok) (j : Nat) (b : Bool) : Bytes := if b then [] else match L[j]? with | none => [] | some t => if t.Kind_ = 5 then t.S_ else []
theorem idx_drop {L : List T_api_Tok} {j : Nat} : idx (L.drop j) 0 = L[j]? := by simp [idx]
theorem G_sign (L : List T_api_Tok) (j : Nat) (b : Bool) : G_cond_eval_sign ⟨L.drop j, b⟩ = some (sgn L j b, ⟨L.drop j, b⟩) := by
  cases b with
  | true => rfl
  | false =>
    unfold G_cond_eval_sign sgn
    by_cases h : j < L.length
    · have e : ((((L.drop j).length : Nat) : Int) == 0) = false := by simp; omega
      have e2 := List.getElem?_eq_getElem h
      simp only [e, idx_drop, e2, bind_some', Bool.false_eq_true, if_false]
      by_cases hk : (L[j]).Kind_ = 5
      · simp [hk]
      · simp [hk]
    · have e : L.drop j = [] := List.drop_eq_nil_of_le (by omega)
      have e2 : L[j]? = none := List.getElem?_eq_none (by omega)
      simp only [e, e2]
      rfl
theorem sgn_lt {L : List T_api_Tok} {j : Nat} {b : Bool} {s : Bytes} (h : sgn L j b = s) (hs : s ≠ []) : j < L.length ∧ b = false ∧ ∃ t, L[j]? = some t ∧ t.Kind_ = 5 ∧ t.S_ = s := by
  unfold sgn at h
  cases b with
  | true => exact absurd h.symm hs
  | false =>
    simp only [Bool.false_eq_true, if_false] at h
    cases hj : L[j]? with
    | none => rw [hj] at h; exact absurd h.symm hs
    | some t =>
      rw [hj] at h
      refine ⟨(List.getElem?_eq_some_iff.1 hj).1, rfl, t, rfl, ?_⟩
      simp only [] at h
      split at h
      · exact ⟨‹_›, h⟩
      · exact absurd h.symm hs
theorem drop_1 {L : List T_api_Tok} {j : Nat} (h : j < L.length) : subF (L.drop j) 1 = some (L.drop (j + 1)) := by
  rw [List.drop_eq_getElem_cons h, subF_1]
def nx (j : Nat) (x : Bool) : Nat := if x then j + 1 else j
theorem G_take (L : List T_api_Tok) (j : Nat) (b : Bool) (s : Bytes) (hs : s ≠ []) : G_cond_eval_take ⟨L.drop j, b⟩ s = some (sgn L j b == s, ⟨L.drop (nx j (sgn L j b == s)), b⟩) := by
  rw [G_cond_eval_take, G_sign, bind_some']
  by_cases h : sgn L j b = s
  · obtain ⟨h1, h2, _⟩ := sgn_lt h hs
    have e : (sgn L j b == s) = true := by simpa using h
    simp only [e, if_true, drop_1 h1, bind_some']
    rfl
  · have e : (sgn L j b == s) = false := by simpa using h
    simp only [e, Bool.false_eq_true, if_false]
    rfl
theorem G_takes (L : List T_api_Tok) (hL : L.length ≤ 16777216) (j : Nat) (b : Bool) (s : Bytes) (hs : s ≠ []) : G_burinref05_parser_takes ⟨L, (j : Int), !b⟩ s = some (sgn L j b == s, ⟨L, ((nx j (sgn L j b == s) : Nat) : Int), !b⟩) := by
  have hsees : G_burinref05_parser_sees ⟨L, (j : Int), !b⟩ s = some (sgn L j b == s, ⟨L, (j : Int), !b⟩) := by
    unfold G_burinref05_parser_sees sgn
    have hs' : (([] : Bytes) == s) = false := by simpa using Ne.symm hs
    cases b with
    | true => simp [hs']
    | false =>
      by_cases h : j < L.length
      · have e : (j : Int) < (L.length : Int) := by omega
        have e2 := List.getElem?_eq_getElem h
        simp only [e, idx_nat, e2, bind_some', Bool.not_false, if_true, decide_true]
        by_cases hk : (L[j]).Kind_ = 5
        · simp [hk]
        · simp [hk, hs']
      · have e : ¬ (j : Int) < (L.length : Int) := by omega
        have e2 : L[j]? = none := List.getElem?_eq_none (by omega)
        simp [e, e2, hs']
  rw [G_burinref05_parser_takes, hsees, bind_some']
  by_cases h : sgn L j b = s
  · obtain ⟨h1, h2, _⟩ := sgn_lt h hs
    have e : (sgn L j b == s) = true := by simpa using h
    simp only [e, if_true]
    rw [wi (by omega) (by omega)]
    rfl
  · have e : (sgn L j b == s) = false := by simpa using h
    simp only [e, Bool.false_eq_true, if_false]
    rfl

def RR (L : List T_api_Tok) (j : Nat) (p : Option (T_cond_value × T_cond_eval)) (r : Option (T_burinref05_Value × T_burinref05_parser)) : Prop :=
  ∃ v u j' b', p = some (⟨v, u⟩, ⟨L.drop j', b'⟩) ∧ r = some (⟨v, u⟩, ⟨L, ((j' : Nat) : Int), !b'⟩) ∧ U64 v ∧ j ≤ j' ∧ j' ≤ L.length
structure Sim5 (L : List T_api_Tok) (k : Nat) : Prop where
  choice : ∀ j b c, j ≤ L.length → 4 * (L.length - j) + 4 ≤ k → RR L j ((Rec_cond_eval_choice.lvl k).cond_eval_choice ⟨L.drop j, b⟩ c) ((Rec_burinref05_parser_choice.lvl k).burinref05_parser_choice ⟨L, (j : Int), !b⟩ c)
  chain : ∀ j b n c, j ≤ L.length → n ≤ 11 → 4 * (L.length - j) + 3 ≤ k → RR L j ((Rec_cond_eval_choice.lvl k).cond_eval_chain ⟨L.drop j, b⟩ ((n : Nat) : Int) c) ((Rec_burinref05_parser_choice.lvl k).burinref05_parser_chain ⟨L, (j : Int), !b⟩ ((n : Nat) : Int) c)
  unary : ∀ j b c, j ≤ L.length → 4 * (L.length - j) + 2 ≤ k → RR L j ((Rec_cond_eval_choice.lvl k).cond_eval_unary ⟨L.drop j, b⟩ c) ((Rec_burinref05_parser_choice.lvl k).burinref05_parser_front ⟨L, (j : Int), !b⟩ c)
  atom : ∀ j b c, j ≤ L.length → 4 * (L.length - j) + 1 ≤ k → RR L j ((Rec_cond_eval_choice.lvl k).cond_eval_atom ⟨L.drop j, b⟩ c) ((Rec_burinref05_parser_choice.lvl k).burinref05_parser_atom ⟨L, (j : Int), !b⟩ c)

def TokOK (L : List T_api_Tok) : Prop := L.length ≤ 16777216 ∧ ∀ t ∈ L, t.S_.length ≤ 16777216

theorem nx_le {L : List T_api_Tok} {j : Nat} {b : Bool} {s : Bytes} (hs : s ≠ []) (hj : j ≤ L.length) : j ≤ nx j (sgn L j b == s) ∧ nx j (sgn L j b == s) ≤ L.length := by
  by_cases h : sgn L j b = s
  · have := (sgn_lt h hs).1
    have e : (sgn L j b == s) = true := by simpa using h
    rw [e]; simp [nx]; omega
  · have e : (sgn L j b == s) = false := by simpa using h
    rw [e]; simp [nx]; omega

theorem step_unary {L : List T_api_Tok} (hL : TokOK L) {k : Nat} (S : Sim5 L k) : ∀ j b c, j ≤ L.length → 4 * (L.length - j) + 2 ≤ k + 1 →
    RR L j (G_cond_eval_unary_b (Rec_cond_eval_choice.lvl k) ⟨L.drop j, b⟩ c) (G_burinref05_parser_front_b (Rec_burinref05_parser_choice.lvl k) ⟨L, (j : Int), !b⟩ c) := by
  intro j b c hj hk
  unfold G_cond_eval_unary_b G_burinref05_parser_front_b
  rw [G_take L j b _ (by simp), G_takes L hL.1 j b _ (by simp), bind_some', bind_some']
  simp only []
  by_cases h1 : sgn L j b = [43]
  · have e : (sgn L j b == [43]) = true := by simpa using h1
    have hlt := (sgn_lt h1 (by simp)).1
    obtain ⟨v, u, j', b', p1, p2, p3, p4, p5⟩ := S.unary (j + 1) b c (by omega) (by omega)
    simp only [e, if_true]
    show RR L j ((Rec_cond_eval_choice.lvl k).cond_eval_unary ⟨L.drop (j + 1), b⟩ c >>= _) ((Rec_burinref05_parser_choice.lvl k).burinref05_parser_front ⟨L, ((j + 1 : Nat) : Int), !b⟩ c >>= _)
    rw [p1, p2]
    exact ⟨v, u, j', b', rfl, rfl, p3, by omega, p5⟩
  · have e : (sgn L j b == [43]) = false := by simpa using h1
    simp only [e, Bool.false_eq_true, if_false]
    show RR L j (G_cond_eval_take ⟨L.drop j, b⟩ ([45] : Bytes) >>= _) (G_burinref05_parser_takes ⟨L, (j : Int), !b⟩ ([45] : Bytes) >>= _)
    rw [G_take L j b _ (by simp), G_takes L hL.1 j b _ (by simp), bind_some', bind_some']
    simp only []
    by_cases h2 : sgn L j b = [45]
    · have e : (sgn L j b == [45]) = true := by simpa using h2
      have hlt := (sgn_lt h2 (by simp)).1
      obtain ⟨v, u, j', b', p1, p2, p3, p4, p5⟩ := S.unary (j + 1) b c (by omega) (by omega)
      simp only [e, if_true]
      show RR L j ((Rec_cond_eval_choice.lvl k).cond_eval_unary ⟨L.drop (j + 1), b⟩ c >>= _) ((Rec_burinref05_parser_choice.lvl k).burinref05_parser_front ⟨L, ((j + 1 : Nat) : Int), !b⟩ c >>= _)
      rw [p1, p2]
      exact ⟨_, u, j', b', rfl, rfl, u64_wrap _, by omega, p5⟩
    · have e : (sgn L j b == [45]) = false := by simpa using h2
      simp only [e, Bool.false_eq_true, if_false]
      show RR L j (G_cond_eval_take ⟨L.drop j, b⟩ ([126] : Bytes) >>= _) (G_burinref05_parser_takes ⟨L, (j : Int), !b⟩ ([126] : Bytes) >>= _)
      rw [G_take L j b _ (by simp), G_takes L hL.1 j b _ (by simp), bind_some', bind_some']
      simp only []
      by_cases h3 : sgn L j b = [126]
      · have e : (sgn L j b == [126]) = true := by simpa using h3
        have hlt := (sgn_lt h3 (by simp)).1
        obtain ⟨v, u, j', b', p1, p2, p3, p4, p5⟩ := S.unary (j + 1) b c (by omega) (by omega)
        simp only [e, if_true]
        show RR L j ((Rec_cond_eval_choice.lvl k).cond_eval_unary ⟨L.drop (j + 1), b⟩ c >>= _) ((Rec_burinref05_parser_choice.lvl k).burinref05_parser_front ⟨L, ((j + 1 : Nat) : Int), !b⟩ c >>= _)
        rw [p1, p2]
        exact ⟨_, u, j', b', rfl, rfl, u64_xor _ _, by omega, p5⟩
      · have e : (sgn L j b == [126]) = false := by simpa using h3
        simp only [e, Bool.false_eq_true, if_false]
        show RR L j (G_cond_eval_take ⟨L.drop j, b⟩ ([33] : Bytes) >>= _) (G_burinref05_parser_takes ⟨L, (j : Int), !b⟩ ([33] : Bytes) >>= _)
        rw [G_take L j b _ (by simp), G_takes L hL.1 j b _ (by simp), bind_some', bind_some']
        simp only []
        by_cases h4 : sgn L j b = [33]
        · have e : (sgn L j b == [33]) = true := by simpa using h4
          have hlt := (sgn_lt h4 (by simp)).1
          obtain ⟨v, u, j', b', p1, p2, p3, p4, p5⟩ := S.unary (j + 1) b c (by omega) (by omega)
          simp only [e, if_true]
          show RR L j ((Rec_cond_eval_choice.lvl k).cond_eval_unary ⟨L.drop (j + 1), b⟩ c >>= _) ((Rec_burinref05_parser_choice.lvl k).burinref05_parser_front ⟨L, ((j + 1 : Nat) : Int), !b⟩ c >>= _)
          rw [p1, p2, bind_some', bind_some']
          simp only [G_truth, G_ref_truth, bind_some']
          exact ⟨_, _, j', b', rfl, rfl, u64_if _, by omega, p5⟩
        · have e : (sgn L j b == [33]) = false := by simpa using h4
          simp only [e, Bool.false_eq_true, if_false]
          obtain ⟨v, u, j', b', p1, p2, p3, p4, p5⟩ := S.atom j b c (by omega) (by omega)
          show RR L j ((Rec_cond_eval_choice.lvl k).cond_eval_atom ⟨L.drop j, b⟩ c >>= _) ((Rec_burinref05_parser_choice.lvl k).burinref05_parser_atom ⟨L, (j : Int), !b⟩ c >>= _)
          rw [p1, p2]
          exact ⟨v, u, j', b', rfl, rfl, p3, by omega, p5⟩

theorem numS_le {s : Bytes} (hs : s.length ≤ 16777216) {v : Nat} {u : Bool} (h : numS s = some (v, u)) : v ≤ 18446744073709551615 := by
  unfold numS at h
  split at h
  · cases h
  · split at h
    · cases h
    · rename_i w n hg
      have := (numGo_le (by omega) hg).1
      split at h
      · cases h
      · split at h
        · cases h
        · cases h; exact this
theorem step_atom {L : List T_api_Tok} (hL : TokOK L) {k : Nat} (S : Sim5 L k) : ∀ j b c, j ≤ L.length → 4 * (L.length - j) + 1 ≤ k + 1 →
    RR L j (G_cond_eval_atom_b (Rec_cond_eval_choice.lvl k) ⟨L.drop j, b⟩ c) (G_burinref05_parser_atom_b (Rec_burinref05_parser_choice.lvl k) ⟨L, (j : Int), !b⟩ c) := by
  intro j b c hj hk
  unfold G_cond_eval_atom_b G_burinref05_parser_atom_b
  rw [G_take L j b _ (by simp), G_takes L hL.1 j b _ (by simp), bind_some', bind_some']
  simp only []
  by_cases h1 : sgn L j b = [40]
  · have e : (sgn L j b == [40]) = true := by simpa using h1
    have hlt := (sgn_lt h1 (by simp)).1
    obtain ⟨v, u, j', b', p1, p2, p3, p4, p5⟩ := S.choice (j + 1) b c (by omega) (by omega)
    simp only [e, if_true]
    show RR L j ((Rec_cond_eval_choice.lvl k).cond_eval_choice ⟨L.drop (j + 1), b⟩ c >>= _) ((Rec_burinref05_parser_choice.lvl k).burinref05_parser_choice ⟨L, ((j + 1 : Nat) : Int), !b⟩ c >>= _)
    rw [p1, p2, bind_some', bind_some']
    simp only []
    rw [G_take L j' b' _ (by simp), G_takes L hL.1 j' b' _ (by simp), bind_some', bind_some']
    simp only [G_fails, bind_some']
    obtain ⟨q1, q2⟩ := nx_le (L := L) (j := j') (b := b') (s := [41]) (by simp) p5
    refine ⟨v, u, _, (b' || !(sgn L j' b' == [41])), rfl, ?_, p3, by omega, q2⟩
    cases b' with
    | true => rfl
    | false => cases (sgn L j' false == [41]) <;> rfl
  · have e : (sgn L j b == [40]) = false := by simpa using h1
    simp only [e, Bool.false_eq_true, if_false]
    show RR L j (_ >>= _) (_ >>= _)
    cases b with
    | true => exact ⟨0, false, j, true, rfl, rfl, u64_0, by omega, by omega⟩
    | false =>
      by_cases hlt : j < L.length
      · have e1 : ((((L.drop (nx j false)).length : Nat) : Int) == 0) = false := by simp [nx]; omega
        have e2 : decide (((L.length : Nat) : Int) ≤ ((nx j false : Nat) : Int)) = false := by simp [nx]; omega
        have hg := List.getElem?_eq_getElem hlt
        have e3 : idx (L.drop (nx j false)) 0 = some L[j] := by rw [idx_drop]; exact hg
        have e4 : idx L ((nx j false : Nat) : Int) = some L[j] := by rw [idx_nat]; exact hg
        have e5 : subF (L.drop (nx j false)) 1 = some (L.drop (j + 1)) := drop_1 hlt
        have e6 : IntKind.wrap .i64 (((nx j false : Nat) : Int) + 1) = ((j + 1 : Nat) : Int) := by
          have := hL.1
          simp only [nx]
          rw [wi (by simp; omega) (by simp; omega)]; rfl
        have hS : (L[j]).S_.length ≤ 16777216 := hL.2 _ (List.getElem_mem hlt)
        simp only [e1, e2, e3, e4, e5, e6, bind_some', Bool.not_false, Bool.not_true, Bool.false_eq_true, if_false]
        generalize L[j] = t at hS
        by_cases k1 : t.Kind_ = 1
        · have k1' : (t.Kind_ == (1 : Int)) = true := by simpa using k1
          simp only [k1', if_true]
          exact ⟨0, false, j + 1, false, rfl, rfl, u64_0, by omega, by omega⟩
        · have k1' : (t.Kind_ == (1 : Int)) = false := by simpa using k1
          simp only [k1', Bool.false_eq_true, if_false]
          by_cases k2 : t.Kind_ = 2
          · have k2' : (t.Kind_ == (2 : Int)) = true := by simpa using k2
            simp only [k2', if_true, G_Number _ hS, G_ref_Number _ hS, bind_some', G_fails]
            cases hn : numS t.S_ with
            | none => exact ⟨0, false, j + 1, true, rfl, rfl, u64_0, by omega, by omega⟩
            | some p =>
              obtain ⟨v, u⟩ := p
              have hv := numS_le hS hn
              have hu : U64 (v : Int) := ⟨by omega, by omega⟩
              cases u with
              | true => exact ⟨(v : Int), true, j + 1, false, rfl, rfl, hu, by omega, by omega⟩
              | false =>
                refine ⟨(v : Int), false, j + 1, decide (IntKind.wrap .i64 (v : Int) < 0), rfl, ?_, hu, by omega, by omega⟩
                have : (!decide (IntKind.wrap .i64 (v : Int) < 0)) = decide ((v : Int) < 9223372036854775808) := by
                  rw [wi_mod, Bool.eq_iff_iff]
                  simp only [Bool.not_eq_true', decide_eq_false_iff_not, decide_eq_true_eq]
                  omega
                rw [this]
                rfl
          · have k2' : (t.Kind_ == (2 : Int)) = false := by simpa using k2
            simp only [k2', Bool.false_eq_true, if_false]
            by_cases k3 : t.Kind_ = 3
            · have k3' : (t.Kind_ == (3 : Int)) = true := by simpa using k3
              simp only [k3', if_true, G_Char _ hS, G_ref_Char _ hS, bind_some', G_fails]
              refine ⟨_, false, j + 1, !((charR (charS t.S_)).2 == 0), rfl, ?_, u64_wrap _, by omega, by omega⟩
              rw [Bool.not_not]
            · have k3' : (t.Kind_ == (3 : Int)) = false := by simpa using k3
              simp only [k3', Bool.false_eq_true, if_false]
              exact ⟨0, false, j + 1, true, rfl, rfl, u64_0, by omega, by omega⟩
      · have e1 : ((((L.drop (nx j false)).length : Nat) : Int) == 0) = true := by simp [nx]; omega
        have e2 : decide (((L.length : Nat) : Int) ≤ ((nx j false : Nat) : Int)) = true := by simp [nx]; omega
        simp only [e1, e2]
        exact ⟨0, false, j, true, rfl, rfl, u64_0, by omega, by omega⟩

theorem step_choice {L : List T_api_Tok} (hL : TokOK L) {k : Nat} (S : Sim5 L k) : ∀ j b c, j ≤ L.length → 4 * (L.length - j) + 4 ≤ k + 1 →
    RR L j (G_cond_eval_choice_b (Rec_cond_eval_choice.lvl k) ⟨L.drop j, b⟩ c) (G_burinref05_parser_choice_b (Rec_burinref05_parser_choice.lvl k) ⟨L, (j : Int), !b⟩ c) := by
  intro j b c hj hk
  unfold G_cond_eval_choice_b G_burinref05_parser_choice_b
  obtain ⟨v, u, j1, b1, p1, p2, p3, p4, p5⟩ := S.chain j b 1 c (by omega) (by omega) (by omega)
  rw [show (1 : Int) = ((1 : Nat) : Int) from rfl, p1, p2, bind_some', bind_some']
  simp only []
  rw [G_take L j1 b1 _ (by simp), G_takes L hL.1 j1 b1 _ (by simp), bind_some', bind_some']
  simp only []
  by_cases h1 : sgn L j1 b1 = [63]
  · have e : (sgn L j1 b1 == [63]) = true := by simpa using h1
    have hlt := (sgn_lt h1 (by simp)).1
    have en : nx j1 true = j1 + 1 := rfl
    simp only [e, Bool.not_true, Bool.false_eq_true, if_false, en]
    have key : ∀ c1 c2 : Bool, ∃ v2 u2 j2 b2, (Rec_cond_eval_choice.lvl k).cond_eval_choice ⟨L.drop (j1 + 1), b1⟩ c1 = some (⟨v2, u2⟩, ⟨L.drop j2, b2⟩) ∧
        (Rec_burinref05_parser_choice.lvl k).burinref05_parser_choice ⟨L, ((j1 + 1 : Nat) : Int), !b1⟩ c1 = some (⟨v2, u2⟩, ⟨L, (j2 : Int), !b2⟩) ∧ U64 v2 ∧
        ∃ v3 u3 j3 b3, (Rec_cond_eval_choice.lvl k).cond_eval_choice ⟨L.drop (nx j2 (sgn L j2 b2 == [58])), b2 || !(sgn L j2 b2 == [58])⟩ c2 = some (⟨v3, u3⟩, ⟨L.drop j3, b3⟩) ∧
        (Rec_burinref05_parser_choice.lvl k).burinref05_parser_choice ⟨L, ((nx j2 (sgn L j2 b2 == [58]) : Nat) : Int), !(b2 || !(sgn L j2 b2 == [58]))⟩ c2 = some (⟨v3, u3⟩, ⟨L, (j3 : Int), !b3⟩) ∧ U64 v3 ∧ j ≤ j3 ∧ j3 ≤ L.length := by
      intro c1 c2
      obtain ⟨v2, u2, j2, b2, q1, q2, q3, q4, q5⟩ := S.choice (j1 + 1) b1 c1 (by omega) (by omega)
      obtain ⟨n1, n2⟩ := nx_le (L := L) (j := j2) (b := b2) (s := [58]) (by simp) q5
      obtain ⟨v3, u3, j3, b3, r1, r2, r3, r4, r5⟩ := S.choice _ (b2 || !(sgn L j2 b2 == [58])) c2 n2 (by omega)
      exact ⟨v2, u2, j2, b2, q1, q2, q3, v3, u3, j3, b3, r1, r2, r3, by omega, r5⟩
    cases c with
    | true =>
      obtain ⟨v2, u2, j2, b2, q1, q2, q3, v3, u3, j3, b3, r1, r2, r3, r4, r5⟩ := key (!(v == 0)) (v == 0)
      simp only [if_true, q1, q2, bind_some']
      rw [G_take L j2 b2 _ (by simp), G_takes L hL.1 j2 b2 _ (by simp), bind_some', bind_some']
      simp only [G_fails, bind_some']
      have e9 : (if (!b2) = true then some (sgn L j2 b2 == [58]) else some false) = some (!(b2 || !(sgn L j2 b2 == [58]))) := by
        cases b2 with
        | true => rfl
        | false => simp
      simp only [e9, bind_some', r1, r2]
      cases v == 0 <;> cases u2 <;> exact ⟨_, _, j3, b3, rfl, rfl, by assumption, r4, r5⟩
    | false =>
      obtain ⟨v2, u2, j2, b2, q1, q2, q3, v3, u3, j3, b3, r1, r2, r3, r4, r5⟩ := key false false
      simp only [Bool.false_eq_true, if_false, q1, q2, bind_some']
      rw [G_take L j2 b2 _ (by simp), G_takes L hL.1 j2 b2 _ (by simp), bind_some', bind_some']
      simp only [G_fails, bind_some']
      have e9 : (if (!b2) = true then some (sgn L j2 b2 == [58]) else some false) = some (!(b2 || !(sgn L j2 b2 == [58]))) := by
        cases b2 with
        | true => rfl
        | false => simp
      simp only [e9, bind_some', r1, r2, Bool.false_eq_true, if_false]
      cases v == 0 <;> cases u2 <;> exact ⟨_, _, j3, b3, rfl, rfl, by assumption, r4, r5⟩
  · have e : (sgn L j1 b1 == [63]) = false := by simpa using h1
    simp only [e, Bool.not_false, if_true]
    exact ⟨v, u, j1, b1, rfl, rfl, p3, p4, p5⟩
end Go.Proofs.YtmngkcpobmhnoaaGreatDoor.Sim.Pl
/- Plain laws: what conditions say: chains of operators, and the whole. -/
namespace Go.Proofs.YtmngkcpobmhnoaaGreatDoor.Sim.Pl
open Go.Proofs

theorem chain_loop {L : List T_api_Tok} (hL : TokOK L) {k : Nat} (S : Sim5 L k) (n : Nat) (hn : n ≤ 11) (c : Bool) : ∀ m j b v u, L.length - j ≤ m → j ≤ L.length → 4 * (L.length - j) + 3 ≤ k + 1 → U64 v →
    ∃ v' u' j' b', loopO (G_cond_eval_chain_L1 (Rec_cond_eval_choice.lvl k) ((n : Nat) : Int)) (c, L.drop j, b, v, u) = some (L.drop j', b', v', u') ∧
      (∃ X, loopO (G_burinref05_parser_chain_L1 (Rec_burinref05_parser_choice.lvl k) ((n : Nat) : Int)) (c, L, (j : Int), !b, v, u) = some X ∧
        (X = Ex2.a (L, ((j' : Nat) : Int), !b', v', u') ∨ X = Ex2.b (L, ((j' : Nat) : Int), !b', v', u', v', u'))) ∧ U64 v' ∧ j ≤ j' ∧ j' ≤ L.length := by
  intro m
  induction m with
  | zero =>
    intro j b v u hm hj hk hv
    have : j = L.length := by omega
    subst this
    have hs : sgn L L.length b = [] := by
      unfold sgn
      rw [List.getElem?_eq_none (Nat.le_refl _)]
      cases b <;> rfl
    refine ⟨v, u, L.length, b, ?_, ⟨Ex2.a (L, ((L.length : Nat) : Int), !b, v, u), ?_, .inl rfl⟩, hv, Nat.le_refl _, Nat.le_refl _⟩
    · refine loopO_inr ?_
      simp only [G_cond_eval_chain_L1, G_sign, bind_some', G_levelOf, hs]
      rfl
    · refine loopO_inr ?_
      have e : decide (((L.length : Nat) : Int) < ((L.length : Nat) : Int)) = false := by simp
      simp only [G_burinref05_parser_chain_L1, e]
      cases b <;> rfl
  | succ m ih =>
    intro j b v u hm hj hk hv
    by_cases hs : sgn L j b = []
    · -- no sign, or one without bytes
      refine ⟨v, u, j, b, ?_, ?_, hv, Nat.le_refl _, hj⟩
      · refine loopO_inr ?_
        simp only [G_cond_eval_chain_L1, G_sign, bind_some', G_levelOf, hs]
        rfl
      · cases b with
        | true => exact ⟨_, loopO_inr rfl, .inl rfl⟩
        | false =>
          by_cases hlt : j < L.length
          · have e : decide (((j : Nat) : Int) < ((L.length : Nat) : Int)) = true := by simp; omega
            have hg := List.getElem?_eq_getElem hlt
            have e4 : idx L (j : Int) = some L[j] := by rw [idx_nat]; exact hg
            unfold sgn at hs
            rw [hg] at hs
            simp only [Bool.false_eq_true, if_false] at hs
            by_cases hk5 : (L[j]).Kind_ = 5
            · rw [if_pos hk5] at hs
              refine ⟨_, loopO_inr (x := Ex2.b (L, (j : Int), true, v, u, v, u)) ?_, .inr rfl⟩
              have k5 : ((L[j]).Kind_ == (5 : Int)) = true := by simpa using hk5
              simp only [G_burinref05_parser_chain_L1, e, e4, k5, bind_some', Bool.not_false, if_true, G_ref_level, hs]
              rfl
            · refine ⟨_, loopO_inr (x := Ex2.a (L, (j : Int), true, v, u)) ?_, .inl rfl⟩
              have k5 : ((L[j]).Kind_ == (5 : Int)) = false := by simpa using hk5
              simp only [G_burinref05_parser_chain_L1, e, e4, k5, bind_some', Bool.not_false, if_true]
              rfl
          · refine ⟨_, loopO_inr (x := Ex2.a (L, (j : Int), true, v, u)) ?_, .inl rfl⟩
            have e : decide (((j : Nat) : Int) < ((L.length : Nat) : Int)) = false := by simp; omega
            simp only [G_burinref05_parser_chain_L1, e]
            rfl
    · -- a sign
      obtain ⟨op, hop⟩ : ∃ op, sgn L j b = op := ⟨_, rfl⟩
      rw [hop] at hs
      obtain ⟨hlt, rfl, t, ht, hk5, hS⟩ := sgn_lt hop hs
      have e : decide (((j : Nat) : Int) < ((L.length : Nat) : Int)) = true := by simp; omega
      have e4 : idx L (j : Int) = some t := by rw [idx_nat]; exact ht
      have k5 : (t.Kind_ == (5 : Int)) = true := by simpa using hk5
      by_cases hstop : lev op = 0 ∨ lev op < n
      · refine ⟨v, u, j, false, ?_, ⟨_, loopO_inr (x := Ex2.b (L, (j : Int), true, v, u, v, u)) ?_, .inr rfl⟩, hv, Nat.le_refl _, hj⟩
        · refine loopO_inr ?_
          simp only [G_cond_eval_chain_L1, G_sign, bind_some', G_levelOf, hop]
          rcases hstop with h | h
          · rw [h]; rfl
          · have h0 : decide ((lev op : Int) < (n : Int)) = true := by simp; omega
            simp only [h0]
            cases ((lev op : Int) == 0) <;> rfl
        · simp only [G_burinref05_parser_chain_L1, e, e4, k5, bind_some', Bool.not_false, if_true, G_ref_level, hS]
          rcases hstop with h | h
          · rw [h]; rfl
          · have h0 : decide ((lev op : Int) < (n : Int)) = true := by simp; omega
            simp only [h0]
            cases ((lev op : Int) == 0) <;> rfl
      · have l0 : lev op ≠ 0 := fun h => hstop (.inl h)
        have l1 : ((lev op : Int) == 0) = false := by simp; omega
        have l2 : decide ((lev op : Int) < (n : Int)) = false := by simp; omega
        have l3 := lev_le op
        have l4 : IntKind.wrap .i64 ((lev op : Int) + 1) = ((lev op + 1 : Nat) : Int) := by rw [wi (by omega) (by omega)]; rfl
        have l5 : IntKind.wrap .i64 ((j : Int) + 1) = ((j + 1 : Nat) : Int) := by have := hL.1; rw [wi (by omega) (by omega)]; rfl
        have hmem := lev_mem op l0
        have htk := G_take L j false op hs
        have ee : (sgn L j false == op) = true := by simpa using hop
        rw [ee] at htk
        have htk : G_cond_eval_take ⟨L.drop j, false⟩ op = some (true, ⟨L.drop (j + 1), false⟩) := htk
        -- the way on
        have go : ∀ (c' : Bool) (v2 : Int) (u2 : Bool) (j2 : Nat) (b2 : Bool), U64 v2 → j + 1 ≤ j2 → j2 ≤ L.length →
            G_cond_eval_chain_L1 (Rec_cond_eval_choice.lvl k) ((n : Nat) : Int) (c, L.drop j, false, v, u) = some (Sum.inl (c, L.drop j2, b2, v2, u2)) →
            G_burinref05_parser_chain_L1 (Rec_burinref05_parser_choice.lvl k) ((n : Nat) : Int) (c, L, (j : Int), !false, v, u) = some (Sum.inl (c, L, ((j2 : Nat) : Int), !b2, v2, u2)) →
            ∃ v' u' j' b', loopO (G_cond_eval_chain_L1 (Rec_cond_eval_choice.lvl k) ((n : Nat) : Int)) (c, L.drop j, false, v, u) = some (L.drop j', b', v', u') ∧
              (∃ X, loopO (G_burinref05_parser_chain_L1 (Rec_burinref05_parser_choice.lvl k) ((n : Nat) : Int)) (c, L, (j : Int), !false, v, u) = some X ∧
                (X = Ex2.a (L, ((j' : Nat) : Int), !b', v', u') ∨ X = Ex2.b (L, ((j' : Nat) : Int), !b', v', u', v', u'))) ∧ U64 v' ∧ j ≤ j' ∧ j' ≤ L.length := by
          intro c' v2 u2 j2 b2 h1 h2 h3 h4 h5
          rw [loopO_inl h4, loopO_inl h5]
          obtain ⟨v', u', j', b', q1, q2, q3, q4, q5⟩ := ih j2 b2 v2 u2 (by omega) h3 (by omega) h1
          exact ⟨v', u', j', b', q1, q2, q3, by omega, q5⟩
        by_cases ha : op = [38, 38]
        · have ea : (op == ([38, 38] : Bytes)) = true := by simpa using ha
          have rec1 : ∀ c1 : Bool, _ := fun c1 => S.chain (j + 1) false (lev op + 1) c1 (by omega) (by omega) (by omega)
          cases c with
          | true =>
            obtain ⟨v2, u2, j2, b2, p1, p2, p3, p4, p5⟩ := rec1 (!(v == 0))
            refine go true (if (!(v == 0)) && !(v2 == 0) then 1 else 0) false j2 b2 (u64_if _) p4 p5 ?_ ?_
            · simp only [G_cond_eval_chain_L1, G_sign, bind_some', G_levelOf, hop, l1, l2, l4, htk, ea, if_true, p1, G_truth, Bool.false_eq_true, if_false]
              cases v == 0 <;> simp
            · simp only [G_burinref05_parser_chain_L1, e, e4, k5, bind_some', Bool.not_false, if_true, G_ref_level, hS, l1, l2, l4, l5, ea, p2, G_ref_truth, Bool.false_eq_true, if_false]
              rw [show (true : Bool) = !false from rfl, p2]
              simp only [bind_some', G_ref_truth]
              cases v == 0 <;> simp
          | false =>
            obtain ⟨v2, u2, j2, b2, p1, p2, p3, p4, p5⟩ := rec1 false
            refine go true (if (!(v == 0)) && !(v2 == 0) then 1 else 0) false j2 b2 (u64_if _) p4 p5 ?_ ?_
            · simp only [G_cond_eval_chain_L1, G_sign, bind_some', G_levelOf, hop, l1, l2, l4, htk, ea, if_true, p1, G_truth, Bool.false_eq_true, if_false]
              cases v == 0 <;> simp
            · simp only [G_burinref05_parser_chain_L1, e, e4, k5, bind_some', Bool.not_false, if_true, G_ref_level, hS, l1, l2, l4, l5, ea, p2, G_ref_truth, Bool.false_eq_true, if_false]
              rw [show (true : Bool) = !false from rfl, p2]
              simp only [bind_some', G_ref_truth]
              cases v == 0 <;> simp
        · have ea : (op == ([38, 38] : Bytes)) = false := by simpa using ha
          by_cases ho : op = [124, 124]
          · have eo : (op == ([124, 124] : Bytes)) = true := by simpa using ho
            have rec1 : ∀ c1 : Bool, _ := fun c1 => S.chain (j + 1) false (lev op + 1) c1 (by omega) (by omega) (by omega)
            cases c with
            | true =>
              obtain ⟨v2, u2, j2, b2, p1, p2, p3, p4, p5⟩ := rec1 (v == 0)
              refine go true (if (!(v == 0)) || !(v2 == 0) then 1 else 0) false j2 b2 (u64_if _) p4 p5 ?_ ?_
              · simp only [G_cond_eval_chain_L1, G_sign, bind_some', G_levelOf, hop, l1, l2, l4, htk, ea, eo, if_true, Bool.not_not, p1, G_truth, Bool.false_eq_true, if_false]
                cases v == 0 <;> simp
              · simp only [G_burinref05_parser_chain_L1, e, e4, k5, bind_some', Bool.not_false, if_true, G_ref_level, hS, l1, l2, l4, l5, ea, eo, p2, G_ref_truth, Bool.false_eq_true, if_false]
                rw [show (true : Bool) = !false from rfl, p2]
                simp only [bind_some', G_ref_truth]
                cases v == 0 <;> simp
            | false =>
              obtain ⟨v2, u2, j2, b2, p1, p2, p3, p4, p5⟩ := rec1 false
              refine go true (if (!(v == 0)) || !(v2 == 0) then 1 else 0) false j2 b2 (u64_if _) p4 p5 ?_ ?_
              · simp only [G_cond_eval_chain_L1, G_sign, bind_some', G_levelOf, hop, l1, l2, l4, htk, ea, eo, if_true, p1, G_truth, Bool.false_eq_true, if_false]
                cases v == 0 <;> simp
              · simp only [G_burinref05_parser_chain_L1, e, e4, k5, bind_some', Bool.not_false, if_true, G_ref_level, hS, l1, l2, l4, l5, ea, eo, p2, G_ref_truth, Bool.false_eq_true, if_false]
                rw [show (true : Bool) = !false from rfl, p2]
                simp only [bind_some', G_ref_truth]
                cases v == 0 <;> simp
          · have eo : (op == ([124, 124] : Bytes)) = false := by simpa using ho
            obtain ⟨v2, u2, j2, b2, p1, p2, p3, p4, p5⟩ := S.chain (j + 1) false (lev op + 1) c (by omega) (by omega) (by omega)
            obtain ⟨w, uw, b3, w1, w2, w3⟩ := bin_all (l := L.drop j2) (L := L) (j := (j2 : Int)) (b := b2) (c := c) (ua := u) (ub := u2) op hmem ho ha hv p3
            refine go true w uw j2 b3 w3 p4 p5 ?_ ?_
            · simp only [G_cond_eval_chain_L1, G_sign, bind_some', G_levelOf, hop, l1, l2, l4, htk, ea, eo, if_true, p1, Bool.false_eq_true, if_false, w1]
            · simp only [G_burinref05_parser_chain_L1, e, e4, k5, bind_some', Bool.not_false, if_true, G_ref_level, hS, l1, l2, l4, l5, ea, eo, Bool.false_eq_true, if_false]
              rw [show (true : Bool) = !false from rfl, p2]
              simp only [bind_some', w2]

theorem step_chain {L : List T_api_Tok} (hL : TokOK L) {k : Nat} (S : Sim5 L k) : ∀ j b n c, j ≤ L.length → n ≤ 11 → 4 * (L.length - j) + 3 ≤ k + 1 →
    RR L j (G_cond_eval_chain_b (Rec_cond_eval_choice.lvl k) ⟨L.drop j, b⟩ ((n : Nat) : Int) c) (G_burinref05_parser_chain_b (Rec_burinref05_parser_choice.lvl k) ⟨L, (j : Int), !b⟩ ((n : Nat) : Int) c) := by
  intro j b n c hj hn hk
  obtain ⟨v, u, j1, b1, p1, p2, p3, p4, p5⟩ := S.unary j b c hj (by omega)
  obtain ⟨v', u', j', b', q1, ⟨X, q2, q6⟩, q3, q4, q5⟩ := chain_loop hL S n hn c _ j1 b1 v u (Nat.le_refl _) p5 (by omega) p3
  unfold G_cond_eval_chain_b G_burinref05_parser_chain_b
  rw [p1, p2, bind_some', bind_some']
  simp only []
  rw [q1, q2]
  rcases q6 with rfl | rfl
  · exact ⟨v', u', j', b', rfl, rfl, q3, by omega, q5⟩
  · exact ⟨v', u', j', b', rfl, rfl, q3, by omega, q5⟩

theorem sim5 {L : List T_api_Tok} (hL : TokOK L) : ∀ k, Sim5 L k
  | 0 => ⟨fun _ _ _ _ h => absurd h (by omega), fun _ _ _ _ _ _ h => absurd h (by omega), fun _ _ _ _ h => absurd h (by omega), fun _ _ _ _ h => absurd h (by omega)⟩
  | k + 1 => ⟨step_choice hL (sim5 hL k), step_chain hL (sim5 hL k), step_unary hL (sim5 hL k), step_atom hL (sim5 hL k)⟩

theorem G_Eval {L : List T_api_Tok} (hL : TokOK L) (k : Nat) (hk : 4 * L.length + 4 ≤ k) : ∃ r, G_cond_Eval k L = some r ∧ G_burinref05_Eval k L = some r := by
  obtain ⟨v, u, j, b, p1, p2, p3, p4, p5⟩ := (sim5 hL k).choice 0 false true (Nat.zero_le _) (by omega)
  rw [List.drop_zero] at p1
  unfold G_cond_Eval G_burinref05_Eval
  have p1 : G_cond_eval_choice k ⟨L, false⟩ true = _ := p1
  have p2 : G_burinref05_parser_choice k ⟨L, (0 : Int), true⟩ true = _ := p2
  rw [p1, p2, bind_some', bind_some']
  cases b with
  | true => exact ⟨_, rfl, rfl⟩
  | false =>
    by_cases h : j = L.length
    · subst h
      refine ⟨(v, u, 0), ?_, ?_⟩
      · simp
      · simp
    · refine ⟨(0, false, 50), ?_, ?_⟩
      · have : decide ((0 : Int) < (((L.drop j).length : Nat) : Int)) = true := by simp; omega
        simp only [this]
        rfl
      · have : (((j : Nat) : Int) == ((L.length : Nat) : Int)) = false := by simp; omega
        simp only [this]
        rfl
end Go.Proofs.YtmngkcpobmhnoaaGreatDoor.Sim.Pl
