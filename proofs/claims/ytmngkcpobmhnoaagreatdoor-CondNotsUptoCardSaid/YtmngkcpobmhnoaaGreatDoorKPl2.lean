/- Plain laws: what conditions' operators make: the program's answer and the document's. -/
import Derived.Test.YtmngkcpobmhnoaaGreatDoorKPl1
set_option linter.all false
namespace Go.Proofs.YtmngkcpobmhnoaaGreatDoor.Sim.Pl
open Go.Proofs

def U64 (v : Int) : Prop := 0 ≤ v ∧ v ≤ 18446744073709551615
theorem u64_wrap (x : Int) : U64 (IntKind.wrap .u64 x) := by rw [wu_mod]; constructor <;> omega
theorem u64_0 : U64 0 := ⟨by decide, by decide⟩
theorem u64_xor (x y : Int) : U64 (bxor .u64 x y) := u64_wrap _

theorem xor_low (l : Nat) (h : l < 2 ^ 63) : l ^^^ 2 ^ 63 = l + 2 ^ 63 := by
  apply Nat.eq_of_testBit_eq
  intro i
  rw [Nat.testBit_xor, Nat.testBit_two_pow, Nat.add_comm]
  rcases Nat.lt_trichotomy i 63 with hi | rfl | hi
  · rw [Nat.testBit_two_pow_add_gt hi]
    have : decide (63 = i) = false := by simp; omega
    rw [this]; simp
  · rw [Nat.testBit_two_pow_add_eq]
    simp
  · have e1 : l.testBit i = false := Nat.testBit_lt_two_pow (Nat.lt_of_lt_of_le h (Nat.pow_le_pow_right (by omega) (by omega)))
    have e2 : (2 ^ 63 + l).testBit i = false := Nat.testBit_lt_two_pow (by
      have : 2 ^ 64 ≤ 2 ^ i := Nat.pow_le_pow_right (by omega) (by omega)
      have e : (2 : Nat) ^ 64 = 2 ^ 63 + 2 ^ 63 := by decide
      omega)
    have : decide (63 = i) = false := by simp; omega
    rw [e1, e2, this]; rfl
theorem bxor_high {a : Int} (h : U64 a) : bxor .u64 a 9223372036854775808 = if a < 9223372036854775808 then a + 9223372036854775808 else a - 9223372036854775808 := by
  obtain ⟨h1, h2⟩ := h
  obtain ⟨n, rfl⟩ := Int.eq_ofNat_of_zero_le h1
  have hn : n < 18446744073709551616 := by omega
  have e63 : (2 : Nat) ^ 63 = 9223372036854775808 := by decide
  have key : (BitVec.ofInt (IntKind.bits .u64) (n : Int) ^^^ BitVec.ofInt (IntKind.bits .u64) 9223372036854775808).toNat = n ^^^ 2 ^ 63 := by
    rw [BitVec.toNat_xor]
    have e1 : (BitVec.ofInt (IntKind.bits .u64) (n : Int)).toNat = n := by
      show (BitVec.ofInt 64 (n : Int)).toNat = n
      rw [BitVec.toNat_ofInt]
      omega
    have e2 : (BitVec.ofInt (IntKind.bits .u64) 9223372036854775808).toNat = 2 ^ 63 := by decide
    rw [e1, e2]
  unfold bxor
  rw [key]
  by_cases hlt : n < 9223372036854775808
  · rw [if_pos (by omega), xor_low n (by omega), wu (by omega) (by omega)]
    omega
  · rw [if_neg (by omega)]
    have e : n = (n - 9223372036854775808) ^^^ 2 ^ 63 := by rw [xor_low _ (by omega)]; omega
    have e2 : n ^^^ 2 ^ 63 = n - 9223372036854775808 := by
      conv => lhs; rw [e]
      rw [Nat.xor_assoc, Nat.xor_self, Nat.xor_zero]
    rw [e2, wu (by omega) (by omega)]
    omega
theorem lt_signed {a b : Int} (ha : U64 a) (hb : U64 b) : decide (bxor .u64 a 9223372036854775808 < bxor .u64 b 9223372036854775808) = decide (IntKind.wrap .i64 a < IntKind.wrap .i64 b) := by
  rw [bxor_high ha, bxor_high hb, wi_mod, wi_mod]
  obtain ⟨h1, h2⟩ := ha
  obtain ⟨h3, h4⟩ := hb
  congr 1
  apply propext
  split <;> split <;> omega
theorem eq_signed {a b : Int} (ha : U64 a) (hb : U64 b) : (bxor .u64 a 9223372036854775808 == bxor .u64 b 9223372036854775808) = (a == b) := by
  rw [bxor_high ha, bxor_high hb]
  obtain ⟨h1, h2⟩ := ha
  obtain ⟨h3, h4⟩ := hb
  rw [Bool.eq_iff_iff, beq_iff_eq, beq_iff_eq]
  split <;> split <;> omega

def lev (s : Bytes) : Nat :=
  if s = [124, 124] then 1 else if s = [38, 38] then 2 else if s = [124] then 3 else if s = [94] then 4 else if s = [38] then 5
  else if s = [61, 61] ∨ s = [33, 61] then 6 else if s = [60] ∨ s = [62] ∨ s = [60, 61] ∨ s = [62, 61] then 7 else if s = [60, 60] ∨ s = [62, 62] then 8
  else if s = [43] ∨ s = [45] then 9 else if s = [42] ∨ s = [47] ∨ s = [37] then 10 else 0
def opsL : List Bytes := [[124, 124], [38, 38], [124], [94], [38], [61, 61], [33, 61], [60], [62], [60, 61], [62, 61], [60, 60], [62, 62], [43], [45], [42], [47], [37]]
theorem lev_le (s : Bytes) : lev s ≤ 10 := by
  unfold lev
  repeat' split
  all_goals omega
theorem lev_mem (s : Bytes) : lev s ≠ 0 → s ∈ opsL := by
  intro h
  apply Decidable.byContradiction
  intro hn
  simp only [opsL, List.mem_cons, List.not_mem_nil, or_false, not_or] at hn
  obtain ⟨h1, h2, h3, h4, h5, h6, h7, h8, h9, h10, h11, h12, h13, h14, h15, h16, h17, h18⟩ := hn
  exact h (by simp [lev, *])
theorem G_levelOf (s : Bytes) : G_cond_levelOf s = some (lev s : Int) := by
  by_cases h : s ∈ opsL
  · have k : ∀ s ∈ opsL, G_cond_levelOf s = some (lev s : Int) := by decide +kernel
    exact k s h
  · simp only [opsL, List.mem_cons, List.not_mem_nil, or_false, not_or] at h
    obtain ⟨h1, h2, h3, h4, h5, h6, h7, h8, h9, h10, h11, h12, h13, h14, h15, h16, h17, h18⟩ := h
    simp [lev, G_cond_levelOf, *]
theorem G_truth (b : Bool) : G_cond_truth b = some ⟨if b then 1 else 0, false⟩ := by cases b <;> rfl
theorem G_ref_truth (b : Bool) : G_burinref05_truth b = some ⟨if b then 1 else 0, false⟩ := by cases b <;> rfl
theorem G_fails (l : List T_api_Tok) (b c : Bool) : G_cond_eval_fails ⟨l, b⟩ c = some ⟨l, b || c⟩ := by cases b <;> rfl
theorem u64_if (b : Bool) : U64 (if b then 1 else 0) := by cases b <;> constructor <;> decide

section
variable {l L : List T_api_Tok} {j : Int} {b c : Bool} {va vb : Int} {ua ub : Bool}
def Bin (op : Bytes) (l L : List T_api_Tok) (j : Int) (b c : Bool) (va vb : Int) (ua ub : Bool) : Prop :=
  ∃ v u b', G_cond_eval_binary ⟨l, b⟩ op ⟨va, ua⟩ ⟨vb, ub⟩ c = some (⟨v, u⟩, ⟨l, b'⟩) ∧ G_burinref05_parser_apply ⟨L, j, !b⟩ op ⟨va, ua⟩ ⟨vb, ub⟩ c = some (⟨v, u⟩, ⟨L, j, !b'⟩) ∧ U64 v

theorem if_u : (if ua = true then some (true, true) else some (ub, false)) = some ((ua || ub), ua) := by cases ua <;> rfl
theorem i64_m1 (h : U64 vb) : ((IntKind.wrap .i64 vb) == (-1 : Int)) = (vb == 18446744073709551615) := by
  obtain ⟨h1, h2⟩ := h
  rw [wi_mod, Bool.eq_iff_iff, beq_iff_eq, beq_iff_eq]; omega
theorem i64_ne (h : U64 vb) (h0 : vb ≠ 0) : IntKind.wrap .i64 vb ≠ 0 := by
  obtain ⟨h1, h2⟩ := h
  rw [wi_mod]; omega
theorem bin_div (hb : U64 vb) (ha : U64 va) : Bin [47] l L j b c va vb ua ub := by
  unfold Bin
  simp only [G_cond_eval_binary, G_burinref05_parser_apply, G_cond_eval_divided, G_burinref05_parser_divide, if_u, bind_some', i64_m1 hb]
  by_cases h0 : vb = 0
  · subst h0
    cases ua <;> cases ub <;> cases b <;> cases c <;> exact ⟨_, _, _, rfl, rfl, u64_0⟩
  · have e0 : (vb == (0 : Int)) = false := by simpa using h0
    have e1 := i64_ne hb h0
    have r1 : rem va vb = some (va.tmod vb) := by simp [rem, h0]
    have q1 : quo .u64 va vb = some (IntKind.wrap .u64 (va.tdiv vb)) := by simp [quo, h0]
    have r2 : rem (IntKind.wrap .i64 va) (IntKind.wrap .i64 vb) = some ((IntKind.wrap .i64 va).tmod (IntKind.wrap .i64 vb)) := by simp [rem, e1]
    have q2 : quo .i64 (IntKind.wrap .i64 va) (IntKind.wrap .i64 vb) = some (IntKind.wrap .i64 ((IntKind.wrap .i64 va).tdiv (IntKind.wrap .i64 vb))) := by simp [quo, e1]
    simp only [e0, r1, q1, r2, q2, bind_some']
    cases hu : (ua || ub) with
    | true =>
      cases ua <;> cases ub <;> first | exact absurd hu (by decide) | exact ⟨_, _, _, rfl, rfl, u64_wrap _⟩
    | false =>
      have h1 : ua = false := by cases ua <;> simp_all
      have h2 : ub = false := by cases ub <;> simp_all
      subst h1; subst h2
      cases vb == 18446744073709551615 with
      | true => exact ⟨_, _, _, rfl, rfl, u64_wrap _⟩
      | false => exact ⟨_, _, _, rfl, rfl, u64_wrap _⟩
theorem u64_tmod (ha : U64 va) (hb : U64 vb) (h0 : vb ≠ 0) : U64 (va.tmod vb) := by
  obtain ⟨h1, h2⟩ := ha
  obtain ⟨h3, h4⟩ := hb
  have e := Int.tmod_nonneg vb h1
  have e2 := Int.tmod_lt_of_pos va (show 0 < vb by omega)
  exact ⟨e, by omega⟩
theorem bin_mod (hb : U64 vb) (ha : U64 va) : Bin [37] l L j b c va vb ua ub := by
  unfold Bin
  simp only [G_cond_eval_binary, G_burinref05_parser_apply, G_cond_eval_divided, G_burinref05_parser_divide, if_u, bind_some', i64_m1 hb]
  by_cases h0 : vb = 0
  · subst h0
    cases ua <;> cases ub <;> cases b <;> cases c <;> exact ⟨_, _, _, rfl, rfl, u64_0⟩
  · have e0 : (vb == (0 : Int)) = false := by simpa using h0
    have e1 := i64_ne hb h0
    have r1 : rem va vb = some (va.tmod vb) := by simp [rem, h0]
    have q1 : quo .u64 va vb = some (IntKind.wrap .u64 (va.tdiv vb)) := by simp [quo, h0]
    have r2 : rem (IntKind.wrap .i64 va) (IntKind.wrap .i64 vb) = some ((IntKind.wrap .i64 va).tmod (IntKind.wrap .i64 vb)) := by simp [rem, e1]
    have q2 : quo .i64 (IntKind.wrap .i64 va) (IntKind.wrap .i64 vb) = some (IntKind.wrap .i64 ((IntKind.wrap .i64 va).tdiv (IntKind.wrap .i64 vb))) := by simp [quo, e1]
    simp only [e0, r1, q1, r2, q2, bind_some']
    cases hu : (ua || ub) with
    | true => cases ua <;> cases ub <;> first | exact absurd hu (by decide) | exact ⟨_, _, _, rfl, rfl, u64_tmod ha hb h0⟩
    | false =>
      have h1 : ua = false := by cases ua <;> simp_all
      have h2 : ub = false := by cases ub <;> simp_all
      subst h1; subst h2
      cases vb == 18446744073709551615 with
      | true => exact ⟨_, _, _, rfl, rfl, u64_0⟩
      | false => exact ⟨_, _, _, rfl, rfl, u64_wrap _⟩
theorem bin_plain (op : Bytes) (h : op ∈ ([[42], [43], [45], [38], [94], [124]] : List Bytes)) : Bin op l L j b c va vb ua ub := by
  unfold Bin
  simp only [List.mem_cons, List.not_mem_nil, or_false] at h
  rcases h with rfl | rfl | rfl | rfl | rfl | rfl <;> cases ua <;> cases ub <;> exact ⟨_, _, _, rfl, rfl, u64_wrap _⟩
theorem u64_shr (ha : U64 va) (hb : 0 ≤ vb) : ∃ x, shr .u64 va vb = some x ∧ U64 x := by
  obtain ⟨h1, h2⟩ := ha
  refine ⟨_, by unfold shr; rw [if_neg (by omega)], ?_⟩
  have hp : (0 : Int) < 2 ^ (min vb.toNat (IntKind.bits .u64)) := Int.pow_pos (by omega)
  generalize (2 : Int) ^ (min vb.toNat (IntKind.bits .u64)) = p at hp
  constructor
  · exact Int.fdiv_nonneg h1 (by omega)
  · have := Int.fdiv_eq_ediv_of_nonneg va (show 0 ≤ p by omega)
    rw [this]
    have : va / p ≤ va := Int.ediv_le_self _ h1
    omega
theorem bin_shl (hb : U64 vb) : Bin [60, 60] l L j b c va vb ua ub := by
  unfold Bin
  simp only [G_cond_eval_binary, G_burinref05_parser_apply, G_cond_eval_shifted, G_burinref05_parser_shift, if_u, bind_some']
  obtain ⟨h1, h2⟩ := hb
  by_cases h : vb < 64
  · have e1 : decide ((63 : Int) < vb) = false := by simp; omega
    have e2 : decide ((64 : Int) ≤ vb) = false := by simp; omega
    have e3 : shl .u64 va vb = some (IntKind.wrap .u64 (va * 2 ^ (min vb.toNat (IntKind.bits .u64)))) := by unfold shl; rw [if_neg (by omega)]
    simp only [e1, e2, e3]
    cases ua <;> cases ub <;> exact ⟨_, _, _, rfl, rfl, u64_wrap _⟩
  · have e1 : decide ((63 : Int) < vb) = true := by simp; omega
    have e2 : decide ((64 : Int) ≤ vb) = true := by simp; omega
    simp only [e1, e2]
    cases ua <;> cases ub <;> cases b <;> cases c <;> exact ⟨_, _, _, rfl, rfl, u64_0⟩
theorem bin_shr (hb : U64 vb) (ha : U64 va) : Bin [62, 62] l L j b c va vb ua ub := by
  unfold Bin
  simp only [G_cond_eval_binary, G_burinref05_parser_apply, G_cond_eval_shifted, G_burinref05_parser_shift, if_u, bind_some']
  obtain ⟨h1, h2⟩ := hb
  by_cases h : vb < 64
  · have e1 : decide ((63 : Int) < vb) = false := by simp; omega
    have e2 : decide ((64 : Int) ≤ vb) = false := by simp; omega
    obtain ⟨x, e3, e4⟩ := u64_shr ha h1
    have e5 : shr .i64 (IntKind.wrap .i64 va) vb = some ((IntKind.wrap .i64 va).fdiv (2 ^ (min vb.toNat (IntKind.bits .i64)))) := by unfold shr; rw [if_neg (by omega)]
    simp only [e1, e2, e3, e5]
    cases ua with
    | true => exact ⟨_, _, _, rfl, rfl, e4⟩
    | false => cases ub <;> exact ⟨_, _, _, rfl, rfl, u64_wrap _⟩
  · have e1 : decide ((63 : Int) < vb) = true := by simp; omega
    have e2 : decide ((64 : Int) ≤ vb) = true := by simp; omega
    simp only [e1, e2]
    cases ua <;> cases ub <;> cases b <;> cases c <;> exact ⟨_, _, _, rfl, rfl, u64_0⟩

def cmpS (op : Bytes) (lt eq : Bool) : Bool :=
  if op = [60] then lt else if op = [62] then !lt && !eq else if op = [60, 61] then lt || eq else if op = [62, 61] then !lt else if op = [61, 61] then eq else !eq
def cmpL : List Bytes := [[61, 61], [33, 61], [60], [62], [60, 61], [62, 61]]
theorem cmp_prog (op : Bytes) (h : op ∈ cmpL) (x y : Int) (xy : (if (!ua) = true then if (!ub) = true then some ((bxor .u64 va (9223372036854775808 : Int)), (bxor .u64 vb (9223372036854775808 : Int))) else some (va, vb) else some (va, vb)) = some (x, y)) :
    G_cond_compared op ⟨va, ua⟩ ⟨vb, ub⟩ = some ⟨if cmpS op (decide (x < y)) (x == y) then 1 else 0, false⟩ := by
  have tri : (decide (x < y) = true ∧ (x == y) = false ∧ decide (y < x) = false) ∨ (decide (x < y) = false ∧ (x == y) = true ∧ decide (y < x) = false) ∨ (decide (x < y) = false ∧ (x == y) = false ∧ decide (y < x) = true) := by
    rcases Int.lt_trichotomy x y with h | h | h
    · left; simp; omega
    · right; left; simp; omega
    · right; right; simp; omega
  simp only [cmpL, List.mem_cons, List.not_mem_nil, or_false] at h
  rcases h with rfl | rfl | rfl | rfl | rfl | rfl <;> rcases tri with ⟨t1, t2, t3⟩ | ⟨t1, t2, t3⟩ | ⟨t1, t2, t3⟩ <;>
    (simp only [G_cond_compared, xy, bind_some', t1, t2, t3, G_truth, idx_0]; rfl)
theorem cmp_ref (op : Bytes) (h : op ∈ cmpL) (lt : Bool) (hlt : (if (!ua) = true then if (!ub) = true then some (decide ((IntKind.wrap .i64 va) < (IntKind.wrap .i64 vb))) else some (decide (va < vb)) else some (decide (va < vb))) = some lt) :
    G_burinref05_compare op ⟨va, ua⟩ ⟨vb, ub⟩ = some ⟨if cmpS op lt (va == vb) then 1 else 0, false⟩ := by
  simp only [cmpL, List.mem_cons, List.not_mem_nil, or_false] at h
  rcases h with rfl | rfl | rfl | rfl | rfl | rfl <;> cases lt <;> cases he : (va == vb) <;> (simp only [G_burinref05_compare, hlt, bind_some', he, G_ref_truth]; rfl)
theorem cmp_both (op : Bytes) (h : op ∈ cmpL) (ha : U64 va) (hb : U64 vb) : ∃ r : Bool, G_cond_compared op ⟨va, ua⟩ ⟨vb, ub⟩ = some ⟨if r then 1 else 0, false⟩ ∧ G_burinref05_compare op ⟨va, ua⟩ ⟨vb, ub⟩ = some ⟨if r then 1 else 0, false⟩ := by
  by_cases hu : ua = false ∧ ub = false
  · obtain ⟨rfl, rfl⟩ := hu
    exact ⟨_, cmp_prog op h _ _ rfl, by rw [cmp_ref op h _ rfl, lt_signed ha hb, eq_signed ha hb]⟩
  · refine ⟨_, cmp_prog op h va vb ?_, cmp_ref op h _ ?_⟩
    · cases ua <;> cases ub <;> first | rfl | exact absurd ⟨rfl, rfl⟩ hu
    · cases ua <;> cases ub <;> first | rfl | exact absurd ⟨rfl, rfl⟩ hu
theorem bin_cmp (op : Bytes) (h : op ∈ cmpL) (ha : U64 va) (hb : U64 vb) : Bin op l L j b c va vb ua ub := by
  obtain ⟨r, h1, h2⟩ := cmp_both (ua := ua) (ub := ub) op h ha hb
  have h1' : ∀ u', u' = ua → G_cond_compared op ⟨va, u'⟩ ⟨vb, ub⟩ = some ⟨if r then 1 else 0, false⟩ := by rintro _ rfl; exact h1
  unfold Bin
  simp only [cmpL, List.mem_cons, List.not_mem_nil, or_false] at h
  rcases h with rfl | rfl | rfl | rfl | rfl | rfl <;>
    (refine ⟨if r then 1 else 0, false, b, ?_, ?_, u64_if r⟩
     · simp only [G_cond_eval_binary, if_u, bind_some']
       rw [show G_cond_compared _ _ _ = _ from h1]
       rfl
     · simp only [G_burinref05_parser_apply, if_u, bind_some']
       rw [show G_burinref05_compare _ _ _ = _ from h2]
       rfl)
theorem bin_all (op : Bytes) (h : op ∈ opsL) (h1 : op ≠ [124, 124]) (h2 : op ≠ [38, 38]) (ha : U64 va) (hb : U64 vb) : Bin op l L j b c va vb ua ub := by
  simp only [opsL, List.mem_cons, List.not_mem_nil, or_false] at h
  rcases h with rfl | rfl | rfl | rfl | rfl | rfl | rfl | rfl | rfl | rfl | rfl | rfl | rfl | rfl | rfl | rfl | rfl | rfl
  · exact absurd rfl h1
  · exact absurd rfl h2
  · exact bin_plain _ (by decide)
  · exact bin_plain _ (by decide)
  · exact bin_plain _ (by decide)
  · exact bin_cmp _ (by decide) ha hb
  · exact bin_cmp _ (by decide) ha hb
  · exact bin_cmp _ (by decide) ha hb
  · exact bin_cmp _ (by decide) ha hb
  · exact bin_cmp _ (by decide) ha hb
  · exact bin_cmp _ (by decide) ha hb
  · exact bin_shl hb
  · exact bin_shr hb ha
  · exact bin_plain _ (by decide)
  · exact bin_plain _ (by decide)
  · exact bin_plain _ (by decide)
  · exact bin_div hb ha
  · exact bin_mod hb ha
end
end Go.Proofs.YtmngkcpobmhnoaaGreatDoor.Sim.Pl
/- Plain laws: what conditions say: the program's reading and the document's go side by side. -/
namespace Go.Proofs.YtmngkcpobmhnoaaGreatDoor.Sim.Pl
open Go.Proofs

def sgn (L : List T_api_Tok) (j : Nat) (b : Bool) : Bytes := if b then [] else match L[j]? with | none => [] | some t => if t.Kind_ = 5 then t.S_ else []
theorem idx_drop {L : List T_api_Tok} {j : Nat} : idx (L.drop j) 0 = L[j]? := by simp [idx]
theorem G_sign (L : List T_api_Tok) (j : Nat) (b : Bool) : G_cond_eval_sign ⟨L.drop j, b⟩ = some (sgn L j b, ⟨L.drop j, b⟩) := by
  cases b with
  | true => rfl
  | false =>
    unfold G_cond_eval_sign sgn
    by_cases h : j < L.length
    · have e : ((((L.drop j).length : Nat) : Int) == 0) = false := by simp; omega
      have e2 := List.getElem?_eq_getElem h
      simp only [e, idx_drop, e2, bind_some', Bool.false_eq_true, if_false]
      by_cases hk : (L[j]).Kind_ = 5
      · simp [hk]
      · simp [hk]
    · have e : L.drop j = [] := List.drop_eq_nil_of_le (by omega)
      have e2 : L[j]? = none := List.getElem?_eq_none (by omega)
      simp only [e, e2]
      rfl
theorem sgn_lt {L : List T_api_Tok} {j : Nat} {b : Bool} {s : Bytes} (h : sgn L j b = s) (hs : s ≠ []) : j < L.length ∧ b = false ∧ ∃ t, L[j]? = some t ∧ t.Kind_ = 5 ∧ t.S_ = s := by
  unfold sgn at h
  cases b with
  | true => exact absurd h.symm hs
  | false =>
    simp only [Bool.false_eq_true, if_false] at h
    cases hj : L[j]? with
    | none => rw [hj] at h; exact absurd h.symm hs
    | some t =>
      rw [hj] at h
      refine ⟨(List.getElem?_eq_some_iff.1 hj).1, rfl, t, rfl, ?_⟩
      simp only [] at h
      split at h
      · exact ⟨‹_›, h⟩
      · exact absurd h.symm hs
theorem drop_1 {L : List T_api_Tok} {j : Nat} (h : j < L.length) : subF (L.drop j) 1 = some (L.drop (j + 1)) := by
  rw [List.drop_eq_getElem_cons h, subF_1]
def nx (j : Nat) (x : Bool) : Nat := if x then j + 1 else j
theorem G_take (L : List T_api_Tok) (j : Nat) (b : Bool) (s : Bytes) (hs : s ≠ []) : G_cond_eval_take ⟨L.drop j, b⟩ s = some (sgn L j b == s, ⟨L.drop (nx j (sgn L j b == s)), b⟩) := by
  rw [G_cond_eval_take, G_sign, bind_some']
  by_cases h : sgn L j b = s
  · obtain ⟨h1, h2, _⟩ := sgn_lt h hs
    have e : (sgn L j b == s) = true := by simpa using h
    simp only [e, if_true, drop_1 h1, bind_some']
    rfl
  · have e : (sgn L j b == s) = false := by simpa using h
    simp only [e, Bool.false_eq_true, if_false]
    rfl
def TokOK (L : List T_api_Tok) : Prop := L.length ≤ 16777216 ∧ ∀ t ∈ L, t.S_.length ≤ 16777216

theorem nx_le {L : List T_api_Tok} {j : Nat} {b : Bool} {s : Bytes} (hs : s ≠ []) (hj : j ≤ L.length) : j ≤ nx j (sgn L j b == s) ∧ nx j (sgn L j b == s) ≤ L.length := by
  by_cases h : sgn L j b = s
  · have := (sgn_lt h hs).1
    have e : (sgn L j b == s) = true := by simpa using h
    rw [e]; simp [nx]; omega
  · have e : (sgn L j b == s) = false := by simpa using h
    rw [e]; simp [nx]; omega

theorem numS_le {s : Bytes} (hs : s.length ≤ 16777216) {v : Nat} {u : Bool} (h : numS s = some (v, u)) : v ≤ 18446744073709551615 := by
  unfold numS at h
  split at h
  · cases h
  · split at h
    · cases h
    · rename_i w n hg
      have := (numGo_le (by omega) hg).1
      split at h
      · cases h
      · split at h
        · cases h
        · cases h; exact this
end Go.Proofs.YtmngkcpobmhnoaaGreatDoor.Sim.Pl
/- Plain laws: what conditions say: chains of operators, and the whole. -/
namespace Go.Proofs.YtmngkcpobmhnoaaGreatDoor.Sim.Pl
open Go.Proofs

end Go.Proofs.YtmngkcpobmhnoaaGreatDoor.Sim.Pl
