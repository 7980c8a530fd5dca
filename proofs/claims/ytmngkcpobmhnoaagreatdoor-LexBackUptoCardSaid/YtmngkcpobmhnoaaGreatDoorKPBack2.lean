/- Plain laws: what is shown, lexed, comes to the same words. -/
import Derived.Test.YtmngkcpobmhnoaaGreatDoorKPBack
import Derived.Test.YtmngkcpobmhnoaaGreatDoorKPLex4
set_option linter.all false
namespace Go.Proofs.YtmngkcpobmhnoaaGreatDoor.Sim.Pl
open Go.Proofs

theorem digit_of (d : Nat) (h : d < 10) : digB (UInt8.ofNat (48 + d)) = true ∧ hexv (UInt8.ofNat (48 + d)) = d ∧ (d ≠ 0 → UInt8.ofNat (48 + d) ≠ 48) := by
 have : ∀ d : Fin 10, digB (UInt8.ofNat (48 + d.val)) = true ∧ hexv (UInt8.ofNat (48 + d.val)) = d.val ∧ (d.val ≠ 0 → UInt8.ofNat (48 + d.val) ≠ 48) := by decide +kernel
 exact this ⟨d, h⟩
theorem dec_digits (u : Nat) : (Lib.decDigits u).all digB = true := by
 induction u using Nat.strongRecOn with
 | _ u ih =>
  by_cases h : u < 10
  ·rw [Lib.decDigits, dif_pos h, List.all_cons, (digit_of u h).1]; rfl
  ·rw [Lib.decDigits, dif_neg h, List.all_append, ih (u / 10) (by omega), List.all_cons, (digit_of (u % 10) (by omega)).1]; rfl
theorem dec_head (u : Nat) : ∃ c r, Lib.decDigits u = c :: r ∧ (0 < u → c ≠ 48) := by
 induction u using Nat.strongRecOn with
 | _ u ih =>
  by_cases h : u < 10
  ·rw [Lib.decDigits, dif_pos h]
   exact ⟨_, _, rfl, fun h0 => (digit_of u h).2.2 (by omega)⟩
  ·rw [Lib.decDigits, dif_neg h]
   obtain ⟨c, r, e, hc⟩ := ih (u / 10) (by omega)
   rw [e]
   exact ⟨c, _, rfl, fun _ => hc (by omega)⟩
theorem dig_word (c : UInt8) : digB c = true → wordB c = true ∧ isDig 10 c = true := by
 revert c; refine all8 ?_; decide +kernel
theorem all_word {s : Bytes} (h : s.all digB = true) : s.all wordB = true := by
 rw [List.all_eq_true] at h ⊢
 exact fun c hc => (dig_word c (h c hc)).1
theorem suf_word (t : Int) : (sufW t).all wordB = true := by
 unfold sufW
 split
 ·decide
 ·split
  ·decide
  ·split <;> decide
theorem val_app (b v : Nat) (D : Bytes) (d : UInt8) : val b v (D ++ [d]) = val b v D * b + hexv d := by
 induction D generalizing v with
 | nil => rfl
 | cons c r ih => rw [List.cons_append, val, val, ih]
theorem val_dec (u : Nat) : val 10 0 (Lib.decDigits u) = u := by
 induction u using Nat.strongRecOn with
 | _ u ih =>
  by_cases h : u < 10
  ·rw [Lib.decDigits, dif_pos h]
   show 0 * 10 + hexv (UInt8.ofNat (48 + u)) = u
   rw [(digit_of u h).2.1]; omega
  ·rw [Lib.decDigits, dif_neg h, val_app, ih (u / 10) (by omega), (digit_of (u % 10) (by omega)).2.1]; omega
theorem suf_gap (t : Int) (b : Nat) (hb : b ≤ 10) : (sufW t).takeWhile (isDig b) = [] := by
 have h117 : isDig b 117 = false := by
  have : hexv 117 = 16 := by decide
  simp [isDig, this]; omega
 have h108 : isDig b 108 = false := by
  have : hexv 108 = 16 := by decide
  simp [isDig, this]; omega
 unfold sufW
 split
 ·rw [List.takeWhile_cons, if_neg (by simp [h117])]
 ·split
  ·rw [List.takeWhile_cons, if_neg (by simp [h108])]
  ·split
   ·rw [List.takeWhile_cons, if_neg (by simp [h117])]
   ·rfl
theorem suf_ok (t : Int) : sufS (sufW t) = some (decide (t = 6 ∨ t = 8)) := by
 unfold sufW
 by_cases h6 : t = 6
 ·rw [if_pos h6, h6]; decide
 ·rw [if_neg h6]
  by_cases h7 : t = 7
  ·rw [if_pos h7, h7]; decide
  ·rw [if_neg h7]
   by_cases h8 : t = 8
   ·rw [if_pos h8, h8]; decide
   ·rw [if_neg h8, decide_eq_false (by rintro (h | h); exact h6 h; exact h8 h)]; decide
theorem num_dec (u : Nat) (hu : u < 18446744073709551616) (t : Int) : ∃ b, numS (Lib.decDigits u ++ sufW t) = some (u, b) := by
 obtain ⟨c, r, e, hc⟩ := dec_head u
 have hne : Lib.decDigits u ++ sufW t ≠ [] := by rw [e]; simp
 have key : ∀ b : Nat, (b = 8 ∧ u = 0 ∨ b = 10) → baseS (Lib.decDigits u ++ sufW t) = (b, Lib.decDigits u ++ sufW t) → ∃ x, numS (Lib.decDigits u ++ sufW t) = some (u, x) := by
  intro b hb hbase
  have htw : (Lib.decDigits u ++ sufW t).takeWhile (isDig b) = Lib.decDigits u := by
   have hall : (Lib.decDigits u).all (isDig b) = true := by
    rcases hb with ⟨rfl, rfl⟩ | rfl
    ·have : Lib.decDigits 0 = [48] := by rw [Lib.decDigits, dif_pos (by decide)]; rfl
     rw [this]; decide
    ·have h := dec_digits u
     rw [List.all_eq_true] at h ⊢
     exact fun c hc => (dig_word c (h c hc)).2
   have h1 := tw_app (isDig b) (Lib.decDigits u) (sufW t) hall (suf_gap t b (by rcases hb with ⟨rfl, _⟩ | rfl <;> decide))
   have h2 := take_take_while (isDig b) (Lib.decDigits u ++ sufW t)
   rw [h1, List.take_left'] at h2
   ·exact h2.symm
   ·rfl
  have hval : val b 0 (Lib.decDigits u) = u := by
   rcases hb with ⟨rfl, rfl⟩ | rfl
   ·have : Lib.decDigits 0 = [48] := by rw [Lib.decDigits, dif_pos (by decide)]; rfl
    rw [this]; decide
   ·exact val_dec u
  have hgo : numGo b 0 (Lib.decDigits u ++ sufW t) = some (u, (Lib.decDigits u).length) := by
   rw [numGo_pu, htw, pu_val b _ 0 (by rcases hb with ⟨rfl, _⟩ | rfl <;> decide) (by omega), hval, if_pos (by omega)]; rfl
  have hl : (Lib.decDigits u).length ≠ 0 := by rw [e]; simp
  unfold numS
  rw [if_neg hne, hbase]
  simp only [hgo, if_neg hl, List.drop_left', suf_ok]
  exact ⟨_, rfl⟩
 by_cases h0 : u = 0
 ·subst h0
  have h48 : Lib.decDigits 0 = [48] := by rw [Lib.decDigits, dif_pos (by decide)]; rfl
  refine key 8 (.inl ⟨rfl, rfl⟩) ?_
  rw [h48]
  unfold sufW
  split
  ·rfl
  ·split
   ·rfl
   ·split <;> rfl
 ·refine key 10 (.inr rfl) ?_
  rw [e, List.cons_append]
  have hc := hc (by omega)
  unfold baseS
  split
  ·rename_i h; exact absurd (List.cons.inj h).1 hc
  ·rename_i h; exact absurd (List.cons.inj h).1 hc
  ·rename_i h; exact absurd (List.cons.inj h).1 hc
  ·rfl
theorem has_dec (u : Nat) (t : Int) (a b : UInt8) (hab : digB a = false ∧ digB b = false) : hasB (Lib.decDigits u ++ sufW t) a b = hasB (sufW t) a b := by
 unfold hasB
 rw [List.any_append]
 have : (Lib.decDigits u).any (fun c => c == a || c == b) = false := by
  rw [List.any_eq_false]
  intro c hc h
  have hd := List.all_eq_true.1 (dec_digits u) c hc
  simp only [Bool.or_eq_true, beq_iff_eq] at h
  rcases h with rfl | rfl
  ·rw [hab.1] at hd; cases hd
  ·rw [hab.2] at hd; cases hd
 rw [this, Bool.false_or]
theorem wrap_u64c (v : Int) (h1 : -9223372036854775808 ≤ v) (h2 : v ≤ 9223372036854775807) : IntKind.wrap .i64 (u64c v : Int) = v := by
 unfold u64c
 have e : IntKind.wrap .i64 (((v % 18446744073709551616).toNat : Nat) : Int) = ((((v % 18446744073709551616).toNat : Nat) : Int) + 9223372036854775808) % 18446744073709551616 - 9223372036854775808 := by
  simp only [IntKind.wrap, IntKind.bits, IntKind.signed]
  simp
  split <;> omega
 rw [e]; omega
theorem num_back {w : T_api_Word} (hl : liesS w.V_ w.T_ = true) (hV1 : -9223372036854775808 ≤ w.V_) (hV2 : w.V_ ≤ 9223372036854775807) (hc : ¬ (w.T_ = 5 ∧ w.V_ < 0)) :
  numW (Lib.decDigits (u64c w.V_) ++ sufW w.T_) = (w.V_, w.T_) := by
 obtain ⟨b, hb⟩ := num_dec (u64c w.V_) (u64c_lt w.V_) w.T_
 have hT := lies_T hl
 have hwr := wrap_u64c w.V_ hV1 hV2
 have hu : hasB (Lib.decDigits (u64c w.V_) ++ sufW w.T_) 117 85 = hasB (sufW w.T_) 117 85 := has_dec _ _ _ _ (by decide)
 have hll : hasB (Lib.decDigits (u64c w.V_) ++ sufW w.T_) 108 76 = hasB (sufW w.T_) 108 76 := has_dec _ _ _ _ (by decide)
 have hk : kindS (Lib.decDigits (u64c w.V_) ++ sufW w.T_) (u64c w.V_) = w.T_ := by
  unfold kindS
  rw [hu, hll]
  have huc : 0 ≤ w.V_ → ((u64c w.V_ : Nat) : Int) = w.V_ := fun h => by unfold u64c; omega
  generalize ((Lib.decDigits (u64c w.V_) ++ sufW w.T_).head? == some 48) = z
  rcases hT with hT | hT | hT | hT
  ·rw [hT] at hl hc ⊢
   have h0 : 0 ≤ w.V_ := by
    rcases Int.lt_or_le w.V_ 0 with h | h
    ·exact absurd ⟨rfl, h⟩ hc
    ·exact h
   have h31 : w.V_ < 2147483648 := by
    unfold liesS at hl; simp at hl; exact hl.2
   rw [huc h0]
   have d1 : decide (w.V_ < 2147483648) = true := by simp only [decide_eq_true_eq]; exact h31
   have s1 : hasB (sufW 5) 117 85 = false := by decide
   have s2 : hasB (sufW 5) 108 76 = false := by decide
   rw [s1, s2, d1]; rfl
  ·rw [hT] at hl ⊢
   have h2 : 0 ≤ w.V_ ∧ w.V_ < 4294967296 := by
    unfold liesS at hl; simp at hl; exact hl
   rw [huc h2.1]
   have d2 : decide (w.V_ < 4294967296) = true := by simp only [decide_eq_true_eq]; exact h2.2
   have s1 : hasB (sufW 6) 117 85 = true := by decide
   have s2 : hasB (sufW 6) 108 76 = false := by decide
   rw [s1, s2, d2]; rfl
  ·rw [hT] at hl ⊢
   have h2 : 0 ≤ w.V_ := by
    unfold liesS at hl; simp at hl; exact hl
   rw [huc h2]
   have d3 : decide (w.V_ < 9223372036854775808) = true := by simp only [decide_eq_true_eq]; omega
   have s1 : hasB (sufW 7) 117 85 = false := by decide
   have s2 : hasB (sufW 7) 108 76 = true := by decide
   rw [s1, s2, d3]
   generalize decide (w.V_ < 2147483648) = y1
   generalize decide (w.V_ < 4294967296) = y2
   cases z <;> cases y1 <;> cases y2 <;> rfl
  ·rw [hT]
   have s1 : hasB (sufW 8) 117 85 = true := by decide
   have s2 : hasB (sufW 8) 108 76 = true := by decide
   rw [s1, s2]
   unfold kindB
   simp
 unfold numW
 rw [hb]
 simp only [hk]
 have h0 : w.T_ ≠ 0 := by omega
 rw [if_neg h0, hwr]
end Go.Proofs.YtmngkcpobmhnoaaGreatDoor.Sim.Pl
