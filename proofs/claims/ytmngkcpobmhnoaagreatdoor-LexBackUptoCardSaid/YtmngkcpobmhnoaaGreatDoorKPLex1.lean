/- Plain laws: a text's bytes. -/
import Derived.Test.YtmngkcpobmhnoaaGreatDoorKPTok4
import Derived.Test.YtmngkcpobmhnoaaGreatDoorKPEsc
set_option linter.all false
namespace Go.Proofs.YtmngkcpobmhnoaaGreatDoor.Sim.Pl
open Go.Proofs

theorem cat_big {s u : Bytes} (h : s.length + u.length ≤ 9223372036854775807) : cat s u = some (s ++ u) := by simp [cat, h]
theorem digs8c (c : UInt8) : ([48, 49, 50, 51, 52, 53, 54, 55] : List UInt8).contains c = isDig 8 c := digs8 c
theorem digs16c (c : UInt8) : ([48, 49, 50, 51, 52, 53, 54, 55, 56, 57, 97, 98, 99, 100, 101, 102, 65, 66, 67, 68, 69, 70] : List UInt8).contains c = isDig 16 c := digs16 c
theorem q120 (c : UInt8) : ((c.toNat : Int) == 120) = (c == 120) := eqb (k := 120) (by decide)

theorem bo_oct (c : UInt8) (r' : Bytes) (hd : isDig 8 c = true) (hs : (92 :: c :: r').length ≤ 16777216) : ∀ j, j ≤ (92 :: c :: r').length → 2 ≤ j → j ≤ 4 →
  loopO (G_lex_bytesOf_L2 (92 :: c :: r')) (j : Int) = some (((j + ((((92 :: c :: r').drop j).take (4 - j)).takeWhile (isDig 8)).length : Nat) : Int)) := by
 have hx : (c == 120) = false := by
  rw [Bool.eq_false_iff]; intro h; rw [eq_of_beq h] at hd; exact absurd hd (by decide)
 have e92 : ((92 : UInt8) == 92) = true := rfl
 refine rest_ind (P := fun j r => 2 ≤ j → j ≤ 4 → loopO (G_lex_bytesOf_L2 (92 :: c :: r')) (j : Int) = some (((j + ((r.take (4 - j)).takeWhile (isDig 8)).length : Nat) : Int))) ?_ ?_
 ·intro h2 h4
  have hlt : decide ((((92 :: c :: r').length : Nat) : Int) < (((92 :: c :: r').length : Nat) : Int)) = false := by simp
  rw [loopO_inr (x := (((92 :: c :: r').length : Nat) : Int))]
  ·simp; omega
  ·simp only [G_lex_bytesOf_L2, idx_0, bind_some', q92, e92, if_true, hlt]; rfl
 ·intro j d r hj hc e1 e2 ih h2 h4
  have hlt : decide (((j : Nat) : Int) < (((92 :: c :: r').length : Nat) : Int)) = true := by simp only [decide_eq_true_eq]; omega
  have hl2 : decide (((j : Nat) : Int) < 2) = false := by simp only [decide_eq_false_iff_not]; omega
  have hc1 : idx (92 :: c :: r') (j : Int) = some d := by rw [idx_nat, hc]
  have hw : IntKind.wrap .i64 ((j : Int) + 1) = ((j + 1 : Nat) : Int) := by rw [wi (by omega) (by omega)]; rfl
  by_cases hj4 : j < 4
  ·have hl4 : decide (((j : Nat) : Int) < 4) = true := by simp only [decide_eq_true_eq]; omega
   have e4 : 4 - j = (4 - (j + 1)) + 1 := by omega
   cases hdd : isDig 8 d with
   | true =>
    rw [loopO_inl (s' := ((j + 1 : Nat) : Int)), ih (by omega) (by omega)]
    ·rw [e4, List.take_succ_cons, List.takeWhile_cons, if_pos hdd, List.length_cons]
     congr 2; omega
    ·simp only [G_lex_bytesOf_L2, idx_0, idx_1, bind_some', q92, e92, if_true, hlt, hl2, Bool.false_eq_true, if_false, toNat8, indexByte_nn', digs8c, hd, hl4, hc1, hdd, hw]
   | false =>
    rw [loopO_inr (x := ((j : Nat) : Int))]
    ·rw [e4, List.take_succ_cons, List.takeWhile_cons, if_neg (by simp [hdd])]; rfl
    ·simp only [G_lex_bytesOf_L2, idx_0, idx_1, bind_some', q92, e92, if_true, hlt, hl2, Bool.false_eq_true, if_false, toNat8, indexByte_nn', digs8c, hd, hl4, hc1, hdd, q120, hx]
  ·have hl4 : decide (((j : Nat) : Int) < 4) = false := by simp only [decide_eq_false_iff_not]; omega
   rw [loopO_inr (x := ((j : Nat) : Int))]
   ·rw [show 4 - j = 0 by omega]; simp
   ·simp only [G_lex_bytesOf_L2, idx_0, idx_1, bind_some', q92, e92, if_true, hlt, hl2, Bool.false_eq_true, if_false, toNat8, indexByte_nn', digs8c, hd, hl4, hc1, q120, hx]
theorem bo_hex (r' : Bytes) (hs : (92 :: 120 :: r').length ≤ 16777216) : ∀ j, j ≤ (92 :: 120 :: r').length → 2 ≤ j →
  loopO (G_lex_bytesOf_L2 (92 :: 120 :: r')) (j : Int) = some (((j + (((92 :: 120 :: r').drop j).takeWhile (isDig 16)).length : Nat) : Int)) := by
 have hd : isDig 8 120 = false := by decide
 have e92 : ((92 : UInt8) == 92) = true := rfl
 have e120 : ((120 : UInt8) == 120) = true := rfl
 refine rest_ind (P := fun j r => 2 ≤ j → loopO (G_lex_bytesOf_L2 (92 :: 120 :: r')) (j : Int) = some (((j + (r.takeWhile (isDig 16)).length : Nat) : Int))) ?_ ?_
 ·intro h2
  have hlt : decide ((((92 :: 120 :: r').length : Nat) : Int) < (((92 :: 120 :: r').length : Nat) : Int)) = false := by simp
  rw [loopO_inr (x := (((92 :: 120 :: r').length : Nat) : Int))]
  ·simp; omega
  ·simp only [G_lex_bytesOf_L2, idx_0, bind_some', q92, e92, if_true, hlt]; rfl
 ·intro j d r hj hc e1 e2 ih h2
  have hlt : decide (((j : Nat) : Int) < (((92 :: 120 :: r').length : Nat) : Int)) = true := by simp only [decide_eq_true_eq]; omega
  have hl2 : decide (((j : Nat) : Int) < 2) = false := by simp only [decide_eq_false_iff_not]; omega
  have hc1 : idx (92 :: 120 :: r') (j : Int) = some d := by rw [idx_nat, hc]
  have hw : IntKind.wrap .i64 ((j : Int) + 1) = ((j + 1 : Nat) : Int) := by rw [wi (by omega) (by omega)]; rfl
  cases hdd : isDig 16 d with
  | true =>
   rw [loopO_inl (s' := ((j + 1 : Nat) : Int)), ih (by omega)]
   ·rw [List.takeWhile_cons, if_pos hdd, List.length_cons]
    congr 2; omega
   ·simp only [G_lex_bytesOf_L2, idx_0, idx_1, bind_some', q92, e92, if_true, hlt, hl2, Bool.false_eq_true, if_false, toNat8, indexByte_nn', digs8c, digs16c, hd, hc1, hdd, hw, q120, e120]
  | false =>
   rw [loopO_inr (x := ((j : Nat) : Int))]
   ·rw [List.takeWhile_cons, if_neg (by simp [hdd])]; rfl
   ·simp only [G_lex_bytesOf_L2, idx_0, idx_1, bind_some', q92, e92, if_true, hlt, hl2, Bool.false_eq_true, if_false, toNat8, indexByte_nn', digs8c, digs16c, hd, hc1, hdd, q120, e120]
theorem bo_esc (r : Bytes) (hs : (92 :: r).length ≤ 16777216) : loopO (G_lex_bytesOf_L2 (92 :: r)) 1 = some (((1 + escLen r : Nat)) : Int) := by
 have e92 : ((92 : UInt8) == 92) = true := rfl
 cases r with
 | nil =>
  refine (loopO_inr (x := (1 : Int)) ?_)
  rfl
 | cons c r' =>
  have hlt : decide ((1 : Int) < (((92 :: c :: r').length : Nat) : Int)) = true := by simp only [List.length_cons, decide_eq_true_eq]; omega
  have h12 : decide ((1 : Int) < 2) = true := rfl
  have hw : IntKind.wrap .i64 ((1 : Int) + 1) = ((2 : Nat) : Int) := rfl
  have b1 : G_lex_bytesOf_L2 (92 :: c :: r') (1 : Int) = some (Sum.inl ((2 : Nat) : Int)) := by
   simp only [G_lex_bytesOf_L2, idx_0, bind_some', q92, e92, if_true, hlt, h12, hw]
  rw [loopO_inl b1]
  cases hd : isDig 8 c with
  | true =>
   rw [bo_oct c r' hd hs 2 (by simp) (Nat.le_refl _) (by omega)]
   simp only [escLen, hd, if_true]
   rw [show (92 :: c :: r').drop 2 = r' from rfl, List.take_succ_cons, List.takeWhile_cons, if_pos hd, List.length_cons, show (4 - 2 : Nat) = 2 from rfl]
   congr 2; omega
  | false =>
   by_cases hx : c = 120
   ·subst hx
    rw [bo_hex r' hs 2 (by simp) (Nat.le_refl _)]
    simp only [escLen, hd, Bool.false_eq_true, if_false, if_true]
    rw [show (92 :: 120 :: r').drop 2 = r' from rfl]
    congr 2; omega
   ·have hx' : (c == 120) = false := by simpa using hx
    have h22 : decide (((2 : Nat) : Int) < 2) = false := rfl
    rw [loopO_inr (x := ((2 : Nat) : Int))]
    ·simp [escLen, hd, hx]
    ·simp only [G_lex_bytesOf_L2, idx_0, idx_1, bind_some', q92, e92, if_true, h22, Bool.false_eq_true, if_false, toNat8, indexByte_nn', digs8c, hd, q120, hx']
     split <;> rfl
theorem bo_plain (c : UInt8) (r : Bytes) (hc : c ≠ 92) : loopO (G_lex_bytesOf_L2 (c :: r)) 1 = some 1 := by
 have e92 : (c == 92) = false := by simpa using hc
 refine loopO_inr (x := (1 : Int)) ?_
 simp only [G_lex_bytesOf_L2, idx_0, bind_some', q92, e92, Bool.false_eq_true, if_false]

theorem bo_loop : ∀ (k : Nat) (s acc : Bytes), s.length ≤ k → s.length ≤ 1048576 → acc.length + s.length ≤ 1048576 →
  match bytesS s with
  | none => ∃ v, loopO G_lex_bytesOf_L1 (s, acc) = some (Ex2.a v)
  | some l => loopO G_lex_bytesOf_L1 (s, acc) = some (Ex2.b (acc ++ l)) := by
 intro k
 induction k with
 | zero =>
  intro s acc h _ _
  have : s = [] := List.length_eq_zero_iff.1 (by omega)
  subst this
  rw [bytesS]
  simp only [List.append_nil]
  exact loopO_inr rfl
 | succ k ih =>
  intro s acc h hs ha
  cases s with
  | nil =>
   rw [bytesS]
   simp only [List.append_nil]
   exact loopO_inr rfl
  | cons c r =>
   have hne : (!((c :: r : Bytes) == [])) = true := rfl
   simp only [List.length_cons] at h hs ha
   by_cases hc : c = 92
   ·subst hc
    have e92 : ((92 : UInt8) == 92) = true := rfl
    rw [bytesS, if_pos rfl]
    have hle := escLen_le r
    have h1 := bo_esc r (by simp only [List.length_cons]; omega)
    have h2 : subT (92 :: r) ((1 + escLen r : Nat) : Int) = some (92 :: r.take (escLen r)) := by
     rw [subT_nat (by simp only [List.length_cons]; omega), Nat.add_comm, List.take_succ_cons]
    have h3 : subF (92 :: r) ((1 + escLen r : Nat) : Int) = some (r.drop (escLen r)) := by
     rw [subF_nat (by simp only [List.length_cons]; omega), Nat.add_comm, List.drop_succ_cons]
    have hl1 : (92 :: r.take (escLen r)).length ≤ 16777000 := by simp; omega
    have c1 : cat ([39] : Bytes) (92 :: r.take (escLen r)) = some ([39] ++ (92 :: r.take (escLen r))) := cat_big (by simp; omega)
    have c2 : cat ([39] ++ (92 :: r.take (escLen r))) ([39] : Bytes) = some (([39] ++ (92 :: r.take (escLen r))) ++ [39]) := cat_big (by simp; omega)
    have c3 := G_Char (([39] ++ (92 :: r.take (escLen r))) ++ [39]) (by simp at hl1 ⊢; omega)
    rw [charS_wrap _ (by simp), charT_esc] at c3
    cases he : escS r with
    | none =>
     rw [he] at c3
     refine ⟨acc, loopO_inr ?_⟩
     have h50 : (!((50 : Int) == 0)) = true := rfl
     simp only [G_lex_bytesOf_L1, hne, if_true, h1, h2, h3, bind_some', idx_0, q92, e92, Bool.not_true, Bool.false_eq_true, if_false, c1, c2, c3, Option.map_none, charR, h50]
    | some p =>
     obtain ⟨w, n⟩ := p
     have hn := (esc_take r).2 w n he
     subst hn
     rw [he] at c3
     have h0 : (!((0 : Int) == 0)) = false := rfl
     have hb : b8 (IntKind.wrap .u8 (IntKind.wrap .i64 (IntKind.wrap .i8 ((UInt8.ofNat w).toNat : Int)))) = some (UInt8.ofNat w) := by
      rw [wrap_char]; exact b8_toNat
     have hap : app 1 acc [UInt8.ofNat w] = some (acc ++ [UInt8.ofNat w]) := app_some (by simp; omega)
     have body : G_lex_bytesOf_L1 (92 :: r, acc) = some (Sum.inl (r.drop (escLen r), acc ++ [UInt8.ofNat w])) := by
      simp only [G_lex_bytesOf_L1, hne, if_true, h1, h2, h3, bind_some', idx_0, q92, e92, Bool.not_true, Bool.false_eq_true, if_false, c1, c2, c3, Option.map_some, charR, h0, hb, hap]
     have := ih (r.drop (escLen r)) (acc ++ [UInt8.ofNat w]) (by simp; omega) (by simp; omega) (by simp; omega)
     rw [loopO_inl body]
     simp only
     cases hx : bytesS (r.drop (escLen r)) with
     | none => rw [hx] at this; exact this
     | some l => rw [hx] at this; simp only [Option.map_some]; rw [this]; simp
   ·have e92 : (c == 92) = false := by simpa using hc
    rw [bytesS, if_neg hc]
    have h1 := bo_plain c r hc
    have h2 : subT (c :: r) (1 : Int) = some [c] := by
     have := subT_nat (L := c :: r) (n := 1) (by simp)
     simpa using this
    have hap : app 1 acc [c] = some (acc ++ [c]) := app_some (by simp; omega)
    have body : G_lex_bytesOf_L1 (c :: r, acc) = some (Sum.inl (r, acc ++ [c])) := by
     simp only [G_lex_bytesOf_L1, hne, if_true, h1, h2, subF_1, bind_some', idx_0, q92, e92, Bool.not_false, hap]
    have := ih r (acc ++ [c]) (by omega) (by omega) (by simp; omega)
    rw [loopO_inl body]
    cases hx : bytesS r with
    | none => rw [hx] at this; exact this
    | some l => rw [hx] at this; simp only [Option.map_some]; rw [this]; simp
end Go.Proofs.YtmngkcpobmhnoaaGreatDoor.Sim.Pl
