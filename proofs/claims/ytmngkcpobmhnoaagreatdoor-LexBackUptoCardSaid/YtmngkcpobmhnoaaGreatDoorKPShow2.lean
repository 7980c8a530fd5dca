/- Plain laws: the text of words. -/
import Derived.Test.YtmngkcpobmhnoaaGreatDoorKPShow
set_option linter.all false
namespace Go.Proofs.YtmngkcpobmhnoaaGreatDoor.Sim.Pl
open Go.Proofs

theorem wrap8_mod (x : Int) : IntKind.wrap .u8 x = x % 256 := by simp [IntKind.wrap, IntKind.bits, IntKind.signed]
theorem wrap64_mod (x : Int) : IntKind.wrap .u64 x = x % 18446744073709551616 := by simp [IntKind.wrap, IntKind.bits, IntKind.signed]
def u8c (v : Int) : UInt8 := UInt8.ofNat (v % 256).toNat
theorem u8c_eq (v : Int) : ((u8c v).toNat : Int) = IntKind.wrap .u8 v := by
 rw [wrap8_mod]
 unfold u8c
 have h1 : (v % 256).toNat < 256 := by omega
 rw [UInt8.toNat_ofNat']
 omega
def u64c (v : Int) : Nat := (v % 18446744073709551616).toNat
theorem u64c_eq (v : Int) : IntKind.wrap .u64 v = (u64c v : Int) := by rw [wrap64_mod]; unfold u64c; omega
theorem u64c_lt (v : Int) : u64c v < 18446744073709551616 := by unfold u64c; omega
def sufW (t : Int) : Bytes := if t = 6 then [117] else if t = 7 then [108] else if t = 8 then [117, 108] else []
def showW (w : T_api_Word) : Bytes :=
 if w.Kind_ = 4 then 34 :: (w.S_.flatMap octS ++ [34])
 else if ¬ w.Kind_ = 3 then w.S_
 else if w.T_ = 5 ∧ w.V_ < 0 then 39 :: (octS (u8c w.V_) ++ [39])
 else Lib.decDigits (u64c w.V_) ++ sufW w.T_
theorem flat_len (s : Bytes) : (s.flatMap octS).length = 4 * s.length := by
 induction s with
 | nil => rfl
 | cons c r ih => rw [List.flatMap_cons, List.length_append, ih]; simp [octS]; omega
theorem dec_len {u : Nat} (h : u < 18446744073709551616) : (Lib.decDigits u).length ≤ 20 := by
 rw [Lib.decDigits_length]
 by_cases h0 : u = 0
 ·subst h0; rw [Lib.nDigits_small (by omega)]; omega
 ·have := Lib.numDigits_eq u (by omega) h
  split at this <;> omega
theorem suf_len (t : Int) : (sufW t).length ≤ 2 := by unfold sufW; split; simp; split; simp; split <;> simp
theorem showW_len {w : T_api_Word} (hs : w.S_.length ≤ 1048576) (hr : rightS w = true) : (showW w).length ≤ 1048576 := by
 unfold showW
 by_cases k4 : w.Kind_ = 4
 ·rw [if_pos k4]
  have h4 : w.S_.length ≤ 4096 := by
   unfold rightS at hr
   rw [if_neg (by omega)] at hr
   split at hr
   ·cases hr
   ·simpa [k4] using hr
  simp only [List.length_cons, List.length_append, flat_len, List.length_nil]; omega
 ·rw [if_neg k4]
  split
  ·exact hs
  ·split
   ·simp [octS]
   ·have h1 := dec_len (u64c_lt w.V_)
    have h2 := suf_len w.T_
    simp only [List.length_append]; omega

theorem text_loop (S : Bytes) (hS : S.length ≤ 1048576) : ∀ j, j ≤ S.length → ∀ t : Bytes, t.length + 4 * (S.length - j) ≤ 20000000000000 →
  loopO (G_lex_Show_L2 ((S.length : Nat) : Int) S) ((j : Int), t) = some (t ++ (S.drop j).flatMap octS) := by
 refine rest_ind (P := fun j r => ∀ t : Bytes, t.length + 4 * (S.length - j) ≤ 20000000000000 → loopO (G_lex_Show_L2 ((S.length : Nat) : Int) S) ((j : Int), t) = some (t ++ r.flatMap octS)) ?_ ?_
 ·intro t _
  have hlt : decide (((S.length : Nat) : Int) < ((S.length : Nat) : Int)) = false := by simp
  rw [List.flatMap_nil, List.append_nil]
  refine loopO_inr ?_
  simp only [G_lex_Show_L2, hlt]; rfl
 ·intro j c r hj hc e1 e2 ih t ht
  have hlt : decide (((j : Nat) : Int) < ((S.length : Nat) : Int)) = true := by simp only [decide_eq_true_eq]; omega
  have hc1 : idx S (j : Int) = some c := by rw [idx_nat, hc]
  have hw : IntKind.wrap .i64 ((j : Int) + 1) = ((j + 1 : Nat) : Int) := by rw [wi (by omega) (by omega)]; rfl
  have a1 : app 1 t [(92 : UInt8)] = some (t ++ [92]) := app_some (by simp; omega)
  have he := esc_loop c (t ++ [92]) (by simp; omega)
  have he : loopO (G_lex_Show_L3 (c.toNat : Int) ([(6 : Int), (3 : Int), (0 : Int)] : List Int) ((List.length ([(6 : Int), (3 : Int), (0 : Int)] : List Int) : Nat) : Int)) ((0 : Int), t ++ [92]) = _ := he
  have body : G_lex_Show_L2 ((S.length : Nat) : Int) S ((j : Int), t) = some (Sum.inl (((j + 1 : Nat) : Int), t ++ octS c)) := by
   simp only [G_lex_Show_L2, hlt, if_true, hc1, bind_some', a1, he, hw]
   simp [octS]
  rw [loopO_inl body, ih (t ++ octS c) (by simp [octS]; omega), List.flatMap_cons, List.append_assoc]

def tailP (i : Int) (x47 : T_api_Word) (t84 : Bytes) : Option ((Int × Bytes) ⊕ (Ex2 (Bytes) (Bytes))) :=
 if (x47.Kind_ == (4 : Int)) then
  app 1 t84 [(34 : UInt8)] >>= fun t98 =>
  loopO (G_lex_Show_L2 ((List.length x47.S_ : Nat) : Int) x47.S_) ((0 : Int), t98) >>= fun v248 =>
  app 1 v248 [(34 : UInt8)] >>= fun t264 =>
  some (Sum.inl ((IntKind.wrap .i64 (i + (1 : Int))), t264))
 else
  if (!(x47.Kind_ == (3 : Int))) then
   app 1 t84 x47.S_ >>= fun t276 =>
   some (Sum.inl ((IntKind.wrap .i64 (i + (1 : Int))), t276))
  else
   (
    if (x47.T_ == (5 : Int)) then
     some (decide (x47.V_ < (0 : Int)))
    else
     some false
   ) >>= fun v291 =>
   if v291 then
    app 1 t84 [(39 : UInt8)] >>= fun t307 =>
    app 1 t307 [(92 : UInt8)] >>= fun t318 =>
    loopO (G_lex_Show_L3 (IntKind.wrap .u8 x47.V_) ([(6 : Int), (3 : Int), (0 : Int)] : List Int) ((List.length ([(6 : Int), (3 : Int), (0 : Int)] : List Int) : Nat) : Int)) ((0 : Int), t318) >>= fun v395 =>
    app 1 v395 [(39 : UInt8)] >>= fun t409 =>
    some (Sum.inl ((IntKind.wrap .i64 (i + (1 : Int))), t409))
   else
    oFormatUint (IntKind.wrap .u64 x47.V_) (10 : Int) >>= fun r420 =>
    app 1 t84 r420 >>= fun t422 =>
    idx ([([] : Bytes), ([117] : Bytes), ([108] : Bytes), ([117, 108] : Bytes)] : List Bytes) (IntKind.wrap .i64 (x47.T_ - (5 : Int))) >>= fun x433 =>
    app 1 t422 x433 >>= fun t434 =>
    some (Sum.inl ((IntKind.wrap .i64 (i + (1 : Int))), t434))
theorem lies_T {v t : Int} (h : liesS v t = true) : t = 5 ∨ t = 6 ∨ t = 7 ∨ t = 8 := by
 unfold liesS at h
 by_cases h5 : t = 5
 ·exact .inl h5
 ·rw [if_neg h5] at h
  by_cases h6 : t = 6
  ·exact .inr (.inl h6)
  ·rw [if_neg h6] at h
   by_cases h7 : t = 7
   ·exact .inr (.inr (.inl h7))
   ·rw [if_neg h7] at h; exact .inr (.inr (.inr (by simpa using h)))
theorem right_3 {w : T_api_Word} (k3 : w.Kind_ = 3) (hr : rightS w = true) : w.S_ = [] ∧ liesS w.V_ w.T_ = true := by
 unfold rightS at hr
 rw [if_pos k3] at hr
 simpa using hr
theorem suf_idx {t : Int} (h : t = 5 ∨ t = 6 ∨ t = 7 ∨ t = 8) : idx ([([] : Bytes), ([117] : Bytes), ([108] : Bytes), ([117, 108] : Bytes)] : List Bytes) (IntKind.wrap .i64 (t - (5 : Int))) = some (sufW t) := by
 rcases h with rfl | rfl | rfl | rfl <;> rfl
theorem tail_ok (i : Int) (w : T_api_Word) (t : Bytes) (hs : w.S_.length ≤ 1048576) (hr : rightS w = true) (ht : t.length ≤ 10000000000) : tailP i w t = some (Sum.inl (IntKind.wrap .i64 (i + 1), t ++ showW w)) := by
 unfold tailP showW
 by_cases k4 : w.Kind_ = 4
 ·have k4' : (w.Kind_ == 4) = true := by simpa using k4
  rw [if_pos k4', if_pos k4]
  have a1 : app 1 t [(34 : UInt8)] = some (t ++ [34]) := app_some (by simp; omega)
  have h1 := text_loop w.S_ hs 0 (Nat.zero_le _) (t ++ [34]) (by simp; omega)
  rw [List.drop_zero] at h1
  have h1 : loopO (G_lex_Show_L2 ((w.S_.length : Nat) : Int) w.S_) ((0 : Int), t ++ [34]) = _ := h1
  have a2 : app 1 (t ++ [34] ++ w.S_.flatMap octS) [(34 : UInt8)] = some (t ++ [34] ++ w.S_.flatMap octS ++ [34]) := app_some (by simp only [List.length_append, flat_len, List.length_singleton]; omega)
  simp only [a1, bind_some', h1, a2]
  simp
 ·have k4' : ¬ (w.Kind_ == 4) = true := by simpa using k4
  rw [if_neg k4', if_neg k4]
  by_cases k3 : w.Kind_ = 3
  ·have k3' : (w.Kind_ == 3) = true := by simpa using k3
   rw [if_neg (by simp [k3'] : ¬ (!(w.Kind_ == 3)) = true), if_neg (not_not_intro k3)]
   obtain ⟨_, hl⟩ := right_3 k3 hr
   have hT := lies_T hl
   have hv : (if (w.T_ == (5 : Int)) = true then some (decide (w.V_ < (0 : Int))) else some false) = some (decide (w.T_ = 5 ∧ w.V_ < 0)) := by
    by_cases h5 : w.T_ = 5
    ·simp [h5]
    ·simp [h5]
   rw [hv, bind_some']
   by_cases hc : w.T_ = 5 ∧ w.V_ < 0
   ·rw [decide_eq_true hc, if_pos rfl, if_pos hc]
    have a1 : app 1 t [(39 : UInt8)] = some (t ++ [39]) := app_some (by simp; omega)
    have a2 : app 1 (t ++ [39]) [(92 : UInt8)] = some (t ++ [39] ++ [92]) := app_some (by simp; omega)
    have he := esc_loop (u8c w.V_) (t ++ [39] ++ [92]) (by simp; omega)
    rw [u8c_eq] at he
    have he : loopO (G_lex_Show_L3 (IntKind.wrap .u8 w.V_) ([(6 : Int), (3 : Int), (0 : Int)] : List Int) ((List.length ([(6 : Int), (3 : Int), (0 : Int)] : List Int) : Nat) : Int)) ((0 : Int), t ++ [39] ++ [92]) = _ := he
    have a3 : app 1 (t ++ [39] ++ [92] ++ [octD (u8c w.V_) 64, octD (u8c w.V_) 8, octD (u8c w.V_) 1]) [(39 : UInt8)] = some (t ++ [39] ++ [92] ++ [octD (u8c w.V_) 64, octD (u8c w.V_) 8, octD (u8c w.V_) 1] ++ [39]) := app_some (by simp; omega)
    simp only [a1, bind_some', a2, he, a3]
    simp [octS]
   ·rw [decide_eq_false hc, if_neg (by decide), if_neg hc]
    have o1 : oFormatUint (IntKind.wrap .u64 w.V_) (10 : Int) = some (Lib.decDigits (u64c w.V_)) := by
     have := u64c_lt w.V_
     unfold oFormatUint
     rw [u64c_eq, if_pos ⟨by omega, by omega, rfl⟩, Int.toNat_natCast]
    have hd := dec_len (u64c_lt w.V_)
    have hsf := suf_len w.T_
    have a1 : app 1 t (Lib.decDigits (u64c w.V_)) = some (t ++ Lib.decDigits (u64c w.V_)) := app_some (by omega)
    have a2 : app 1 (t ++ Lib.decDigits (u64c w.V_)) (sufW w.T_) = some (t ++ Lib.decDigits (u64c w.V_) ++ sufW w.T_) := app_some (by simp only [List.length_append]; omega)
    simp only [o1, bind_some', a1, suf_idx hT, a2]
    simp
  ·have k3' : (w.Kind_ == 3) = false := by simpa using k3
   rw [if_pos (by simp [k3'] : (!(w.Kind_ == 3)) = true), if_pos k3]
   have a1 : app 1 t w.S_ = some (t ++ w.S_) := app_some (by omega)
   simp only [a1, bind_some']
end Go.Proofs.YtmngkcpobmhnoaaGreatDoor.Sim.Pl
