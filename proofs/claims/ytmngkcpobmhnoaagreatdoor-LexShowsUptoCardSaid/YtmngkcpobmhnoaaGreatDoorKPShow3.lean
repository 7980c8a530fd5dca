/- Plain laws: the text of all words. -/
import Derived.Test.YtmngkcpobmhnoaaGreatDoorKPShow2
set_option linter.all false
namespace Go.Proofs.YtmngkcpobmhnoaaGreatDoor.Sim.Pl
open Go.Proofs

def prevW (l : List T_api_Word) (i : Nat) : Option T_api_Word := if i = 0 then none else l[i - 1]?
def showF : Option T_api_Word → List T_api_Word → Option Bytes
 | _, [] => some []
 | p, w :: r => if rightS w = true ∧ ¬ (w.Kind_ = 4 ∧ (p.map (·.Kind_)) = some 4) then (showF (some w) r).map fun s => (if p.isSome then 32 :: showW w else showW w) ++ s else none
def WordsB (l : List T_api_Word) : Prop := l.length ≤ 1000 ∧ ∀ w ∈ l, w.S_.length ≤ 1048576

theorem show_step (l : List T_api_Word) (n : Int) (i : Nat) (out : Bytes) : G_lex_Show_L1 l l n ((i : Int), out) =
  (if (decide ((i : Int) < n)) then
   idx l (i : Int) >>= fun x47 =>
   (
    G_lex_Right x47 >>= fun r55 =>
    if (!r55) then
     some (Ex2.a (Sum.inr (Ex2.a out)))
    else
     if (decide ((0 : Int) < (i : Int))) then
      if (x47.Kind_ == (4 : Int)) then
       idx l (IntKind.wrap .i64 ((i : Int) - (1 : Int))) >>= fun x61 =>
       if (x61.Kind_ == (4 : Int)) then
        some (Ex2.a (Sum.inr (Ex2.a out)))
       else
        some (Ex2.b ())
      else
       some (Ex2.b ())
     else
      some (Ex2.b ())
   ) >>= fun j71 => match j71 with
    | .a q => some q
    | .b () =>
     if (decide ((0 : Int) < (i : Int))) then
      app 1 out [(32 : UInt8)] >>= fun t84 => tailP (i : Int) x47 t84
     else
      tailP (i : Int) x47 out
  else
   some (Sum.inr (Ex2.b out))) := rfl
theorem show_loop (l : List T_api_Word) (hl : WordsB l) : ∀ i, i ≤ l.length → ∀ out : Bytes, out.length ≤ 2000000 * i →
  match showF (prevW l i) (l.drop i) with
  | none => ∃ v, loopO (G_lex_Show_L1 l l ((l.length : Nat) : Int)) ((i : Int), out) = some (Ex2.a v)
  | some s => loopO (G_lex_Show_L1 l l ((l.length : Nat) : Int)) ((i : Int), out) = some (Ex2.b (out ++ s)) := by
 have hl1 := hl.1
 refine rest_ind (P := fun i r => ∀ out : Bytes, out.length ≤ 2000000 * i →
  match showF (prevW l i) r with
  | none => ∃ v, loopO (G_lex_Show_L1 l l ((l.length : Nat) : Int)) ((i : Int), out) = some (Ex2.a v)
  | some s => loopO (G_lex_Show_L1 l l ((l.length : Nat) : Int)) ((i : Int), out) = some (Ex2.b (out ++ s))) ?_ ?_
 ·intro out _
  have hlt : decide (((l.length : Nat) : Int) < ((l.length : Nat) : Int)) = false := by simp
  simp only [showF, List.append_nil]
  refine loopO_inr ?_
  rw [show_step, hlt]; rfl
 ·intro i w r hi hc e1 e2 ih out ho
  have hlt : decide (((i : Nat) : Int) < ((l.length : Nat) : Int)) = true := by simp only [decide_eq_true_eq]; omega
  have hc1 : idx l (i : Int) = some w := by rw [idx_nat, hc]
  have hw : IntKind.wrap .i64 ((i : Int) + 1) = ((i + 1 : Nat) : Int) := by rw [wi (by omega) (by omega)]; rfl
  have hs : w.S_.length ≤ 1048576 := hl.2 w (List.mem_of_getElem? hc)
  have hR := G_Right w hs
  have hpn : prevW l (i + 1) = some w := by unfold prevW; rw [if_neg (by omega), Nat.add_sub_cancel, hc]
  simp only [showF]
  cases hr : rightS w with
  | false =>
   rw [if_neg (by simp)]
   rw [hr] at hR
   refine ⟨out, loopO_inr ?_⟩
   rw [show_step]
   simp only [hlt, if_true, hc1, bind_some', hR, Bool.not_false]
  | true =>
   rw [hr] at hR
   have hwl := showW_len hs hr
   by_cases h0 : i = 0
   ·subst h0
    have hpv : prevW l 0 = none := rfl
    have hd0 : decide ((0 : Int) < ((0 : Nat) : Int)) = false := rfl
    rw [hpv, if_pos ⟨rfl, fun h => by cases h.2⟩]
    have ht := tail_ok ((0 : Nat) : Int) w out hs hr (by omega)
    rw [hw] at ht
    have body : G_lex_Show_L1 l l ((l.length : Nat) : Int) (((0 : Nat) : Int), out) = some (Sum.inl (((0 + 1 : Nat) : Int), out ++ showW w)) := by
     rw [show_step]
     simp only [hlt, if_true, hc1, bind_some', hR, Bool.not_true, Bool.false_eq_true, if_false, hd0, ht]
    have := ih (out ++ showW w) (by simp only [List.length_append]; omega)
    rw [hpn] at this
    rw [loopO_inl body]
    cases hx : showF (some w) r with
    | none => rw [hx] at this; exact this
    | some s => rw [hx] at this; simp only [Option.map_some] at this ⊢; rw [this]; simp
   ·have hdi : decide ((0 : Int) < ((i : Nat) : Int)) = true := by simp only [decide_eq_true_eq]; omega
    have hwm : IntKind.wrap .i64 ((i : Int) - 1) = ((i - 1 : Nat) : Int) := by rw [wi (by omega) (by omega)]; omega
    obtain ⟨x, hx1⟩ : ∃ x, l[i - 1]? = some x := ⟨_, List.getElem?_eq_getElem (by omega)⟩
    have hxi : idx l ((i - 1 : Nat) : Int) = some x := by rw [idx_nat, hx1]
    have hpv : prevW l i = some x := by unfold prevW; rw [if_neg h0, hx1]
    rw [hpv]
    have a1 : app 1 out [(32 : UInt8)] = some (out ++ [32]) := app_some (by simp; omega)
    have ht := tail_ok ((i : Nat) : Int) w (out ++ [32]) hs hr (by simp; omega)
    rw [hw] at ht
    by_cases hbad : w.Kind_ = 4 ∧ x.Kind_ = 4
    ·rw [if_neg (fun h => h.2 ⟨hbad.1, by simp [hbad.2]⟩)]
     have k1 : (w.Kind_ == 4) = true := by simpa using hbad.1
     have k2 : (x.Kind_ == 4) = true := by simpa using hbad.2
     refine ⟨out, loopO_inr ?_⟩
     rw [show_step]
     simp only [hlt, if_true, hc1, bind_some', hR, Bool.not_true, Bool.false_eq_true, if_false, hdi, k1, k2, hwm, hxi]
    ·rw [if_pos ⟨rfl, fun h => hbad ⟨h.1, by simpa using h.2⟩⟩]
     have body : G_lex_Show_L1 l l ((l.length : Nat) : Int) ((i : Int), out) = some (Sum.inl (((i + 1 : Nat) : Int), out ++ [32] ++ showW w)) := by
      rw [show_step]
      by_cases k1 : w.Kind_ = 4
      ·have k1' : (w.Kind_ == 4) = true := by simpa using k1
       have k2' : (x.Kind_ == 4) = false := by
        rw [Bool.eq_false_iff]; intro h; exact hbad ⟨k1, by simpa using h⟩
       simp only [hlt, if_true, hc1, bind_some', hR, Bool.not_true, Bool.false_eq_true, if_false, hdi, k1', k2', hwm, hxi, a1, ht]
      ·have k1' : (w.Kind_ == 4) = false := by simpa using k1
       simp only [hlt, if_true, hc1, bind_some', hR, Bool.not_true, Bool.false_eq_true, if_false, hdi, k1', a1, ht]
     have := ih (out ++ [32] ++ showW w) (by simp only [List.length_append, List.length_singleton]; omega)
     rw [hpn] at this
     rw [loopO_inl body]
     cases hx : showF (some w) r with
     | none => rw [hx] at this; exact this
     | some s => rw [hx] at this; simp only [Option.map_some, Option.isSome_some, if_true] at this ⊢; rw [this]; simp
def showS (l : List T_api_Word) : Option Bytes := showF none l
def showR : Option Bytes → Bytes × Int
 | none => ([], 2)
 | some s => (s, 0)
theorem G_Show (l : List T_api_Word) (hl : WordsB l) : G_lex_Show l = some (showR (showS l)) := by
 have h := show_loop l hl 0 (Nat.zero_le _) [] (by simp)
 rw [List.drop_zero, show prevW l 0 = none from rfl] at h
 unfold G_lex_Show showS
 cases hx : showF none l with
 | none =>
  rw [hx] at h
  obtain ⟨v, hv⟩ := h
  have hv : loopO (G_lex_Show_L1 l l ((l.length : Nat) : Int)) ((0 : Int), ([] : Bytes)) = _ := hv
  rw [hv]; rfl
 | some s =>
  rw [hx] at h
  have h : loopO (G_lex_Show_L1 l l ((l.length : Nat) : Int)) ((0 : Int), ([] : Bytes)) = _ := h
  rw [h]; rfl

theorem rem_10 (n : Nat) : rem (n : Int) 10 = some ((n % 10 : Nat) : Int) := by
 unfold rem
 rw [if_neg (by decide), Int.tmod_eq_emod_of_nonneg (by omega)]
 rfl
theorem quo_10 (n : Nat) (h : n ≤ 18446744073709551615) : quo .u64 (n : Int) 10 = some ((n / 10 : Nat) : Int) := by
 unfold quo
 rw [if_neg (by decide), Int.tdiv_eq_ediv_of_nonneg (by omega), wu (by omega) (by omega)]
 rfl
theorem dig_b8 (n : Nat) : b8 (IntKind.wrap .u8 (IntKind.wrap .u64 ((48 : Int) + ((n % 10 : Nat) : Int)))) = some (UInt8.ofNat (48 + n % 10)) := by
 have h : n % 10 < 10 := Nat.mod_lt _ (by decide)
 rw [wu (by omega) (by omega), w8 (by omega) (by omega)]
 unfold b8
 rw [if_pos (by omega)]
 congr 2
theorem digits_loop : ∀ (k n : Nat) (s : Bytes), n < 10 ^ k → n ≤ 18446744073709551615 → s.length + k ≤ 1000 → s ≠ [] → loopO G_burinref07_digits_L1 ((n : Int), s) = some (if n = 0 then s else Lib.decDigits n ++ s) := by
 intro k
 induction k with
 | zero =>
  intro n s h _ _ hne
  have h0 : n = 0 := by simpa using h
  subst h0
  have hne' : (s == []) = false := by simpa using hne
  rw [if_pos rfl]
  refine loopO_inr ?_
  have : decide ((0 : Int) < ((0 : Nat) : Int)) = false := rfl
  simp only [G_burinref07_digits_L1, hne', Bool.false_eq_true, if_false, this]
 | succ k ih =>
  intro n s h hn hs hne
  have hne' : (s == []) = false := by simpa using hne
  by_cases h0 : n = 0
  ·subst h0
   rw [if_pos rfl]
   refine loopO_inr ?_
   have : decide ((0 : Int) < ((0 : Nat) : Int)) = false := rfl
   simp only [G_burinref07_digits_L1, hne', Bool.false_eq_true, if_false, this]
  ·have hp : decide ((0 : Int) < (n : Int)) = true := by simp only [decide_eq_true_eq]; omega
   have hc : cat ([UInt8.ofNat (48 + n % 10)] : List UInt8) s = some (UInt8.ofNat (48 + n % 10) :: s) := cat_big (by simp; omega)
   have body : G_burinref07_digits_L1 ((n : Int), s) = some (Sum.inl (((n / 10 : Nat) : Int), UInt8.ofNat (48 + n % 10) :: s)) := by
    simp only [G_burinref07_digits_L1, hne', Bool.false_eq_true, if_false, hp, if_true, rem_10, quo_10 n hn, bind_some', dig_b8, hc]
   rw [loopO_inl body, if_neg h0, ih (n / 10) _ (by rw [Nat.pow_succ] at h; omega) (by omega) (by simp; omega) (by simp)]
   by_cases h10 : n < 10
   ·rw [if_pos (by omega), Lib.decDigits, dif_pos h10, Nat.mod_eq_of_lt h10]; rfl
   ·rw [if_neg (by omega)]
    conv => rhs; rw [Lib.decDigits, dif_neg h10]
    simp
theorem G_digits (n : Nat) (hn : n ≤ 18446744073709551615) : G_burinref07_digits (n : Int) = some (Lib.decDigits n) := by
 have hc : cat ([UInt8.ofNat (48 + n % 10)] : List UInt8) [] = some [UInt8.ofNat (48 + n % 10)] := cat_big (by simp)
 have body : G_burinref07_digits_L1 ((n : Int), []) = some (Sum.inl (((n / 10 : Nat) : Int), [UInt8.ofNat (48 + n % 10)])) := by
  have e : (([] : Bytes) == []) = true := rfl
  simp only [G_burinref07_digits_L1, e, if_true, rem_10, quo_10 n hn, bind_some', dig_b8, hc]
 have h20 : (18446744073709551616 : Nat) ≤ 10 ^ 20 := by decide +kernel
 have h := digits_loop 20 (n / 10) [UInt8.ofNat (48 + n % 10)] (Nat.lt_of_le_of_lt (Nat.div_le_self n 10) (Nat.lt_of_lt_of_le (Nat.lt_succ_of_le hn) h20)) (Nat.le_trans (Nat.div_le_self n 10) hn) (by simp) (by simp)
 unfold G_burinref07_digits
 rw [loopO_inl body, h, bind_some']
 refine congrArg some ?_
 by_cases h10 : n < 10
 ·rw [if_pos (by omega), Lib.decDigits, dif_pos h10, Nat.mod_eq_of_lt h10]
 ·rw [if_neg (by omega)]
  conv => rhs; rw [Lib.decDigits, dif_neg h10]
theorem ref_text_loop (S : Bytes) (hS : S.length ≤ 1048576) : ∀ j, j ≤ S.length → ∀ t : Bytes, t.length + 4 * (S.length - j) ≤ 20000000000000 →
  loopO (G_burinref07_show_L1 S) (t, (j : Int)) = some (t ++ (S.drop j).flatMap octS) := by
 refine rest_ind (P := fun j r => ∀ t : Bytes, t.length + 4 * (S.length - j) ≤ 20000000000000 → loopO (G_burinref07_show_L1 S) (t, (j : Int)) = some (t ++ r.flatMap octS)) ?_ ?_
 ·intro t _
  have hlt : decide (((S.length : Nat) : Int) < ((S.length : Nat) : Int)) = false := by simp
  rw [List.flatMap_nil, List.append_nil]
  refine loopO_inr ?_
  simp only [G_burinref07_show_L1, hlt]; rfl
 ·intro j c r hj hc e1 e2 ih t ht
  have hlt : decide (((j : Nat) : Int) < ((S.length : Nat) : Int)) = true := by simp only [decide_eq_true_eq]; omega
  have hc1 : idx S (j : Int) = some c := by rw [idx_nat, hc]
  have hw : IntKind.wrap .i64 ((j : Int) + 1) = ((j + 1 : Nat) : Int) := by rw [wi (by omega) (by omega)]; rfl
  have a1 : app 1 t (octS c) = some (t ++ octS c) := app_some (by simp [octS]; omega)
  have body : G_burinref07_show_L1 S (t, (j : Int)) = some (Sum.inl (t ++ octS c, ((j + 1 : Nat) : Int))) := by
   simp only [G_burinref07_show_L1, hlt, if_true, hc1, bind_some', G_octal, a1, hw]
  rw [loopO_inl body, ih (t ++ octS c) (by simp [octS]; omega), List.flatMap_cons, List.append_assoc]
theorem G_refshow (w : T_api_Word) (hs : w.S_.length ≤ 1048576) (hr : rightS w = true) : G_burinref07_show w = some (showW w) := by
 unfold G_burinref07_show showW
 by_cases k3 : w.Kind_ = 3
 ·have k3' : (w.Kind_ == 3) = true := by simpa using k3
  rw [if_pos k3', if_neg (show ¬ w.Kind_ = 4 by omega), if_neg (not_not_intro k3)]
  obtain ⟨_, hl⟩ := right_3 k3 hr
  have hT := lies_T hl
  have hv : (if (w.T_ == (5 : Int)) = true then some (decide (w.V_ < (0 : Int))) else some false) = some (decide (w.T_ = 5 ∧ w.V_ < 0)) := by
   by_cases h5 : w.T_ = 5
   ·simp [h5]
   ·simp [h5]
  rw [hv, bind_some']
  by_cases hc : w.T_ = 5 ∧ w.V_ < 0
  ·rw [decide_eq_true hc, if_pos hc]
   have ho := G_octal (u8c w.V_)
   rw [u8c_eq] at ho
   have c1 : cat ([39] : Bytes) (octS (u8c w.V_)) = some ([39] ++ octS (u8c w.V_)) := cat_big (by simp [octS])
   have c2 : cat ([39] ++ octS (u8c w.V_)) ([39] : Bytes) = some ([39] ++ octS (u8c w.V_) ++ [39]) := cat_big (by simp [octS])
   simp only [if_true, ho, bind_some', c1, c2]
   rfl
  ·rw [decide_eq_false hc, if_neg hc]
   have hd := dec_len (u64c_lt w.V_)
   have hg : G_burinref07_digits (IntKind.wrap .u64 w.V_) = some (Lib.decDigits (u64c w.V_)) := by
    rw [u64c_eq]; exact G_digits _ (by have := u64c_lt w.V_; omega)
   have c1 : ∀ z : Bytes, z.length ≤ 2 → cat (Lib.decDigits (u64c w.V_)) z = some (Lib.decDigits (u64c w.V_) ++ z) := fun z hz => cat_big (by omega)
   simp only [Bool.false_eq_true, if_false, bind_some', hg]
   have c0 := c1 [] (by simp)
   have c2 := c1 [117] (by simp)
   have c3 := c1 [108] (by simp)
   have c4 := c1 [117, 108] (by simp)
   rcases hT with hT | hT | hT | hT
   ·rw [hT]; simp only [c0, sufW]; simp [c0]
   ·rw [hT]; simp [c2, sufW]
   ·rw [hT]; simp [c3, sufW]
   ·rw [hT]; simp [c4, sufW]
 ·have k3' : ¬ (w.Kind_ == 3) = true := by simpa using k3
  rw [if_neg k3']
  by_cases k4 : w.Kind_ = 4
  ·have k4' : (w.Kind_ == 4) = true := by simpa using k4
   rw [if_pos k4', if_pos k4]
   have h1 := ref_text_loop w.S_ hs 0 (Nat.zero_le _) [34] (by simp; omega)
   rw [List.drop_zero] at h1
   have h1 : loopO (G_burinref07_show_L1 w.S_) (([(34 : UInt8)] : List UInt8), (0 : Int)) = _ := h1
   have a2 : app 1 ([34] ++ w.S_.flatMap octS) [(34 : UInt8)] = some ([34] ++ w.S_.flatMap octS ++ [34]) := app_some (by simp only [List.length_append, flat_len, List.length_singleton]; omega)
   rw [h1, bind_some', a2]; rfl
  ·have k4' : ¬ (w.Kind_ == 4) = true := by simpa using k4
   rw [if_neg k4', if_neg k4, if_pos k3]
theorem ref_show_loop (l : List T_api_Word) (hl : WordsB l) : ∀ i, i ≤ l.length → ∀ out : Bytes, out.length ≤ 2000000 * i →
  match showF (prevW l i) (l.drop i) with
  | none => loopO (G_burinref07_Show_L1 l) (out, (i : Int)) = some (Ex2.a ())
  | some s => loopO (G_burinref07_Show_L1 l) (out, (i : Int)) = some (Ex2.b (out ++ s)) := by
 have hl1 := hl.1
 refine rest_ind (P := fun i r => ∀ out : Bytes, out.length ≤ 2000000 * i →
  match showF (prevW l i) r with
  | none => loopO (G_burinref07_Show_L1 l) (out, (i : Int)) = some (Ex2.a ())
  | some s => loopO (G_burinref07_Show_L1 l) (out, (i : Int)) = some (Ex2.b (out ++ s))) ?_ ?_
 ·intro out _
  have hlt : decide (((l.length : Nat) : Int) < ((l.length : Nat) : Int)) = false := by simp
  simp only [showF, List.append_nil]
  refine loopO_inr ?_
  simp only [G_burinref07_Show_L1, hlt]; rfl
 ·intro i w r hi hc e1 e2 ih out ho
  have hlt : decide (((i : Nat) : Int) < ((l.length : Nat) : Int)) = true := by simp only [decide_eq_true_eq]; omega
  have hc1 : idx l (i : Int) = some w := by rw [idx_nat, hc]
  have hw : IntKind.wrap .i64 ((i : Int) + 1) = ((i + 1 : Nat) : Int) := by rw [wi (by omega) (by omega)]; rfl
  have hs : w.S_.length ≤ 1048576 := hl.2 w (List.mem_of_getElem? hc)
  have hR := G_refRight w hs
  have hpn : prevW l (i + 1) = some w := by unfold prevW; rw [if_neg (by omega), Nat.add_sub_cancel, hc]
  simp only [showF]
  cases hr : rightS w with
  | false =>
   rw [if_neg (by simp)]
   rw [hr] at hR
   refine loopO_inr ?_
   simp only [G_burinref07_Show_L1, hlt, if_true, hc1, bind_some', hR, Bool.not_false]
  | true =>
   rw [hr] at hR
   have hwl := showW_len hs hr
   have hsh := G_refshow w hs hr
   by_cases h0 : i = 0
   ·subst h0
    have hpv : prevW l 0 = none := rfl
    have hd0 : decide ((0 : Int) < ((0 : Nat) : Int)) = false := rfl
    rw [hpv, if_pos ⟨rfl, fun h => by cases h.2⟩]
    have a2 : app 1 out (showW w) = some (out ++ showW w) := app_some (by omega)
    have body : G_burinref07_Show_L1 l (out, ((0 : Nat) : Int)) = some (Sum.inl (out ++ showW w, ((0 + 1 : Nat) : Int))) := by
     simp only [G_burinref07_Show_L1, hlt, if_true, hc1, bind_some', hR, Bool.not_true, Bool.false_eq_true, if_false, hd0, hsh, a2, hw]
    have := ih (out ++ showW w) (by simp only [List.length_append]; omega)
    rw [hpn] at this
    rw [loopO_inl body]
    cases hx : showF (some w) r with
    | none => rw [hx] at this; exact this
    | some s => rw [hx] at this; simp only [Option.map_some] at this ⊢; rw [this]; simp
   ·have hdi : decide ((0 : Int) < ((i : Nat) : Int)) = true := by simp only [decide_eq_true_eq]; omega
    have hwm : IntKind.wrap .i64 ((i : Int) - 1) = ((i - 1 : Nat) : Int) := by rw [wi (by omega) (by omega)]; omega
    obtain ⟨x, hx1⟩ : ∃ x, l[i - 1]? = some x := ⟨_, List.getElem?_eq_getElem (by omega)⟩
    have hxi : idx l ((i - 1 : Nat) : Int) = some x := by rw [idx_nat, hx1]
    have hpv : prevW l i = some x := by unfold prevW; rw [if_neg h0, hx1]
    rw [hpv]
    have a1 : app 1 out [(32 : UInt8)] = some (out ++ [32]) := app_some (by simp; omega)
    have a2 : app 1 (out ++ [32]) (showW w) = some (out ++ [32] ++ showW w) := app_some (by simp only [List.length_append, List.length_singleton]; omega)
    by_cases hbad : w.Kind_ = 4 ∧ x.Kind_ = 4
    ·rw [if_neg (fun h => h.2 ⟨hbad.1, by simp [hbad.2]⟩)]
     have k1 : (w.Kind_ == 4) = true := by simpa using hbad.1
     have k2 : (x.Kind_ == 4) = true := by simpa using hbad.2
     refine loopO_inr ?_
     simp only [G_burinref07_Show_L1, hlt, if_true, hc1, bind_some', hR, Bool.not_true, Bool.false_eq_true, if_false, hdi, k1, k2, hwm, hxi]
    ·rw [if_pos ⟨rfl, fun h => hbad ⟨h.1, by simpa using h.2⟩⟩]
     have body : G_burinref07_Show_L1 l (out, (i : Int)) = some (Sum.inl (out ++ [32] ++ showW w, ((i + 1 : Nat) : Int))) := by
      by_cases k1 : w.Kind_ = 4
      ·have k1' : (w.Kind_ == 4) = true := by simpa using k1
       have k2' : (x.Kind_ == 4) = false := by
        rw [Bool.eq_false_iff]; intro h; exact hbad ⟨k1, by simpa using h⟩
       simp only [G_burinref07_Show_L1, hlt, if_true, hc1, bind_some', hR, Bool.not_true, Bool.false_eq_true, if_false, hdi, k1', k2', hwm, hxi, a1, hsh, a2, hw]
      ·have k1' : (w.Kind_ == 4) = false := by simpa using k1
       simp only [G_burinref07_Show_L1, hlt, if_true, hc1, bind_some', hR, Bool.not_true, Bool.false_eq_true, if_false, hdi, k1', a1, hsh, a2, hw]
     have := ih (out ++ [32] ++ showW w) (by simp only [List.length_append, List.length_singleton]; omega)
     rw [hpn] at this
     rw [loopO_inl body]
     cases hx : showF (some w) r with
     | none => rw [hx] at this; exact this
     | some s => rw [hx] at this; simp only [Option.map_some, Option.isSome_some, if_true] at this ⊢; rw [this]; simp
theorem G_refShow (l : List T_api_Word) (hl : WordsB l) : G_burinref07_Show l = some (showR (showS l)) := by
 have h := ref_show_loop l hl 0 (Nat.zero_le _) [] (by simp)
 rw [List.drop_zero, show prevW l 0 = none from rfl] at h
 unfold G_burinref07_Show showS
 cases hx : showF none l with
 | none =>
  rw [hx] at h
  have h : loopO (G_burinref07_Show_L1 l) (([] : Bytes), (0 : Int)) = _ := h
  rw [h]; rfl
 | some s =>
  rw [hx] at h
  have h : loopO (G_burinref07_Show_L1 l) (([] : Bytes), (0 : Int)) = _ := h
  rw [h]; rfl
theorem rights_loop (l : List T_api_Word) (hl : WordsB l) : ∀ j, j ≤ l.length → loopO (G_burinlaw07_LexShows_L1 l) (j : Int) = some (Ex2.b ()) := by
 have hl1 := hl.1
 refine rest_ind (P := fun j _ => loopO (G_burinlaw07_LexShows_L1 l) (j : Int) = some (Ex2.b ())) ?_ ?_
 ·have hlt : decide (((l.length : Nat) : Int) < ((l.length : Nat) : Int)) = false := by simp
  refine loopO_inr ?_
  simp only [G_burinlaw07_LexShows_L1, hlt]; rfl
 ·intro j w r hj hc e1 e2 ih
  have hlt : decide (((j : Nat) : Int) < ((l.length : Nat) : Int)) = true := by simp only [decide_eq_true_eq]; omega
  have hc1 : idx l (j : Int) = some w := by rw [idx_nat, hc]
  have hw : IntKind.wrap .i64 ((j : Int) + 1) = ((j + 1 : Nat) : Int) := by rw [wi (by omega) (by omega)]; rfl
  have hs : w.S_.length ≤ 1048576 := hl.2 w (List.mem_of_getElem? hc)
  rw [loopO_inl (s' := ((j + 1 : Nat) : Int)), ih]
  simp only [G_burinlaw07_LexShows_L1, hlt, if_true, hc1, bind_some', G_Right w hs, G_refRight w hs, beq_self_eq_true, Bool.not_true, Bool.false_eq_true, if_false, hw]
end Go.Proofs.YtmngkcpobmhnoaaGreatDoor.Sim.Pl
