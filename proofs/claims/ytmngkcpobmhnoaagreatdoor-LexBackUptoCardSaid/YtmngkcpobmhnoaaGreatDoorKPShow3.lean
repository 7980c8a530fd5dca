/- Plain laws: the text of all words. -/
import Derived.Test.YtmngkcpobmhnoaaGreatDoorKPShow2
set_option linter.all false
namespace Go.Proofs.YtmngkcpobmhnoaaGreatDoor.Sim.Pl
open Go.Proofs

def prevW (l : List T_api_Word) (i : Nat) : Option T_api_Word := if i = 0 then none else l[i - 1]?
def showF : Option T_api_Word → List T_api_Word → Option Bytes
 | _, [] => some []
 | p, w :: r => if rightS w = true ∧ ¬ (w.Kind_ = 4 ∧ (p.map (·.Kind_)) = some 4) then (showF (some w) r).map fun s => (if p.isSome then 32 :: showW w else showW w) ++ s else none
def WordsB (l : List T_api_Word) : Prop := l.length ≤ 1000 ∧ ∀ w ∈ l, w.S_.length ≤ 1048576

theorem show_step (l : List T_api_Word) (n : Int) (i : Nat) (out : Bytes) : G_lex_Show_L1 l l n ((i : Int), out) =
  (if (decide ((i : Int) < n)) then
   idx l (i : Int) >>= fun x47 =>
   (
    G_lex_Right x47 >>= fun r55 =>
    if (!r55) then
     some (Ex2.a (Sum.inr (Ex2.a out)))
    else
     if (decide ((0 : Int) < (i : Int))) then
      if (x47.Kind_ == (4 : Int)) then
       idx l (IntKind.wrap .i64 ((i : Int) - (1 : Int))) >>= fun x61 =>
       if (x61.Kind_ == (4 : Int)) then
        some (Ex2.a (Sum.inr (Ex2.a out)))
       else
        some (Ex2.b ())
      else
       some (Ex2.b ())
     else
      some (Ex2.b ())
   ) >>= fun j71 => match j71 with
    | .a q => some q
    | .b () =>
     if (decide ((0 : Int) < (i : Int))) then
      app 1 out [(32 : UInt8)] >>= fun t84 => tailP (i : Int) x47 t84
     else
      tailP (i : Int) x47 out
  else
   some (Sum.inr (Ex2.b out))) := rfl
theorem show_loop (l : List T_api_Word) (hl : WordsB l) : ∀ i, i ≤ l.length → ∀ out : Bytes, out.length ≤ 2000000 * i →
  match showF (prevW l i) (l.drop i) with
  | none => ∃ v, loopO (G_lex_Show_L1 l l ((l.length : Nat) : Int)) ((i : Int), out) = some (Ex2.a v)
  | some s => loopO (G_lex_Show_L1 l l ((l.length : Nat) : Int)) ((i : Int), out) = some (Ex2.b (out ++ s)) := by
 have hl1 := hl.1
 refine rest_ind (P := fun i r => ∀ out : Bytes, out.length ≤ 2000000 * i →
  match showF (prevW l i) r with
  | none => ∃ v, loopO (G_lex_Show_L1 l l ((l.length : Nat) : Int)) ((i : Int), out) = some (Ex2.a v)
  | some s => loopO (G_lex_Show_L1 l l ((l.length : Nat) : Int)) ((i : Int), out) = some (Ex2.b (out ++ s))) ?_ ?_
 ·intro out _
  have hlt : decide (((l.length : Nat) : Int) < ((l.length : Nat) : Int)) = false := by simp
  simp only [showF, List.append_nil]
  refine loopO_inr ?_
  rw [show_step, hlt]; rfl
 ·intro i w r hi hc e1 e2 ih out ho
  have hlt : decide (((i : Nat) : Int) < ((l.length : Nat) : Int)) = true := by simp only [decide_eq_true_eq]; omega
  have hc1 : idx l (i : Int) = some w := by rw [idx_nat, hc]
  have hw : IntKind.wrap .i64 ((i : Int) + 1) = ((i + 1 : Nat) : Int) := by rw [wi (by omega) (by omega)]; rfl
  have hs : w.S_.length ≤ 1048576 := hl.2 w (List.mem_of_getElem? hc)
  have hR := G_Right w hs
  have hpn : prevW l (i + 1) = some w := by unfold prevW; rw [if_neg (by omega), Nat.add_sub_cancel, hc]
  simp only [showF]
  cases hr : rightS w with
  | false =>
   rw [if_neg (by simp)]
   rw [hr] at hR
   refine ⟨out, loopO_inr ?_⟩
   rw [show_step]
   simp only [hlt, if_true, hc1, bind_some', hR, Bool.not_false]
  | true =>
   rw [hr] at hR
   have hwl := showW_len hs hr
   by_cases h0 : i = 0
   ·subst h0
    have hpv : prevW l 0 = none := rfl
    have hd0 : decide ((0 : Int) < ((0 : Nat) : Int)) = false := rfl
    rw [hpv, if_pos ⟨rfl, fun h => by cases h.2⟩]
    have ht := tail_ok ((0 : Nat) : Int) w out hs hr (by omega)
    rw [hw] at ht
    have body : G_lex_Show_L1 l l ((l.length : Nat) : Int) (((0 : Nat) : Int), out) = some (Sum.inl (((0 + 1 : Nat) : Int), out ++ showW w)) := by
     rw [show_step]
     simp only [hlt, if_true, hc1, bind_some', hR, Bool.not_true, Bool.false_eq_true, if_false, hd0, ht]
    have := ih (out ++ showW w) (by simp only [List.length_append]; omega)
    rw [hpn] at this
    rw [loopO_inl body]
    cases hx : showF (some w) r with
    | none => rw [hx] at this; exact this
    | some s => rw [hx] at this; simp only [Option.map_some] at this ⊢; rw [this]; simp
   ·have hdi : decide ((0 : Int) < ((i : Nat) : Int)) = true := by simp only [decide_eq_true_eq]; omega
    have hwm : IntKind.wrap .i64 ((i : Int) - 1) = ((i - 1 : Nat) : Int) := by rw [wi (by omega) (by omega)]; omega
    obtain ⟨x, hx1⟩ : ∃ x, l[i - 1]? = some x := ⟨_, List.getElem?_eq_getElem (by omega)⟩
    have hxi : idx l ((i - 1 : Nat) : Int) = some x := by rw [idx_nat, hx1]
    have hpv : prevW l i = some x := by unfold prevW; rw [if_neg h0, hx1]
    rw [hpv]
    have a1 : app 1 out [(32 : UInt8)] = some (out ++ [32]) := app_some (by simp; omega)
    have ht := tail_ok ((i : Nat) : Int) w (out ++ [32]) hs hr (by simp; omega)
    rw [hw] at ht
    by_cases hbad : w.Kind_ = 4 ∧ x.Kind_ = 4
    ·rw [if_neg (fun h => h.2 ⟨hbad.1, by simp [hbad.2]⟩)]
     have k1 : (w.Kind_ == 4) = true := by simpa using hbad.1
     have k2 : (x.Kind_ == 4) = true := by simpa using hbad.2
     refine ⟨out, loopO_inr ?_⟩
     rw [show_step]
     simp only [hlt, if_true, hc1, bind_some', hR, Bool.not_true, Bool.false_eq_true, if_false, hdi, k1, k2, hwm, hxi]
    ·rw [if_pos ⟨rfl, fun h => hbad ⟨h.1, by simpa using h.2⟩⟩]
     have body : G_lex_Show_L1 l l ((l.length : Nat) : Int) ((i : Int), out) = some (Sum.inl (((i + 1 : Nat) : Int), out ++ [32] ++ showW w)) := by
      rw [show_step]
      by_cases k1 : w.Kind_ = 4
      ·have k1' : (w.Kind_ == 4) = true := by simpa using k1
       have k2' : (x.Kind_ == 4) = false := by
        rw [Bool.eq_false_iff]; intro h; exact hbad ⟨k1, by simpa using h⟩
       simp only [hlt, if_true, hc1, bind_some', hR, Bool.not_true, Bool.false_eq_true, if_false, hdi, k1', k2', hwm, hxi, a1, ht]
      ·have k1' : (w.Kind_ == 4) = false := by simpa using k1
       simp only [hlt, if_true, hc1, bind_some', hR, Bool.not_true, Bool.false_eq_true, if_false, hdi, k1', a1, ht]
     have := ih (out ++ [32] ++ showW w) (by simp only [List.length_append, List.length_singleton]; omega)
     rw [hpn] at this
     rw [loopO_inl body]
     cases hx : showF (some w) r with
     | none => rw [hx] at this; exact this
     | some s => rw [hx] at this; simp only [Option.map_some, Option.isSome_some, if_true] at this ⊢; rw [this]; simp
def showS (l : List T_api_Word) : Option Bytes := showF none l
def showR : Option Bytes → Bytes × Int
 | none => ([], 2)
 | some s => (s, 0)
theorem G_Show (l : List T_api_Word) (hl : WordsB l) : G_lex_Show l = some (showR (showS l)) := by
 have h := show_loop l hl 0 (Nat.zero_le _) [] (by simp)
 rw [List.drop_zero, show prevW l 0 = none from rfl] at h
 unfold G_lex_Show showS
 cases hx : showF none l with
 | none =>
  rw [hx] at h
  obtain ⟨v, hv⟩ := h
  have hv : loopO (G_lex_Show_L1 l l ((l.length : Nat) : Int)) ((0 : Int), ([] : Bytes)) = _ := hv
  rw [hv]; rfl
 | some s =>
  rw [hx] at h
  have h : loopO (G_lex_Show_L1 l l ((l.length : Nat) : Int)) ((0 : Int), ([] : Bytes)) = _ := h
  rw [h]; rfl

end Go.Proofs.YtmngkcpobmhnoaaGreatDoor.Sim.Pl
