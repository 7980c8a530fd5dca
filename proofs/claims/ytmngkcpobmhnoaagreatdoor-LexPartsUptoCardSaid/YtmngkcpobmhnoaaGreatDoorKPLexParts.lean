/- The plain law of LexParts. -/
import Derived.Test.YtmngkcpobmhnoaaGreatDoorKPLex5
set_option linter.all false
namespace Go.Proofs.YtmngkcpobmhnoaaGreatDoor.Sim.Pl
open Go.Proofs
def partsHead (a b : List T_api_Tok) : Option (Ex2 Bool Unit) :=
 if (decide ((0 : Int) < ((List.length a : Nat) : Int))) then
  if (decide ((0 : Int) < ((List.length b : Nat) : Int))) then
   idx a (IntKind.wrap .i64 (((List.length a : Nat) : Int) - (1 : Int))) >>= fun x28 =>
   if (x28.Kind_ == (4 : Int)) then
    idx b (0 : Int) >>= fun x31 =>
    if (x31.Kind_ == (4 : Int)) then
     some (Ex2.a true)
    else
     some (Ex2.b ())
   else
    some (Ex2.b ())
  else
   some (Ex2.b ())
 else
  some (Ex2.b ())
theorem parts_head (a b : List T_api_Tok) (ha : a.length ≤ 1000) : partsHead a b = some (Ex2.a true) ∨ (partsHead a b = some (Ex2.b ()) ∧ Apart a b) := by
 cases a with
 | nil => exact .inr ⟨rfl, fun x y h => by cases h⟩
 | cons t r =>
  cases b with
  | nil => exact .inr ⟨by unfold partsHead; simp, fun x y _ h => by cases h⟩
  | cons y b =>
   have h0 : decide ((0 : Int) < (((t :: r).length : Nat) : Int)) = true := by simp only [List.length_cons, decide_eq_true_eq]; omega
   have h1 : decide ((0 : Int) < (((y :: b).length : Nat) : Int)) = true := by simp only [List.length_cons, decide_eq_true_eq]; omega
   have hw : IntKind.wrap .i64 ((((t :: r).length : Nat) : Int) - 1) = ((r.length : Nat) : Int) := by rw [wi (by omega) (by omega)]; simp only [List.length_cons]; omega
   obtain ⟨x, hx⟩ : ∃ x, (t :: r).getLast? = some x := by
    cases h : (t :: r).getLast? with
    | none => simp at h
    | some x => exact ⟨x, rfl⟩
   have hi : idx (t :: r) ((r.length : Nat) : Int) = some x := by
    rw [idx_nat, ← hx, List.getLast?_eq_getElem?]; rfl
   unfold partsHead
   simp only [h0, h1, if_true, hw, hi, idx_0, bind_some']
   by_cases k1 : x.Kind_ = 4
   ·have k1' : (x.Kind_ == 4) = true := by simpa using k1
    rw [k1']
    by_cases k2 : y.Kind_ = 4
    ·have k2' : (y.Kind_ == 4) = true := by simpa using k2
     rw [k2']; exact .inl rfl
    ·have k2' : (y.Kind_ == 4) = false := by simpa using k2
     rw [k2']
     exact .inr ⟨rfl, fun x' y' e1 e2 h => by cases e2; exact k2 h.2⟩
   ·have k1' : (x.Kind_ == 4) = false := by simpa using k1
    rw [k1']
    exact .inr ⟨rfl, fun x' y' e1 e2 h => by rw [hx] at e1; cases e1; exact k1 h.1⟩
theorem mks_0 {T : Type} {by' n : Nat} {z : T} (h : by' * n ≤ 281474976710656) (h2 : n ≤ 5000000) : mks by' (0 : Int) (n : Int) z = some [] := by
 have h3 : ((by' : Nat) : Int) * ((n : Nat) : Int) ≤ 281474976710656 := by rw [← Int.natCast_mul]; omega
 unfold mks
 rw [if_pos ⟨by omega, by omega, h3, by omega⟩]; rfl
theorem lexParts_true (l : List T_api_Tok) (hl : l.length ≤ 1048576) (hs : ∀ t ∈ l, t.S_.length ≤ 1048576) (m : List T_api_Tok) (hm : m.length ≤ 1048576) (hms : ∀ t ∈ m, t.S_.length ≤ 1048576) :
  ∃ k : Nat, G_burinlaw07_LexParts l m = some true := by
 have hsub : ∀ l : List T_api_Tok, subT l (if (1000 : Int) < ((List.length l : Nat) : Int) then (1000 : Int) else ((List.length l : Nat) : Int)) = some (l.take 1000) := fun l => by
  split
  ·rename_i h; exact subT_nat (n := 1000) (by omega)
  ·rename_i h; rw [subT_len, List.take_of_length_le (by omega)]
 have hA : (l.take 1000).length ≤ 1000 := by rw [List.length_take]; exact Nat.min_le_left _ _
 have hB : (m.take 1000).length ≤ 1000 := by rw [List.length_take]; exact Nat.min_le_left _ _
 have hTA : ToksB (l.take 1000) := ⟨by omega, fun t ht => hs t (List.mem_of_mem_take ht)⟩
 have hTB : ToksB (m.take 1000) := ⟨by omega, fun t ht => hms t (List.mem_of_mem_take ht)⟩
 refine ⟨0, ?_⟩
 unfold G_burinlaw07_LexParts
 rw [show G_burinlaw07_shown = some true from rfl, bind_some', hsub l, bind_some', hsub m, bind_some']
 generalize l.take 1000 = a at hA hTA
 generalize m.take 1000 = b at hB hTB
 change (partsHead a b >>= fun j40 => _) = some true
 rcases parts_head a b hA with h | ⟨h, hap⟩
 ·rw [h]; rfl
 ·rw [h, bind_some']
  have hTC : ToksB (a ++ b) := ⟨by simp only [List.length_append]; omega, fun t ht => by
   rcases List.mem_append.1 ht with h | h
   ·exact hTA.2 t h
   ·exact hTB.2 t h⟩
  have h1 := G_Words a hTA
  have h2 := G_Words b hTB
  have h3 := G_Words (a ++ b) hTC
  have hw1 : IntKind.wrap .i64 (((a.length : Nat) : Int) + ((b.length : Nat) : Int)) = ((a.length + b.length : Nat) : Int) := by rw [wi (by omega) (by omega)]; omega
  have hm1 : mks 56 (0 : Int) ((a.length + b.length : Nat) : Int) (T_api_Tok.mk (0 : Int) [] [] (0 : Int) false false) = some [] := mks_0 (by omega) (by omega)
  have ha1 : app 56 ([] : List T_api_Tok) a = some a := app_some (by simp; omega)
  have ha2 : app 56 a b = some (a ++ b) := app_some (by omega)
  have hj := wordsS_app hap
  simp only [h1, h2, h3, hw1, hm1, ha1, ha2, bind_some']
  cases hx : wordsS a with
  | inr p =>
   obtain ⟨f, n⟩ := p
   rw [hj, hx]; rfl
  | inl wa =>
   cases hy : wordsS b with
   | inr p =>
    obtain ⟨f, n⟩ := p
    rw [hj, hx, hy]; rfl
   | inl wb =>
    have hwa : wa.length ≤ 1000 := by have := wordsK_len _ _ _ hx; omega
    have hwb : wb.length ≤ 1000 := by have := wordsK_len _ _ _ hy; omega
    have hwc : wordsS (a ++ b) = .inl (wa ++ wb) := by rw [hj, hx, hy]; rfl
    have hlc : (wa ++ wb).length ≤ 2000 := by simp only [List.length_append]; omega
    have hr := right_loop (wa ++ wb) (by omega) (right_words _ _ _ hTC hwc) 0 (Nat.zero_le _)
    have hr : loopO (G_burinlaw07_LexParts_L1 (wa ++ wb)) (0 : Int) = _ := hr
    have hw2 : IntKind.wrap .i64 (((wa.length : Nat) : Int) + ((wb.length : Nat) : Int)) = ((wa.length + wb.length : Nat) : Int) := by rw [wi (by omega) (by omega)]; omega
    have hm2 : mks 64 (0 : Int) ((wa.length + wb.length : Nat) : Int) (T_api_Word.mk (0 : Int) [] (0 : Int) (0 : Int) [] (0 : Int)) = some [] := mks_0 (by omega) (by omega)
    have ha3 : app 64 ([] : List T_api_Word) wa = some wa := app_some (by simp; omega)
    have ha4 : app 64 wa wb = some (wa ++ wb) := app_some (by omega)
    have hS := G_Same (wa ++ wb) (by omega)
    have e0 : (!((0 : Int) == 0)) = false := rfl
    have e1 : ((0 : Int) == 0) = true := rfl
    rw [hwc]
    simp only [wordsR, e1, Bool.not_true, Bool.false_eq_true, if_false, if_true, hr, bind_some', hw2, hm2, ha3, ha4, hS]
end Go.Proofs.YtmngkcpobmhnoaaGreatDoor.Sim.Pl
