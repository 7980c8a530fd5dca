/- Plain laws: which words are right, and how they are shown. -/
import Derived.Test.YtmngkcpobmhnoaaGreatDoorKPLex2
set_option linter.all false
namespace Go.Proofs.YtmngkcpobmhnoaaGreatDoor.Sim.Pl
open Go.Proofs

def liesS (v k : Int) : Bool :=
 if k = 5 then decide (-128 ≤ v) && decide (v < 2147483648) else if k = 6 then decide (0 ≤ v) && decide (v < 4294967296) else if k = 7 then decide (0 ≤ v) else decide (k = 8)
theorem shr_is (v : Int) : shr .i64 v 32 = some (v / 4294967296) := by
 have : shr .i64 v 32 = some (v.fdiv 4294967296) := rfl
 rw [this, Int.fdiv_eq_ediv_of_nonneg _ (by omega)]
theorem G_lies (v k : Int) : G_lex_lies v k = some (liesS v k) := by
 unfold G_lex_lies liesS
 by_cases k5 : k = 5
 ·have k5' : (k == 5) = true := by simpa using k5
  rw [k5', if_pos k5]
  simp only [if_true]
  cases decide ((-128 : Int) ≤ v) <;> rfl
 ·have k5' : (k == 5) = false := by simpa using k5
  rw [k5', if_neg k5]
  by_cases k6 : k = 6
  ·have k6' : (k == 6) = true := by simpa using k6
   rw [k6', if_pos k6, shr_is]
   simp only [if_true, Bool.false_eq_true, if_false, bind_some']
   congr 1
   rw [Bool.eq_iff_iff, beq_iff_eq, Bool.and_eq_true, decide_eq_true_eq, decide_eq_true_eq]; omega
  ·have k6' : (k == 6) = false := by simpa using k6
   rw [k6', if_neg k6]
   by_cases k7 : k = 7
   ·have k7' : (k == 7) = true := by simpa using k7
    rw [k7', if_pos k7]; rfl
   ·have k7' : (k == 7) = false := by simpa using k7
    rw [k7', if_neg k7]; rfl
def kindT (s : Bytes) : Int := match oneS s with
 | none => 0
 | some t => t.Kind_
def rightS (w : T_api_Word) : Bool :=
 if w.Kind_ = 3 then decide (w.S_ = []) && liesS w.V_ w.T_
 else if ¬ (w.V_ = 0 ∧ w.T_ = 0) then false
 else if w.Kind_ = 4 then decide (w.S_.length ≤ 4096)
 else if w.Kind_ = 1 then decide (w.S_ ∈ keysL)
 else if w.Kind_ = 2 then decide (kindT w.S_ = 1) && !decide (w.S_ ∈ keysL)
 else if w.Kind_ = 5 then decide (kindT w.S_ = 5) && !decide (w.S_ = [35] ∨ w.S_ = [35, 35])
 else false
theorem oneR_kind (s : Bytes) (k : Int) (hk : k ≠ 0) : ((oneR (oneS s)).2 && ((oneR (oneS s)).1.Kind_ == k)) = decide (kindT s = k) := by
 unfold kindT
 cases oneS s with
 | none => simp [oneR]; exact fun h => hk h.symm
 | some t => simp [oneR]; rw [Bool.eq_iff_iff]; simp
theorem G_Right (w : T_api_Word) (hs : w.S_.length ≤ 1048576) : G_lex_Right w = some (rightS w) := by
 unfold G_lex_Right rightS
 by_cases k3 : w.Kind_ = 3
 ·have k3' : (w.Kind_ == 3) = true := by simpa using k3
  rw [if_pos k3', if_pos k3, G_lies]
  by_cases hS : w.S_ = []
  ·have hS' : (w.S_ == []) = true := by simpa using hS
   simp only [hS, beq_self_eq_true, if_true, decide_true, Bool.true_and, bind_some']
  ·have hS' : (w.S_ == []) = false := by simpa using hS
   simp only [hS', hS, Bool.false_eq_true, if_false, decide_false, Bool.false_and]
 ·have k3' : ¬ (w.Kind_ == 3) = true := by simpa using k3
  rw [if_neg k3', if_neg k3]
  by_cases hV : w.V_ = 0
  ·have hV' : (!(w.V_ == 0)) = false := by simp [hV]
   by_cases hT : w.T_ = 0
   ·have hT' : (!(w.T_ == 0)) = false := by simp [hT]
    rw [if_neg (by simp [hV, hT] : ¬ ¬ (w.V_ = 0 ∧ w.T_ = 0))]
    simp only [hV', hT', Bool.false_eq_true, if_false, bind_some']
    by_cases k4 : w.Kind_ = 4
    ·have k4' : (w.Kind_ == 4) = true := by simpa using k4
     rw [if_pos k4', if_pos k4]
     congr 1
     rw [Bool.eq_iff_iff, decide_eq_true_eq, decide_eq_true_eq]; omega
    ·have k4' : ¬ (w.Kind_ == 4) = true := by simpa using k4
     rw [if_neg k4', if_neg k4, G_One w.S_ (by omega), bind_some']
     have h1 := oneR_kind w.S_ 1 (by decide)
     have h5 := oneR_kind w.S_ 5 (by decide)
     by_cases k1 : w.Kind_ = 1
     ·have k1' : (w.Kind_ == 1) = true := by simpa using k1
      rw [if_pos k1]
      simp only [k1', if_true, G_IsKey, bind_some']
     ·have k1' : (w.Kind_ == 1) = false := by simpa using k1
      rw [if_neg k1]
      by_cases k2 : w.Kind_ = 2
      ·have k2' : (w.Kind_ == 2) = true := by simpa using k2
       rw [if_pos k2]
       simp only [k1', k2', if_true, Bool.false_eq_true, if_false, G_IsKey, bind_some']
       rw [← h1]
       cases (oneR (oneS w.S_)).2 <;> cases ((oneR (oneS w.S_)).1.Kind_ == 1) <;> rfl
      ·have k2' : (w.Kind_ == 2) = false := by simpa using k2
       rw [if_neg k2]
       by_cases k5 : w.Kind_ = 5
       ·have k5' : (w.Kind_ == 5) = true := by simpa using k5
        rw [if_pos k5]
        simp only [k1', k2', k5', if_true, Bool.false_eq_true, if_false]
        rw [← h5]
        cases hone : oneS w.S_ with
        | none => rfl
        | some x =>
         simp only [oneR, if_true, Bool.true_and]
         by_cases kx : x.Kind_ = 5
         ·have kx' : (x.Kind_ == 5) = true := by simpa using kx
          have hm := one_punct hone kx
          obtain ⟨g1, g2⟩ := signs_hash _ hm
          simp only [kx', Bool.true_and, if_true]
          cases hS : w.S_ with
          | nil => exact absurd hS g1
          | cons c r =>
           rw [hS] at g2
           have q35 : ((c.toNat : Int) == 35) = (c == 35) := eqb (k := 35) (by decide)
           simp only [idx_0, bind_some', q35]
           congr 2
           rw [Bool.eq_iff_iff, beq_iff_eq, decide_eq_true_eq, ← g2]
           simp
         ·have kx' : (x.Kind_ == 5) = false := by simpa using kx
          simp only [kx', Bool.false_eq_true, if_false, Bool.false_and]
       ·have k5' : (w.Kind_ == 5) = false := by simpa using k5
        rw [if_neg k5]
        simp only [k1', k2', k5', Bool.false_eq_true, if_false]
   ·have hT' : (!(w.T_ == 0)) = true := by simpa using hT
    rw [if_pos (by simp [hT] : ¬ (w.V_ = 0 ∧ w.T_ = 0))]
    simp only [hV', hT', Bool.false_eq_true, if_false, if_true, bind_some']
  ·have hV' : (!(w.V_ == 0)) = true := by simpa using hV
   rw [if_pos (by simp [hV] : ¬ (w.V_ = 0 ∧ w.T_ = 0))]
   simp only [hV', if_true, bind_some']
def octD (c : UInt8) (n : Nat) : UInt8 := UInt8.ofNat (48 + c.toNat / n % 8)
def octS (c : UInt8) : Bytes := [92, octD c 64, octD c 8, octD c 1]
theorem oct6 (c : UInt8) : (shr .u8 (c.toNat : Int) 6 >>= fun i => b8 (IntKind.wrap .u8 ((48 : Int) + (band .u8 i (7 : Int))))) = some (octD c 64) := by
 revert c; refine all8 ?_; decide +kernel
theorem oct3 (c : UInt8) : (shr .u8 (c.toNat : Int) 3 >>= fun i => b8 (IntKind.wrap .u8 ((48 : Int) + (band .u8 i (7 : Int))))) = some (octD c 8) := by
 revert c; refine all8 ?_; decide +kernel
theorem oct0 (c : UInt8) : (shr .u8 (c.toNat : Int) 0 >>= fun i => b8 (IntKind.wrap .u8 ((48 : Int) + (band .u8 i (7 : Int))))) = some (octD c 1) := by
 revert c; refine all8 ?_; decide +kernel
theorem bind_assoc' {A B C : Type} {m : Option A} {f : A → Option B} {g : B → Option C} : ((m >>= f) >>= g) = (m >>= fun x => f x >>= g) := by cases m <;> rfl
theorem esc_loop (c : UInt8) (t : Bytes) (ht : t.length ≤ 60000000000000) : loopO (G_lex_Show_L3 (c.toNat : Int) ([(6 : Int), (3 : Int), (0 : Int)] : List Int) (3 : Int)) ((0 : Int), t) = some (t ++ [octD c 64, octD c 8, octD c 1]) := by
 have a1 : app 1 t [octD c 64] = some (t ++ [octD c 64]) := app_some (by simp; omega)
 have a2 : app 1 (t ++ [octD c 64]) [octD c 8] = some (t ++ [octD c 64] ++ [octD c 8]) := app_some (by simp; omega)
 have a3 : app 1 (t ++ [octD c 64] ++ [octD c 8]) [octD c 1] = some (t ++ [octD c 64] ++ [octD c 8] ++ [octD c 1]) := app_some (by simp; omega)
 have s : ∀ (i : Int) (t u : Bytes) (x : Int) (d : UInt8), decide (i < 3) = true → idx ([(6 : Int), (3 : Int), (0 : Int)] : List Int) i = some x →
   (shr .u8 (c.toNat : Int) x >>= fun i => b8 (IntKind.wrap .u8 ((48 : Int) + (band .u8 i (7 : Int))))) = some d → app 1 t [d] = some u →
   G_lex_Show_L3 (c.toNat : Int) ([(6 : Int), (3 : Int), (0 : Int)] : List Int) (3 : Int) (i, t) = some (Sum.inl (IntKind.wrap .i64 (i + 1), u)) := by
  intro i t u x d h1 h2 h3 h4
  simp only [G_lex_Show_L3, h1, if_true, h2, bind_some']
  rw [← bind_assoc', h3, bind_some', h4]; rfl
 rw [loopO_inl (s 0 t _ 6 _ rfl rfl (oct6 c) a1), show IntKind.wrap .i64 ((0 : Int) + 1) = 1 from rfl,
  loopO_inl (s 1 _ _ 3 _ rfl rfl (oct3 c) a2), show IntKind.wrap .i64 ((1 : Int) + 1) = 2 from rfl,
  loopO_inl (s 2 _ _ 0 _ rfl rfl (oct0 c) a3), show IntKind.wrap .i64 ((2 : Int) + 1) = 3 from rfl,
  loopO_inr (x := t ++ [octD c 64] ++ [octD c 8] ++ [octD c 1]) rfl]
 simp
end Go.Proofs.YtmngkcpobmhnoaaGreatDoor.Sim.Pl
