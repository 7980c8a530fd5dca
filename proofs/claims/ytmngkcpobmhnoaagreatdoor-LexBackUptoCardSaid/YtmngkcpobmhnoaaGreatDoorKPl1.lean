/- Tools of the plain laws: bounds of integers, places of lists, loops over a list's rests. -/
import Derived.Test.YtmngkcpobmhnoaaGreatDoorKG5
import Derived.Laws.RangeAny
set_option linter.all false
namespace Go.Proofs.YtmngkcpobmhnoaaGreatDoor.Sim.Pl

theorem wi {x : Int} (h1 : -9223372036854775808 ≤ x) (h2 : x ≤ 9223372036854775807) : IntKind.wrap .i64 x = x := by
 have e : IntKind.wrap .i64 x = (x + 9223372036854775808) % 18446744073709551616 - 9223372036854775808 := by simp [IntKind.wrap, IntKind.bits, IntKind.signed]; split <;> omega
 rw [e]; omega
theorem wu {x : Int} (h1 : 0 ≤ x) (h2 : x ≤ 18446744073709551615) : IntKind.wrap .u64 x = x := by
 have e : IntKind.wrap .u64 x = x % 18446744073709551616 := by simp [IntKind.wrap, IntKind.bits, IntKind.signed]
 rw [e]; omega
theorem wu_mod (x : Int) : IntKind.wrap .u64 x = x % 18446744073709551616 := by simp [IntKind.wrap, IntKind.bits, IntKind.signed]
theorem w8 {x : Int} (h1 : 0 ≤ x) (h2 : x ≤ 255) : IntKind.wrap .u8 x = x := by
 have e : IntKind.wrap .u8 x = x % 256 := by simp [IntKind.wrap, IntKind.bits, IntKind.signed]
 rw [e]; omega

section
variable {T : Type} {L : List T}
theorem idx_nat {n : Nat} : idx L (n : Int) = L[n]? := by simp [idx]
theorem idx_0 {x : T} : idx (x :: L) 0 = some x := by simp [idx]
theorem idx_1 {x y : T} : idx (x :: y :: L) 1 = some y := by simp [idx]
theorem idx_lt {i : Int} {j : Nat} {x : T} (h : L[j]? = some x) (e : i = j) : idx L i = some x := by subst e; rw [idx_nat, h]
theorem subF_nat {n : Nat} (h : n ≤ L.length) : subF L (n : Int) = some (L.drop n) := by simp [subF, h]
theorem subF_1 {x : T} : subF (x :: L) 1 = some L := by simp [subF]; omega
theorem subF_2 {x y : T} : subF (x :: y :: L) 2 = some L := by simp [subF]; omega
theorem subT_nat {n : Nat} (h : n ≤ L.length) : subT L (n : Int) = some (L.take n) := by simp [subT, h]
theorem subT_len : subT L (L.length : Int) = some L := by rw [subT_nat (Nat.le_refl _), List.take_length]
theorem subB_nat {m n : Nat} (h : m ≤ n) (h2 : n ≤ L.length) : subB L (m : Int) (n : Int) = some ((L.take n).drop m) := by
 simp [subB]; omega
theorem app_some {b : Nat} {M : List T} (h : (2 * (L.length + M.length) + 1000) * b ≤ 140737488355328) : app b L M = some (L ++ M) := by simp [app, h]
theorem bind_some' {A B : Type} {x : A} {f : A → Option B} : (some x >>= f) = f x := rfl
theorem rest_ind {s : List T} (P : Nat → List T → Prop) (h0 : P s.length [])
  (h1 : ∀ j c r, j < s.length → s[j]? = some c → s.drop j = c :: r → s.drop (j + 1) = r → P (j + 1) r → P j (c :: r)) : ∀ j, j ≤ s.length → P j (s.drop j) := by
 intro j hj
 generalize hk : s.length - j = k
 induction k generalizing j with
 | zero =>
  have : j = s.length := by omega
  subst this
  rw [List.drop_length]; exact h0
 | succ k ih =>
  have hlt : j < s.length := by omega
  have e := List.drop_eq_getElem_cons hlt
  rw [e]
  exact h1 j _ _ hlt (List.getElem?_eq_getElem hlt) e rfl (ih (j + 1) (by omega) (by omega))
end

theorem all8 {p : UInt8 → Prop} (h : ∀ n : Fin 256, p (UInt8.ofNat n.val)) (c : UInt8) : p c := by
 have := h ⟨c.toNat, c.toNat_lt⟩
 simpa using this
theorem toNat8 (c : UInt8) : (Int.toNat (c.toNat : Int)).toUInt8 = c := by simp
theorem eq8 (c : UInt8) (k : Nat) (hk : k < 256) : ((c.toNat : Int) == (k : Int)) = (c == UInt8.ofNat k) := by
 rw [Bool.eq_iff_iff, beq_iff_eq, beq_iff_eq]
 constructor
 ·intro h
  have h2 : c.toNat = k := by omega
  rw [← h2]; simp
 ·intro h
  rw [h]; simp; omega
theorem indexByte_nn' (s : List UInt8) (c : UInt8) : (decide ((0 : Int) ≤ Lib.indexByte s c)) = s.contains c := by
 rw [Bool.eq_iff_iff, decide_eq_true_eq]; exact indexByte_nn s c
end Go.Proofs.YtmngkcpobmhnoaaGreatDoor.Sim.Pl
/- Plain laws: numbers' digits, and what reading them comes to. -/
namespace Go.Proofs.YtmngkcpobmhnoaaGreatDoor.Sim.Pl

def hexv (c : UInt8) : Nat :=
 if 48 ≤ c.toNat ∧ c.toNat ≤ 57 then c.toNat - 48
 else if 97 ≤ c.toNat ∧ c.toNat ≤ 102 then c.toNat - 87
 else if 65 ≤ c.toNat ∧ c.toNat ≤ 70 then c.toNat - 55
 else 16
theorem hexv_le (c : UInt8) : hexv c ≤ 16 := by unfold hexv; split <;> (try split) <;> (try split) <;> omega

def pu (b most : Nat) : Nat → List UInt8 → Option Nat
 | v, [] => some v
 | v, c :: r => if most < v * b + hexv c then none else pu b most (v * b + hexv c) r

theorem pu_le {b most v w : Nat} {r : List UInt8} (hv : v ≤ most) (h : pu b most v r = some w) : w ≤ most := by
 induction r generalizing v with
 | nil => simp [pu] at h; omega
 | cons c r ih =>
  simp only [pu] at h
  split at h
  ·cases h
  ·exact ih (by omega) h

def isDig (b : Nat) (c : UInt8) : Bool := hexv c < b
def numGo (b : Nat) : Nat → List UInt8 → Option (Nat × Nat)
 | v, [] => some (v, 0)
 | v, c :: r => if hexv c < b then (if 18446744073709551615 < v * b + hexv c then none else (numGo b (v * b + hexv c) r).map fun p => (p.1, p.2 + 1)) else some (v, 0)
theorem numGo_pu (b v : Nat) (r : List UInt8) : numGo b v r = (pu b 18446744073709551615 v (r.takeWhile (isDig b))).map fun w => (w, (r.takeWhile (isDig b)).length) := by
 induction r generalizing v with
 | nil => rfl
 | cons c r ih =>
  by_cases h : hexv c < b
  ·have e : (c :: r).takeWhile (isDig b) = c :: r.takeWhile (isDig b) := by simp [List.takeWhile_cons, isDig, h]
   rw [e]
   simp only [numGo, pu, if_pos h]
   split
   ·rfl
   ·rw [ih]; simp only [Option.map_map]; rfl
  ·have e : (c :: r).takeWhile (isDig b) = [] := by simp [List.takeWhile_cons, isDig, h]
   rw [e]
   simp [numGo, pu, h]

end Go.Proofs.YtmngkcpobmhnoaaGreatDoor.Sim.Pl
/- Plain laws: strconv.ParseUint of digits. -/
namespace Go.Proofs.YtmngkcpobmhnoaaGreatDoor.Sim.Pl

def lowI (c : UInt8) : Int := bor .u8 (c.toNat : Int) 32
theorem pu_digit (c : UInt8) : hexv c < 16 →
  ((c.toNat : Int) == 95) = false ∧ ((48 ≤ (c.toNat : Int) ∧ (c.toNat : Int) ≤ 57 ∧ IntKind.wrap .u8 ((c.toNat : Int) - 48) = hexv c) ∨
   (¬ (48 ≤ (c.toNat : Int) ∧ (c.toNat : Int) ≤ 57) ∧ 97 ≤ lowI c ∧ lowI c ≤ 122 ∧ IntKind.wrap .u8 (IntKind.wrap .u8 (lowI c - 97) + 10) = hexv c)) := by
 revert c
 refine all8 ?_
 unfold lowI
 decide +kernel

theorem pu_step (b most : Nat) (hb : 2 ≤ b) (hb2 : b ≤ 16) (hm : most ≤ 18446744073709551615) (b0 : Bool) (cut : Int) (hcut : ∀ v : Nat, v ≤ 18446744073709551615 → (cut ≤ (v : Int) ↔ 18446744073709551615 < v * b))
  (s : Bytes) (hs : s.length ≤ 1099511627776) (hd : ∀ c ∈ s, hexv c < b) :
  ∀ j, j ≤ s.length → ∀ v : Nat, v ≤ most → loopO (G_internal_strconv_ParseUint_L1 b b0 cut most s (s.length : Int)) (false, (v : Int), (j : Int)) =
   some (match pu b most v (s.drop j) with | none => Ex2.a ((most : Int), Ifc.int 145 .i64 1) | some w => Ex2.b (false, (w : Int))) := by
 refine rest_ind (P := fun j r => ∀ v : Nat, v ≤ most → loopO (G_internal_strconv_ParseUint_L1 b b0 cut most s (s.length : Int)) (false, (v : Int), (j : Int)) =
   some (match pu b most v r with | none => Ex2.a ((most : Int), Ifc.int 145 .i64 1) | some w => Ex2.b (false, (w : Int)))) ?_ ?_
 ·intro v hv
  rw [loopO_inr (x := Ex2.b (false, (v : Int)))]
  ·simp [pu]
  ·simp [G_internal_strconv_ParseUint_L1]
 ·intro j c r hj hc e1 e2 ih v hv
  have hcs : hexv c < b := hd c (List.mem_of_getElem? hc)
  have hlt : (j : Int) < (s.length : Int) := by omega
  have hc1 : idx s (j : Int) = some c := by rw [idx_nat, hc]
  obtain ⟨k1, k2⟩ := pu_digit c (by omega)
  have hb3 : IntKind.wrap .u8 (b : Int) = b := w8 (by omega) (by omega)
  have q6 : ((v * b : Nat) : Int) = (v : Int) * (b : Int) := Int.natCast_mul _ _
  have hb4 : ¬ (b : Int) ≤ (hexv c : Int) := by omega
  have hh : IntKind.wrap .u64 (hexv c : Int) = hexv c := wu (by omega) (by have := hexv_le c; omega)
  have hbw : IntKind.wrap .u64 (b : Int) = b := wu (by omega) (by omega)
  have key : ∀ y, (if cut ≤ (v : Int) then some (Sum.inr (Ex2.a ((most : Int), Ifc.int 145 .i64 1))) else
    if IntKind.wrap .u64 (IntKind.wrap .u64 ((v : Int) * b) + hexv c) < IntKind.wrap .u64 ((v : Int) * b) then some (Sum.inr (Ex2.a ((most : Int), Ifc.int 145 .i64 1))) else
    if (most : Int) < IntKind.wrap .u64 (IntKind.wrap .u64 ((v : Int) * b) + hexv c) then some (Sum.inr (Ex2.a ((most : Int), Ifc.int 145 .i64 1))) else
     some (Sum.inl (false, IntKind.wrap .u64 (IntKind.wrap .u64 ((v : Int) * b) + hexv c), IntKind.wrap .i64 ((j : Int) + 1))) : Option ((Bool × Int × Int) ⊕ (Ex2 (Int × Ifc) (Bool × Int)))) = y →
    y = if most < v * b + hexv c then some (Sum.inr (Ex2.a ((most : Int), Ifc.int 145 .i64 1))) else some (Sum.inl (false, ((v * b + hexv c : Nat) : Int), ((j + 1 : Nat) : Int))) := by
   rintro y rfl
   have hx := hexv_le c
   by_cases hc2 : 18446744073709551615 < v * b
   ·rw [if_pos ((hcut v (by omega)).2 hc2), if_pos (by omega)]
   ·rw [if_neg (fun h => hc2 ((hcut v (by omega)).1 h))]
    have w1 : IntKind.wrap .u64 ((v : Int) * b) = ((v * b : Nat) : Int) := by rw [q6]; exact wu (by omega) (by omega)
    rw [w1]
    by_cases ho : 18446744073709551615 < v * b + hexv c
    ·have w2 : IntKind.wrap .u64 (((v * b : Nat) : Int) + hexv c) = ((v * b : Nat) : Int) + hexv c - 18446744073709551616 := by rw [wu_mod]; omega
     rw [w2, if_pos (by omega), if_pos (by omega)]
    ·rw [wu (by omega) (by omega), if_neg (by omega), wi (by omega) (by omega)]
     by_cases hm2 : most < v * b + hexv c
     ·rw [if_pos hm2, if_pos (by omega)]
     ·rw [if_neg hm2, if_neg (by omega)]; rfl
  have body : G_internal_strconv_ParseUint_L1 b b0 cut most s (s.length : Int) (false, (v : Int), (j : Int)) =
    if most < v * b + hexv c then some (Sum.inr (Ex2.a ((most : Int), Ifc.int 145 .i64 1))) else some (Sum.inl (false, ((v * b + hexv c : Nat) : Int), ((j + 1 : Nat) : Int))) := by
   refine key _ ?_
   simp only [G_internal_strconv_ParseUint_L1, hlt, decide_true, if_true, hc1, bind_some', k1, Bool.false_eq_true, if_false, G_internal_strconv_lower, decide_eq_true_eq]
   rcases k2 with ⟨a1, a2, a3⟩ | ⟨a1, a2, a3, a4⟩
   ·simp only [a1, a2, a3, hb3, hb4, hh, hbw, if_true, if_false, decide_true, bind_some']
   ·have a5 : (if (48 : Int) ≤ (c.toNat : Int) then some (decide ((c.toNat : Int) ≤ 57)) else some false) = some false := by
     split
     ·rename_i h1; simp; omega
     ·rfl
    unfold lowI at a2 a3 a4
    simp only [a5, a2, a3, a4, hb3, hb4, hh, hbw, if_true, if_false, decide_true, bind_some', Bool.false_eq_true]
  by_cases hm2 : most < v * b + hexv c
  ·rw [if_pos hm2] at body
   rw [loopO_inr body]
   simp [pu, hm2]
  ·rw [if_neg hm2] at body
   rw [loopO_inl body, ih _ (by omega)]
   simp [pu, hm2]

theorem eqI_n {a b : Int} : eqI [145] (Ifc.int 145 .i64 a) (Ifc.int 145 .i64 b) = some (a == b) := by
 simp [eqI, Ifc.pv, eqP]
theorem G_ParseUint (b bits most : Nat) (hb : b = 8 ∨ b = 10 ∨ b = 16) (hbits : bits = 8 ∧ most = 255 ∨ bits = 64 ∧ most = 18446744073709551615) (s : Bytes) (hs : s.length ≤ 16777216) (hd : ∀ c ∈ s, hexv c < b) :
  ∃ (v : Int) (e : Ifc), G_strconv_ParseUint s b bits = some (v, e) ∧ (if s = [] then e.isNil = false else match pu b most 0 s with | none => e.isNil = false | some w => v = (w : Int) ∧ e.isNil = true) := by
 have hcl : oClone s = some s := by simp [oClone, small]; omega
 by_cases h0 : s = []
 ·subst h0
  refine ⟨0, Ifc.opq, ?_, rfl⟩
  simp [G_strconv_ParseUint, G_internal_strconv_ParseUint, G_strconv_toError, eqI_n, Ifc.isNil, hcl]
 ·simp only [h0, if_false]
  have e0 : (s == ([] : Bytes)) = false := by simpa using h0
  have key : ∀ (B K : Int) (cut mx : Int), B = (b : Int) → K = (bits : Int) → mx = (most : Int) → (∀ v : Nat, v ≤ 18446744073709551615 → (cut ≤ (v : Int) ↔ 18446744073709551615 < v * b)) →
    (∀ L, L = loopO (G_internal_strconv_ParseUint_L1 B false cut mx s (s.length : Int)) (false, 0, 0) → G_internal_strconv_ParseUint s b bits = (L >>= fun q300 => match q300 with
       | .a (v286, v287) => some (v286, v287)
       | .b (underscores_293, n_294) =>
        if underscores_293 then
         G_internal_strconv_underscoreOK s >>= fun r308 =>
         if (!r308) then
          some ((0 : Int), (Ifc.int 145 .i64 (2 : Int)))
         else
          some (n_294, Ifc.nil)
        else
         some (n_294, Ifc.nil))) →
    ∃ (v : Int) (e : Ifc), G_strconv_ParseUint s b bits = some (v, e) ∧ (match pu b most 0 s with | none => e.isNil = false | some w => v = (w : Int) ∧ e.isNil = true) := by
   rintro B K cut mx rfl rfl rfl hcut hG
   have hG := hG _ rfl
   have st := pu_step b most (by omega) (by omega) (by omega) false cut hcut s (by omega) hd 0 (Nat.zero_le _) 0 (Nat.zero_le _)
   rw [List.drop_zero] at st
   rw [show (((0 : Nat) : Int)) = 0 from rfl] at st
   rw [st, bind_some'] at hG
   cases hp : pu b most 0 s with
   | none =>
    rw [hp] at hG
    refine ⟨_, _, by rw [G_strconv_ParseUint, hG]; simp [bind_some', Ifc.isNil, G_strconv_toError, eqI_n, hcl]; exact ⟨rfl, rfl⟩, rfl⟩
   | some w =>
    rw [hp] at hG
    exact ⟨(w : Int), Ifc.nil, by rw [G_strconv_ParseUint, hG]; simp [bind_some', Ifc.isNil], rfl, rfl⟩
  rcases hb with rfl | rfl | rfl <;> rcases hbits with ⟨rfl, rfl⟩ | ⟨rfl, rfl⟩
  ·exact key 8 8 2305843009213693952 255 rfl rfl rfl (by intro v hv; omega) (fun L hL => by simp [G_internal_strconv_ParseUint, e0, h0, quo, shl, IntKind.wrap, IntKind.bits, IntKind.signed, hL]; rfl)
  ·exact key 8 64 2305843009213693952 18446744073709551615 rfl rfl rfl (by intro v hv; omega) (fun L hL => by simp [G_internal_strconv_ParseUint, e0, h0, quo, shl, IntKind.wrap, IntKind.bits, IntKind.signed, hL]; rfl)
  ·exact key 10 8 1844674407370955162 255 rfl rfl rfl (by intro v hv; omega) (fun L hL => by simp [G_internal_strconv_ParseUint, e0, h0, quo, shl, IntKind.wrap, IntKind.bits, IntKind.signed, hL]; rfl)
  ·exact key 10 64 1844674407370955162 18446744073709551615 rfl rfl rfl (by intro v hv; omega) (fun L hL => by simp [G_internal_strconv_ParseUint, e0, h0, quo, shl, IntKind.wrap, IntKind.bits, IntKind.signed, hL]; rfl)
  ·exact key 16 8 1152921504606846976 255 rfl rfl rfl (by intro v hv; omega) (fun L hL => by simp [G_internal_strconv_ParseUint, e0, h0, quo, shl, IntKind.wrap, IntKind.bits, IntKind.signed, hL]; rfl)
  ·exact key 16 64 1152921504606846976 18446744073709551615 rfl rfl rfl (by intro v hv; omega) (fun L hL => by simp [G_internal_strconv_ParseUint, e0, h0, quo, shl, IntKind.wrap, IntKind.bits, IntKind.signed, hL]; rfl)
end Go.Proofs.YtmngkcpobmhnoaaGreatDoor.Sim.Pl
/- Plain laws: the small letters of texts, numbers' suffixes. -/
namespace Go.Proofs.YtmngkcpobmhnoaaGreatDoor.Sim.Pl
open Go.Proofs

theorem lookupIdx_in (T : Array Lib.CaseRow) (r : Int) (f lo hi i : Nat) (h : Lib.lookupIdx T r f lo hi = some i) :
  ((T.getD i (0, 0, 0, 0, 0)).1 : Int) ≤ r ∧ r ≤ ((T.getD i (0, 0, 0, 0, 0)).2.1 : Int) := by
 induction f generalizing lo hi with
 | zero => simp [Lib.lookupIdx] at h
 | succ f ih =>
  simp only [Lib.lookupIdx] at h
  split at h
  ·split at h
   ·rename_i h2; cases h; exact h2
   ·split at h
    ·exact ih _ _ h
    ·exact ih _ _ h
  ·cases h

def rowOK (x : Lib.CaseRow) : Bool :=
 if x.2.2.2.1 > 1114111 then decide (128 ≤ x.1)
 else [(108 : Int), 117].all (fun t => ! (decide (128 ≤ t - x.2.2.2.1) && decide ((x.1 : Int) ≤ t - x.2.2.2.1) && decide (t - x.2.2.2.1 ≤ x.2.1))) && decide (0 ≤ max 128 (x.1 : Int) + x.2.2.2.1)
theorem rows_ok : Lib.caseT.all rowOK = true := by decide +kernel

theorem toLowerU_high (r : Int) (h : 128 ≤ r) : 0 ≤ Lib.toLowerU r ∧ Lib.toLowerU r ≠ 108 ∧ Lib.toLowerU r ≠ 117 := by
 have e : ¬ r ≤ 127 := by omega
 unfold Lib.toLowerU
 rw [if_neg e]
 unfold Lib.toR
 cases hl : Lib.lookupGo Lib.caseA r (Lib.caseA.size + 1) 0 Lib.caseA.size with
 | none => exact ⟨by show 0 ≤ r; omega, by show r ≠ 108; omega, by show r ≠ 117; omega⟩
 | some x =>
  obtain ⟨i, hi, rfl⟩ := Option.map_eq_some_iff.1 hl
  obtain ⟨h1, h2⟩ := lookupIdx_in _ _ _ _ _ _ hi
  have hsz : i < Lib.caseT.length := by
   by_cases hc : i < Lib.caseT.length
   ·exact hc
   ·have : Lib.caseA.getD i (0, 0, 0, 0, 0) = (0, 0, 0, 0, 0) := by simp [Lib.caseA, Array.getD, hc]
    rw [this] at h2
    have h3 : ((0, 0, 0, 0, 0) : Lib.CaseRow).2.1 = 0 := rfl
    rw [h3] at h2
    omega
  have hx : Lib.caseA.getD i (0, 0, 0, 0, 0) = Lib.caseT[i] := by simp [Lib.caseA, Array.getD, hsz]
  have hok := List.all_eq_true.1 rows_ok _ (List.getElem_mem hsz)
  rw [hx] at h1 h2 ⊢
  generalize Lib.caseT[i] = x at h1 h2 hok
  show 0 ≤ Lib.convertR 1 r x ∧ Lib.convertR 1 r x ≠ 108 ∧ Lib.convertR 1 r x ≠ 117
  unfold Lib.convertR
  have ed : Lib.CaseRow.delta x 1 = x.2.2.2.1 := rfl
  rw [ed]
  unfold rowOK at hok
  split
  ·rename_i hd
   rw [if_pos hd] at hok
   have := of_decide_eq_true hok
   refine ⟨?_, ?_, ?_⟩ <;> omega
  ·rename_i hd
   rw [if_neg hd] at hok
   simp only [List.all_cons, List.all_nil, Bool.and_true, Bool.and_eq_true, Bool.not_eq_true', Bool.and_eq_false_iff, decide_eq_false_iff_not, decide_eq_true_eq] at hok
   obtain ⟨⟨a, b⟩, c⟩ := hok
   refine ⟨?_, ?_, ?_⟩ <;> omega

theorem encodeRune_head (v : Int) (h : 0 ≤ v) (h1 : v ≠ 108) (h2 : v ≠ 117) : ∃ x t, Lib.encodeRune v = x :: t ∧ x ≠ 108 ∧ x ≠ 117 := by
 have key : ∀ (y : Int) (l : List Int), 0 ≤ y → y ≤ 255 → y ≠ 108 → y ≠ 117 → Lib.encodeRuneZ v = y :: l → ∃ x t, Lib.encodeRune v = x :: t ∧ x ≠ 108 ∧ x ≠ 117 := by
  intro y l y0 y1 y2 y3 e
  refine ⟨y.toNat.toUInt8, _, by rw [Lib.encodeRune, e, List.map_cons], ?_, ?_⟩
  ·intro hc
   have := congrArg UInt8.toNat hc
   simp at this; omega
  ·intro hc
   have := congrArg UInt8.toNat hc
   simp at this; omega
 by_cases c1 : v ≤ 127
 ·exact key v [] h (by omega) h1 h2 (Lib.encodeRuneZ_one h c1)
 by_cases c2 : v ≤ 2047
 ·exact key _ _ (by omega) (by omega) (by omega) (by omega) (Lib.encodeRuneZ_two (by omega) c2)
 by_cases c3 : (2048 ≤ v ∧ v < 55296) ∨ (57343 < v ∧ v ≤ 65535)
 ·exact key _ _ (by omega) (by omega) (by omega) (by omega) (Lib.encodeRuneZ_three c3)
 by_cases c4 : 65536 ≤ v ∧ v ≤ 1114111
 ·exact key _ _ (by omega) (by omega) (by omega) (by omega) (Lib.encodeRuneZ_four c4.1 c4.2)
 ·refine key 239 [191, 189] (by omega) (by omega) (by omega) (by omega) ?_
  unfold Lib.encodeRuneZ
  rw [if_neg (by omega), if_neg (by omega), if_neg c3, if_neg c4]

def lowB (c : UInt8) : UInt8 := if 65 ≤ c.toNat ∧ c.toNat ≤ 90 then c + 32 else c
theorem low_ascii (c : UInt8) : c.toNat < 128 → Lib.encodeRune (Lib.toLowerU (c.toNat : Int)) = [lowB c] ∧ 0 ≤ Lib.toLowerU (c.toNat : Int) := by
 revert c
 refine all8 ?_
 decide +kernel
theorem mapGoD_succ (f : Int → Int) (n : Nat) (l : List UInt8) : Lib.mapGoD f (n + 1) l = if l = [] then [] else
   (if 0 ≤ f (Lib.decodeL l).1 then Lib.encodeRune (f (Lib.decodeL l).1) else []) ++ Lib.mapGoD f n (l.drop (Lib.decodeL l).2) := rfl
theorem toLowerD_ascii (c : UInt8) (r : List UInt8) (h : c.toNat < 128) : Lib.toLowerD (c :: r) = lowB c :: Lib.toLowerD r := by
 have hd : Lib.decodeL (c :: r) = (c.toNat, 1) := by
  unfold Lib.decodeL
  exact decode_ascii ⟨(c :: r).toArray⟩ 0 (by simp [ByteArray.size]) h
 obtain ⟨h1, h2⟩ := low_ascii c h
 show Lib.mapGoD Lib.toLowerU (r.length + 1) (c :: r) = lowB c :: Lib.mapGoD Lib.toLowerU r.length r
 rw [mapGoD_succ, if_neg (by simp), hd]
 simp only []
 rw [if_pos h2, h1]
 rfl
theorem toLowerD_high (c : UInt8) (r : List UInt8) (h : ¬ c.toNat < 128) : ∃ x t, Lib.toLowerD (c :: r) = x :: t ∧ x ≠ 108 ∧ x ≠ 117 := by
 have hd : 128 ≤ (Lib.decodeL (c :: r)).1 := by
  unfold Lib.decodeL
  exact (decode_high ⟨(c :: r).toArray⟩ 0 (by simp [ByteArray.size]) (by show 128 ≤ c.toNat; omega)).1
 obtain ⟨k0, k1, k2⟩ := toLowerU_high ((Lib.decodeL (c :: r)).1 : Int) (by omega)
 obtain ⟨x, t, e, e1, e2⟩ := encodeRune_head _ k0 k1 k2
 refine ⟨x, t ++ Lib.mapGoD Lib.toLowerU r.length (List.drop (Lib.decodeL (c :: r)).2 (c :: r)), ?_, e1, e2⟩
 show Lib.mapGoD Lib.toLowerU (r.length + 1) (c :: r) = _
 rw [mapGoD_succ, if_neg (by simp), if_pos k0, e]
 rfl
theorem lowB_high (c : UInt8) : ¬ c.toNat < 128 → lowB c ≠ 108 ∧ lowB c ≠ 117 := by
 revert c
 refine all8 ?_
 decide +kernel
theorem toLowerD_nil : Lib.toLowerD [] = [] := rfl
theorem toLowerD_eq (s w : List UInt8) (hw : ∀ x ∈ w, x = 108 ∨ x = 117) : Lib.toLowerD s = w ↔ s.map lowB = w := by
 induction s generalizing w with
 | nil => simp [toLowerD_nil]
 | cons c r ih =>
  by_cases h : c.toNat < 128
  ·rw [toLowerD_ascii c r h, List.map_cons]
   cases w with
   | nil => simp
   | cons x w =>
    simp only [List.cons.injEq]
    rw [ih w (fun y hy => hw y (List.mem_cons_of_mem _ hy))]
  ·obtain ⟨x, t, e, e1, e2⟩ := toLowerD_high c r h
   obtain ⟨f1, f2⟩ := lowB_high c h
   rw [e, List.map_cons]
   constructor
   ·intro h2
    subst h2
    rcases hw x List.mem_cons_self with h3 | h3
    ·exact absurd h3 e1
    ·exact absurd h3 e2
   ·intro h2
    subst h2
    rcases hw _ List.mem_cons_self with h3 | h3
    ·exact absurd h3 f1
    ·exact absurd h3 f2

def sufL : List (List UInt8) := [[], [117], [85], [108], [76], [108, 108], [76, 76], [117, 108], [117, 76], [85, 108], [85, 76], [108, 117], [108, 85], [76, 117], [76, 85],
 [117, 108, 108], [117, 76, 76], [85, 108, 108], [85, 76, 76], [108, 108, 117], [108, 108, 85], [76, 76, 117], [76, 76, 85]]
def sufS (s : List UInt8) : Option Bool := if s ∈ sufL then some (s.any fun c => c == 117 || c == 85) else none

theorem lowB_cases (c : UInt8) : (lowB c = 117 ∧ (c = 117 ∨ c = 85)) ∨ (lowB c = 108 ∧ (c = 108 ∨ c = 76)) ∨ (lowB c ≠ 117 ∧ lowB c ≠ 108 ∧ c ≠ 117 ∧ c ≠ 85 ∧ c ≠ 108 ∧ c ≠ 76) := by
 revert c
 refine all8 ?_
 decide +kernel
def lowL : List (List UInt8) := [[], [117], [108], [108, 108], [117, 108], [117, 108, 108], [108, 117], [108, 108, 117]]
theorem G_isSuffix (s : List UInt8) (hs : s.length ≤ 16777216) : G_cond_isSuffix s = some (if s.map lowB ∈ lowL then ((!Lib.contains s [108, 76] && !Lib.contains s [76, 108]), Lib.contains (s.map lowB) [117]) else (false, false)) := by
 have h0 : small s = true := by simp [small]; omega
 have key : ∀ w ∈ lowL, (Lib.toLowerD s == w) = decide (s.map lowB = w) := by
  intro w hw
  rw [Bool.eq_iff_iff, beq_iff_eq, decide_eq_true_eq]
  refine toLowerD_eq s w ?_
  revert w
  decide
 have hin : (Lib.toLowerD s ∈ lowL ↔ s.map lowB ∈ lowL) := by
  constructor
  ·intro h
   have := key _ h
   simp at this
   rw [this]; exact h
  ·intro h
   have := key _ h
   simp at this
   rw [this]; exact h
 have heq : s.map lowB ∈ lowL → Lib.toLowerD s = s.map lowB := by
  intro h
  have := key _ h
  simpa using this
 have hc : ∀ u, oContains s u = some (Lib.contains s u) := fun u => by simp [oContains, h0]
 have hl : oToLower s = some (Lib.toLowerD s) := by simp [oToLower, h0]
 by_cases h : s.map lowB ∈ lowL
 ·have e := heq h
  rw [if_pos h]
  have hsm : s.length ≤ 3 := by
   have h2 : (s.map lowB).length ≤ 3 := by
    generalize s.map lowB = w at h
    revert w; decide
   simpa using h2
  have hc2 : ∀ u, oContains (s.map lowB) u = some (Lib.contains (s.map lowB) u) := fun u => by simp [oContains, small]; omega
  have hv : (if (s.map lowB == ([] : Bytes)) then some true else if (s.map lowB == ([117] : Bytes)) then some true else if (s.map lowB == ([108] : Bytes)) then some true else
    if (s.map lowB == ([108, 108] : Bytes)) then some true else if (s.map lowB == ([117, 108] : Bytes)) then some true else if (s.map lowB == ([117, 108, 108] : Bytes)) then some true else
    if (s.map lowB == ([108, 117] : Bytes)) then some true else some (s.map lowB == ([108, 108, 117] : Bytes))) = some true := by
   generalize s.map lowB = w at h
   revert w; decide
  rw [G_cond_isSuffix, hl, e]
  simp only [bind_some', hv, hc, hc2, if_true]
  cases Lib.contains s [108, 76] <;> rfl
 ·rw [if_neg h]
  have hn : Lib.toLowerD s ∉ lowL := fun h2 => h (hin.1 h2)
  rw [G_cond_isSuffix, hl]
  simp only [lowL, List.mem_cons, List.not_mem_nil, or_false, not_or] at hn
  obtain ⟨n1, n2, n3, n4, n5, n6, n7, n8⟩ := hn
  simp [n1, n2, n3, n4, n5, n6, n7, n8]

theorem sufP_ok (s : List UInt8) : ((if s.map lowB ∈ lowL then ((!Lib.contains s [108, 76] && !Lib.contains s [76, 108]), Lib.contains (s.map lowB) [117]) else (false, false)) : Bool × Bool) =
  match sufS s with | none => (false, if s.map lowB ∈ lowL then Lib.contains (s.map lowB) [117] else false) | some u => (true, u) := by
 by_cases h : s.map lowB ∈ lowL
 ·rw [if_pos h, if_pos h]
  have hsm : s.length ≤ 3 := by
   have h2 : (s.map lowB).length ≤ 3 := by
    generalize s.map lowB = w at h
    revert w; decide
   simpa using h2
  match s, hsm with
  | [], _ => decide
  | [a], _ =>
   rcases lowB_cases a with ⟨e, rfl | rfl⟩ | ⟨e, rfl | rfl⟩ | ⟨e1, e2, _⟩
   ·decide
   ·decide
   ·decide
   ·decide
   ·simp [lowL, e1, e2] at h
  | [a, b], _ =>
   rcases lowB_cases a with ⟨e, ha⟩ | ⟨e, ha⟩ | ⟨e1, e2, _⟩
   ·rcases lowB_cases b with ⟨e', hb⟩ | ⟨e', hb⟩ | ⟨e1, e2, _⟩
    ·simp [lowL, e, e'] at h
    ·rcases ha with rfl | rfl <;> rcases hb with rfl | rfl <;> decide
    ·simp [lowL, e1, e2] at h
   ·rcases lowB_cases b with ⟨e', hb⟩ | ⟨e', hb⟩ | ⟨e1, e2, _⟩
    ·rcases ha with rfl | rfl <;> rcases hb with rfl | rfl <;> decide
    ·rcases ha with rfl | rfl <;> rcases hb with rfl | rfl <;> decide
    ·simp [lowL, e1, e2] at h
   ·simp [lowL, e1, e2] at h
  | [a, b, c], _ =>
   rcases lowB_cases a with ⟨e, ha⟩ | ⟨e, ha⟩ | ⟨e1, e2, _⟩
   ·rcases lowB_cases b with ⟨e', hb⟩ | ⟨e', hb⟩ | ⟨e1, e2, _⟩
    ·simp [lowL, e, e'] at h
    ·rcases lowB_cases c with ⟨e2, hc⟩ | ⟨e2, hc⟩ | ⟨e1, e2, _⟩
     ·simp [lowL, e, e', e2] at h
     ·rcases ha with rfl | rfl <;> rcases hb with rfl | rfl <;> rcases hc with rfl | rfl <;> decide
     ·simp [lowL, e1, e2] at h
    ·simp [lowL, e1, e2] at h
   ·rcases lowB_cases b with ⟨e', hb⟩ | ⟨e', hb⟩ | ⟨e1, e2, _⟩
    ·simp [lowL, e, e'] at h
    ·rcases lowB_cases c with ⟨e2, hc⟩ | ⟨e2, hc⟩ | ⟨e1, e2, _⟩
     ·rcases ha with rfl | rfl <;> rcases hb with rfl | rfl <;> rcases hc with rfl | rfl <;> decide
     ·simp [lowL, e, e', e2] at h
     ·simp [lowL, e1, e2] at h
    ·simp [lowL, e1, e2] at h
   ·simp [lowL, e1, e2] at h
  | a :: b :: c :: d :: r, h2 => simp at h2
 ·rw [if_neg h, if_neg h]
  have : sufS s = none := by
   unfold sufS
   rw [if_neg]
   intro h2
   have k : ∀ s ∈ sufL, s.map lowB ∈ lowL := by decide
   exact h (k s h2)
  rw [this]
theorem G_isSuffix' (s : List UInt8) (hs : s.length ≤ 16777216) : ∃ u, G_cond_isSuffix s = some (match sufS s with | none => (false, u) | some v => (true, v)) := by
 rw [G_isSuffix s hs, sufP_ok]
 cases sufS s with
 | none => exact ⟨_, rfl⟩
 | some v => exact ⟨false, rfl⟩

theorem eq8' {c : UInt8} {k : Nat} (hk : k < 256) : (c.toNat : Int) = (k : Int) ↔ c = UInt8.ofNat k := by
 have := eq8 c k hk
 rw [Bool.eq_iff_iff, beq_iff_eq, beq_iff_eq] at this
 exact this
end Go.Proofs.YtmngkcpobmhnoaaGreatDoor.Sim.Pl
/- Plain laws: which number a text is: the program's answer and the document's. -/
namespace Go.Proofs.YtmngkcpobmhnoaaGreatDoor.Sim.Pl
open Go.Proofs

theorem bitLenAux_le (f x k : Nat) (h : x < 2 ^ f) : Lib.bitLenAux f x ≤ k ↔ x < 2 ^ k := by
 induction f generalizing x k with
 | zero =>
  have : x = 0 := by simpa using h
  subst this
  simp [Lib.bitLenAux, Nat.two_pow_pos]
 | succ f ih =>
  simp only [Lib.bitLenAux]
  split
  ·rename_i h0; subst h0; simp [Nat.two_pow_pos]
  ·rename_i h0
   cases k with
   | zero => simp; omega
   | succ k =>
    have := ih (x / 2) k (by rw [Nat.pow_succ] at h; omega)
    rw [Nat.pow_succ]
    omega
theorem bitLen_64 (v : Nat) (h : v ≤ 18446744073709551615) : ((Lib.bitLen v : Int) == 64) = decide (9223372036854775808 ≤ v) := by
 have h1 := bitLenAux_le 64 v 63 (by omega)
 have h2 := bitLenAux_le 64 v 64 (by omega)
 rw [Bool.eq_iff_iff, beq_iff_eq, decide_eq_true_eq]
 unfold Lib.bitLen
 have e : (2 : Nat) ^ 63 = 9223372036854775808 := by decide
 have e2 : (2 : Nat) ^ 64 = 18446744073709551616 := by decide
 rw [e] at h1
 rw [e2] at h2
 omega

def baseS : List UInt8 → Nat × List UInt8
 | 48 :: 120 :: t => (16, t)
 | 48 :: 88 :: t => (16, t)
 | 48 :: t => (8, 48 :: t)
 | t => (10, t)
def numS (s : List UInt8) : Option (Nat × Bool) :=
 if s = [] then none else
 match numGo (baseS s).1 0 (baseS s).2 with
 | none => none
 | some (v, n) => if n = 0 then none else match sufS ((baseS s).2.drop n) with
  | none => none
  | some u => some (v, u || ((baseS s).1 != 10 && decide (9223372036854775808 ≤ v)))
def numR : Option (Nat × Bool) → Int × Bool × Int
 | none => (0, false, 50)
 | some (v, u) => ((v : Int), u, 0)

theorem digs16 (c : UInt8) : ([48, 49, 50, 51, 52, 53, 54, 55, 56, 57, 97, 98, 99, 100, 101, 102, 65, 66, 67, 68, 69, 70] : List UInt8).contains c = isDig 16 c := by
 revert c; refine all8 ?_; decide +kernel
theorem digs8 (c : UInt8) : ([48, 49, 50, 51, 52, 53, 54, 55] : List UInt8).contains c = isDig 8 c := by
 revert c; refine all8 ?_; decide +kernel
theorem digs10 (c : UInt8) : ([48, 49, 50, 51, 52, 53, 54, 55, 56, 57] : List UInt8).contains c = isDig 10 c := by
 revert c; refine all8 ?_; decide +kernel
def digsOf (b : Nat) : List UInt8 := if b = 16 then [48, 49, 50, 51, 52, 53, 54, 55, 56, 57, 97, 98, 99, 100, 101, 102, 65, 66, 67, 68, 69, 70] else if b = 8 then [48, 49, 50, 51, 52, 53, 54, 55] else [48, 49, 50, 51, 52, 53, 54, 55, 56, 57]
theorem digsOf_ok (b : Nat) (hb : b = 8 ∨ b = 10 ∨ b = 16) : (fun c => (digsOf b).contains c) = isDig b := by
 funext c
 rcases hb with rfl | rfl | rfl
 ·exact digs8 c
 ·exact digs10 c
 ·exact digs16 c
theorem take_drop_while {T : Type} (p : T → Bool) (l : List T) : l.drop (l.takeWhile p).length = l.dropWhile p := by
 induction l with
 | nil => rfl
 | cons c r ih =>
  by_cases h : p c = true
  ·simp [List.takeWhile_cons, List.dropWhile_cons, h, ih]
  ·simp [List.takeWhile_cons, List.dropWhile_cons, h]
theorem take_take_while {T : Type} (p : T → Bool) (l : List T) : l.take (l.takeWhile p).length = l.takeWhile p := by
 induction l with
 | nil => rfl
 | cons c r ih =>
  by_cases h : p c = true
  ·simp [List.takeWhile_cons, h, ih]
  ·simp [List.takeWhile_cons, h]
theorem tw_le {T : Type} (p : T → Bool) (l : List T) : (l.takeWhile p).length ≤ l.length := by
 induction l with
 | nil => simp
 | cons c r ih => rw [List.takeWhile_cons]; split <;> simp; omega
theorem isSuffix_or (s : List UInt8) (hs : s.length ≤ 16777216) : ∃ ok u, G_cond_isSuffix s = some (ok, u) ∧ (sufS s = none ∧ ok = false ∨ sufS s = some u ∧ ok = true) := by
 obtain ⟨u, h⟩ := G_isSuffix' s hs
 cases hx : sufS s with
 | none => rw [hx] at h; exact ⟨_, _, h, .inl ⟨rfl, rfl⟩⟩
 | some v => rw [hx] at h; exact ⟨_, _, h, .inr ⟨rfl, rfl⟩⟩
theorem len_while {T : Type} (p : T → Bool) (l : List T) : (l.takeWhile p).length + (l.dropWhile p).length = l.length := by
 rw [← take_drop_while, List.length_drop]
 have := tw_le p l
 omega
theorem mem_takeWhile {T : Type} (p : T → Bool) (l : List T) (c : T) (h : c ∈ l.takeWhile p) : p c = true := by
 induction l with
 | nil => simp at h
 | cons d r ih =>
  rw [List.takeWhile_cons] at h
  split at h
  ·rename_i hd
   rcases List.mem_cons.1 h with rfl | h
   ·exact hd
   ·exact ih h
  ·simp at h

def numTail (b : Nat) (t : List UInt8) : Option (Int × Bool × Int) :=
 oCutLeft t (digsOf b) >>= fun r40 =>
 subT t (IntKind.wrap .i64 (((List.length t : Nat) : Int) - ((List.length r40 : Nat) : Int))) >>= fun t42 =>
 G_cond_isSuffix r40 >>= fun (r43, r44) =>
 G_strconv_ParseUint t42 b (64 : Int) >>= fun (r46, r47) =>
 (
  if (!r43) then
   some (Ex2.a ((0 : Int), false, (50 : Int)))
  else
   if (!(Ifc.isNil r47)) then
    some (Ex2.a ((0 : Int), false, (50 : Int)))
   else
    some (Ex2.b ())
 ) >>= fun j61 => match j61 with
  | .a q => some q
  | .b () =>
   if r44 then
    some (r46, true, (0 : Int))
   else
    if (!((b : Int) == (10 : Int))) then
     oLen64 r46 >>= fun r67 =>
     some (r46, (r67 == (64 : Int)), (0 : Int))
    else
     some (r46, false, (0 : Int))
def numT (b : Nat) (t : List UInt8) : Option (Nat × Bool) := match numGo b 0 t with
 | none => none
 | some (v, n) => if n = 0 then none else match sufS (t.drop n) with
  | none => none
  | some u => some (v, u || (b != 10 && decide (9223372036854775808 ≤ v)))
theorem numTail_ok (b : Nat) (hb : b = 8 ∨ b = 10 ∨ b = 16) (t : List UInt8) (ht : t.length ≤ 16777216) : numTail b t = some (numR (numT b t)) := by
 have h1 : oCutLeft t (digsOf b) = some (t.dropWhile (isDig b)) := by
  have a : (small t && ascii (digsOf b)) = true := by
   have : small t = true := by simp [small]; omega
   rw [this]
   rcases hb with rfl | rfl | rfl <;> decide
  unfold oCutLeft
  rw [if_pos a]
  unfold cutLeftS
  rw [digsOf_ok b hb]
 have hlen := len_while (isDig b) t
 have h2 : subT t (IntKind.wrap .i64 (((List.length t : Nat) : Int) - ((List.length (t.dropWhile (isDig b)) : Nat) : Int))) = some (t.takeWhile (isDig b)) := by
  rw [wi (by omega) (by omega)]
  have : ((List.length t : Nat) : Int) - ((List.length (t.dropWhile (isDig b)) : Nat) : Int) = ((t.takeWhile (isDig b)).length : Int) := by omega
  rw [this, subT_nat (by omega), take_take_while]
 obtain ⟨ok, u, h3, h3s⟩ := isSuffix_or (t.dropWhile (isDig b)) (by omega)
 have hd : ∀ c ∈ t.takeWhile (isDig b), hexv c < b := fun c hc => by
  have := mem_takeWhile _ _ c hc
  simpa [isDig] using this
 obtain ⟨v, e, h4, h5⟩ := G_ParseUint b 64 18446744073709551615 hb (.inr ⟨rfl, rfl⟩) (t.takeWhile (isDig b)) (by omega) hd
 rw [show ((64 : Nat) : Int) = 64 from rfl] at h4
 unfold numTail numT
 rw [h1, bind_some', h2, bind_some', h3, bind_some']
 simp only []
 rw [h4, bind_some', numGo_pu]
 by_cases h0 : t.takeWhile (isDig b) = []
 ·rw [if_pos h0] at h5
  rw [h0]
  have e2 : (0 : Nat) = 0 := rfl
  simp [pu, h5]
  cases ok <;> rfl
 ·rw [if_neg h0] at h5
  have hl : ¬ (t.takeWhile (isDig b)).length = 0 := fun h => h0 (List.length_eq_zero_iff.1 h)
  cases hp : pu b 18446744073709551615 0 (t.takeWhile (isDig b)) with
  | none =>
   rw [hp] at h5
   have h5 : e.isNil = false := h5
   simp [h5]
   cases ok <;> rfl
  | some w =>
   rw [hp] at h5
   obtain ⟨rfl, h5⟩ := h5
   have hw := pu_le (by omega) hp
   have h6 : oLen64 (w : Int) = some (Lib.bitLen w : Int) := by
    unfold oLen64
    rw [if_pos (by omega)]
    simp
   have h7 := bitLen_64 w hw
   simp only [Option.map_some, hl, if_false, take_drop_while, h5]
   rcases h3s with ⟨hs, rfl⟩ | ⟨hs, rfl⟩
   ·rw [hs]; rfl
   ·rw [hs]
    cases u with
    | true => rfl
    | false =>
     by_cases hb10 : b = 10
     ·subst hb10; rfl
     ·have e10 : ((b : Int) == 10) = false := by simp; omega
      have e10' : (b != 10) = true := by simpa using hb10
      simp only [e10, e10', h6, bind_some', h7]
      rfl

theorem G_Number (s : List UInt8) (hs : s.length ≤ 16777216) : G_cond_Number s = some (numR (numS s)) := by
 have hG : ∀ b t, (b = 8 ∨ b = 10 ∨ b = 16) → t.length ≤ 16777216 → baseS s = (b, t) → s ≠ [] → G_cond_Number s = numTail b t → G_cond_Number s = some (numR (numS s)) := by
  intro b t hb ht e1 hne e
  rw [e, numTail_ok b hb t ht]
  unfold numS numT
  rw [e1, if_neg hne]
 by_cases h0 : s = []
 ·subst h0
  have e : G_cond_Number [] = numTail 10 [] := rfl
  rw [e, numTail_ok 10 (by omega) [] (by simp)]
  rfl
 match s, hs, h0, hG with
 | [c], hs, h0, hG =>
  by_cases c0 : c = 48
  ·subst c0
   exact hG 8 [48] (by omega) hs rfl h0 rfl
  ·refine hG 10 [c] (by omega) hs ?_ h0 ?_
   ·unfold baseS; split <;> simp_all
   ·have : Lib.hasPrefix [c] [48] = false := by simp [Lib.hasPrefix, List.isPrefixOf, Ne.symm c0]
    have h2 : ∀ x, Lib.hasPrefix [c] [48, x] = false := by simp [Lib.hasPrefix, List.isPrefixOf]
    simp only [G_cond_Number, this, h2]
    rfl
 | c :: d :: t, hs, h0, hG =>
  simp only [List.length_cons] at hs
  by_cases c0 : c = 48
  ·subst c0
   by_cases d1 : d = 120
   ·subst d1
    refine hG 16 t (by omega) (by omega) rfl h0 ?_
    have : Lib.hasPrefix (48 :: 120 :: t) [48, 120] = true := by simp [Lib.hasPrefix, List.isPrefixOf]
    simp only [G_cond_Number, this, if_true, bind_some', subF_2]
    rfl
   ·by_cases d2 : d = 88
    ·subst d2
     refine hG 16 t (by omega) (by omega) rfl h0 ?_
     have : Lib.hasPrefix (48 :: 88 :: t) [48, 120] = false := by simp [Lib.hasPrefix, List.isPrefixOf]
     have h2 : Lib.hasPrefix (48 :: 88 :: t) [48, 88] = true := by simp [Lib.hasPrefix, List.isPrefixOf]
     simp only [G_cond_Number, this, h2, if_true, bind_some', subF_2]
     rfl
    ·refine hG 8 (48 :: d :: t) (by omega) (by simp; omega) ?_ h0 ?_
     ·unfold baseS; split <;> simp_all
     ·have h1 : Lib.hasPrefix (48 :: d :: t) [48, 120] = false := by simp [Lib.hasPrefix, List.isPrefixOf, Ne.symm d1]
      have h2 : Lib.hasPrefix (48 :: d :: t) [48, 88] = false := by simp [Lib.hasPrefix, List.isPrefixOf, Ne.symm d2]
      have h3 : Lib.hasPrefix (48 :: d :: t) [48] = true := by simp [Lib.hasPrefix, List.isPrefixOf]
      simp only [G_cond_Number, h1, h2, h3, if_true]
      rfl
  ·refine hG 10 (c :: d :: t) (by omega) (by simp; omega) ?_ h0 ?_
   ·unfold baseS; split <;> simp_all
   ·have h1 : ∀ x, Lib.hasPrefix (c :: d :: t) (48 :: x) = false := by simp [Lib.hasPrefix, List.isPrefixOf, Ne.symm c0]
    simp only [G_cond_Number, h1]
    rfl

theorem numGo_le {b v w n : Nat} {r : List UInt8} (hv : v ≤ 18446744073709551615) (h : numGo b v r = some (w, n)) : w ≤ 18446744073709551615 ∧ n ≤ r.length := by
 rw [numGo_pu] at h
 obtain ⟨x, hx, e⟩ := Option.map_eq_some_iff.1 h
 cases e
 exact ⟨pu_le hv hx, tw_le _ _⟩
end Go.Proofs.YtmngkcpobmhnoaaGreatDoor.Sim.Pl
/- Plain laws: escapes, and which character a text is: the program's answer and the document's. -/
namespace Go.Proofs.YtmngkcpobmhnoaaGreatDoor.Sim.Pl
open Go.Proofs

def escL : List (UInt8 × UInt8) := [(110, 10), (116, 9), (118, 11), (98, 8), (114, 13), (102, 12), (97, 7), (92, 92), (39, 39), (34, 34), (63, 63)]
def escS : List UInt8 → Option (Nat × Nat)
 | [] => none
 | c :: r => match escL.lookup c with
  | some w => some (w.toNat, 1)
  | none => if c = 120 then
    (if r.takeWhile (isDig 16) = [] then none else (pu 16 255 0 (r.takeWhile (isDig 16))).map fun v => (v, (r.takeWhile (isDig 16)).length + 1))
   else
    (if ((c :: r).take 3).takeWhile (isDig 8) = [] then none else (pu 8 255 0 (((c :: r).take 3).takeWhile (isDig 8))).map fun v => (v, (((c :: r).take 3).takeWhile (isDig 8)).length))

theorem esc_prog (c : UInt8) : match escL.lookup c with
  | none => (decide ((0 : Int) ≤ Lib.indexByte ([110, 116, 118, 98, 114, 102, 97, 92, 39, 34, 63] : Bytes) c)) = false
  | some w => (decide ((0 : Int) ≤ Lib.indexByte ([110, 116, 118, 98, 114, 102, 97, 92, 39, 34, 63] : Bytes) c)) = true ∧ idx ([10, 9, 11, 8, 13, 12, 7, 92, 39, 34, 63] : Bytes) (Lib.indexByte ([110, 116, 118, 98, 114, 102, 97, 92, 39, 34, 63] : Bytes) c) = some w := by
 have k : ∀ c : UInt8, (match escL.lookup c with
  | none => (decide ((0 : Int) ≤ Lib.indexByte ([110, 116, 118, 98, 114, 102, 97, 92, 39, 34, 63] : Bytes) c)) == false
  | some w => (decide ((0 : Int) ≤ Lib.indexByte ([110, 116, 118, 98, 114, 102, 97, 92, 39, 34, 63] : Bytes) c)) && decide (idx ([10, 9, 11, 8, 13, 12, 7, 92, 39, 34, 63] : Bytes) (Lib.indexByte ([110, 116, 118, 98, 114, 102, 97, 92, 39, 34, 63] : Bytes) c) = some w)) = true := by
  refine all8 ?_
  decide +kernel
 have := k c
 cases h : escL.lookup c with
 | none => rw [h] at this; simpa using this
 | some w => rw [h] at this; simpa using this

theorem G_digitsOf_L1 (b : Nat) (hb : b = 8 ∨ b = 10 ∨ b = 16) (s : List UInt8) (hs : s.length ≤ 16777216) (m : Nat) (hm : m ≤ 16777216) :
  ∀ j, j ≤ s.length → j ≤ m → loopO (G_cond_digitsOf_L1 s (digsOf b) m) (j : Int) = some (((j + (((s.drop j).take (m - j)).takeWhile (isDig b)).length : Nat) : Int)) := by
 refine rest_ind (P := fun j r => j ≤ m → loopO (G_cond_digitsOf_L1 s (digsOf b) m) (j : Int) = some (((j + ((r.take (m - j)).takeWhile (isDig b)).length : Nat) : Int))) ?_ ?_
 ·intro _
  rw [loopO_inr (x := (s.length : Int))]
  ·simp
  ·simp [G_cond_digitsOf_L1]
 ·intro j c r hj hc e1 e2 ih hjm
  have hlt : (j : Int) < (s.length : Int) := by omega
  have hc1 : idx s (j : Int) = some c := by rw [idx_nat, hc]
  have hd : (digsOf b).contains c = isDig b c := congrFun (digsOf_ok b hb) c
  by_cases hm2 : j < m
  ·have hm3 : (j : Int) < (m : Int) := by omega
   have e3 : m - j = (m - (j + 1)) + 1 := by omega
   by_cases hx : isDig b c = true
   ·rw [loopO_inl (s' := ((j + 1 : Nat) : Int)), ih (by omega), e3, List.take_succ_cons, List.takeWhile_cons, if_pos hx, List.length_cons]
    ·congr 2; omega
    ·simp only [G_cond_digitsOf_L1, hlt, hm3, decide_true, if_true, hc1, bind_some', toNat8, indexByte_nn', hd, hx]
     rw [wi (by omega) (by omega)]; rfl
   ·have hx : isDig b c = false := by simpa using hx
    rw [loopO_inr (x := (j : Int)), e3, List.take_succ_cons, List.takeWhile_cons, if_neg (by simp [hx])]
    ·rfl
    ·simp [G_cond_digitsOf_L1, hlt, hm3, hc1, indexByte_nn', hd, hx]
     intro h
     have h2 : (digsOf b).contains c = true := by simpa using h
     rw [hd, hx] at h2; cases h2
  ·have e3 : m - j = 0 := by omega
   have hm3 : ¬ (j : Int) < (m : Int) := by omega
   rw [loopO_inr (x := (j : Int)), e3]
   ·simp
   ·simp [G_cond_digitsOf_L1, hlt, hm3]
theorem G_digitsOf (b : Nat) (hb : b = 8 ∨ b = 10 ∨ b = 16) (s : List UInt8) (hs : s.length ≤ 16777216) (m : Nat) (hm : m ≤ 16777216) :
  G_cond_digitsOf s (digsOf b) m = some ((((s.take m).takeWhile (isDig b)).length : Nat) : Int) := by
 have := G_digitsOf_L1 b hb s hs m hm 0 (Nat.zero_le _) (Nat.zero_le _)
 rw [show ((0 : Nat) : Int) = 0 from rfl] at this
 simp only [List.drop_zero, Nat.sub_zero, Nat.zero_add] at this
 rw [G_cond_digitsOf, this]
 rfl

theorem pu_zeros (b most : Nat) (l : List UInt8) : pu b most 0 (l.dropWhile (· == 48)) = pu b most 0 l := by
 induction l with
 | nil => rfl
 | cons c r ih =>
  rw [List.dropWhile_cons]
  split
  ·rename_i h
   have : c = 48 := by simpa using h
   subst this
   rw [ih]
   show _ = if most < 0 * b + hexv 48 then none else pu b most (0 * b + hexv 48) r
   have : hexv 48 = 0 := by decide
   rw [this, Nat.zero_mul, Nat.add_zero, if_neg (by omega)]
  ·rfl
theorem take_of_takeWhile {T : Type} (p : T → Bool) (l : List T) (m : Nat) : l.take ((l.take m).takeWhile p).length = (l.take m).takeWhile p := by
 have h1 : ((l.take m).takeWhile p).length ≤ m := Nat.le_trans (tw_le _ _) (by simp; omega)
 have h2 := take_take_while p (l.take m)
 rw [List.take_take, Nat.min_eq_left h1] at h2
 exact h2

theorem wrap8_id {w : Nat} (h : w ≤ 255) : IntKind.wrap .u8 (w : Int) = w := w8 (by omega) (by omega)
theorem G_escape (s : List UInt8) (hs : s.length ≤ 16777216) : match escS s with
  | none => ∃ v r, G_cond_escape s = some (v, r, false)
  | some (w, n) => G_cond_escape s = some ((w : Int), s.drop n, true) ∧ n ≤ s.length ∧ 0 < n ∧ w ≤ 255 := by
 cases s with
 | nil => exact ⟨0, [], rfl⟩
 | cons c r =>
  have e0 : ((c :: r) == ([] : Bytes)) = false := by simp
  have hp := esc_prog c
  simp only [escS]
  cases hl : escL.lookup c with
  | some w =>
   rw [hl] at hp
   refine ⟨?_, by simp, by omega, by have := w.toNat_lt; omega⟩
   simp only [G_cond_escape, e0, idx_0, bind_some', toNat8, hp.1, hp.2, if_true, if_false, subF_1, Bool.false_eq_true]
   rfl
  | none =>
   rw [hl] at hp
   simp only []
   have hlen : r.length ≤ 16777216 := by simp at hs; omega
   have d8 : G_cond_digitsOf (c :: r) ([48, 49, 50, 51, 52, 53, 54, 55] : Bytes) (3 : Int) = some (((((c :: r).take 3).takeWhile (isDig 8)).length : Nat) : Int) :=
    G_digitsOf 8 (by omega) (c :: r) hs 3 (by omega)
   by_cases hx : c = 120
   ·subst hx
    rw [if_pos rfl]
    have d16 : G_cond_digitsOf r ([48, 49, 50, 51, 52, 53, 54, 55, 56, 57, 97, 98, 99, 100, 101, 102, 65, 66, 67, 68, 69, 70] : Bytes) ((List.length r : Nat) : Int) = some (((r.takeWhile (isDig 16)).length : Nat) : Int) := by
     have := G_digitsOf 16 (by omega) r hlen r.length hlen
     rw [List.take_length] at this
     exact this
    have t1 : subT r (((r.takeWhile (isDig 16)).length : Nat) : Int) = some (r.takeWhile (isDig 16)) := by rw [subT_nat (tw_le _ _), take_take_while]
    have t2 : subF r (((r.takeWhile (isDig 16)).length : Nat) : Int) = some (r.drop (r.takeWhile (isDig 16)).length) := subF_nat (tw_le _ _)
    have t3 : ∀ l, oTrimLeft l ([48] : Bytes) = some (l.dropWhile (· == 48)) := fun l => rfl
    have hd : ∀ c ∈ r.takeWhile (isDig 16), hexv c < 16 := fun c hc => by have := mem_takeWhile _ _ c hc; simpa [isDig] using this
    generalize hD : r.takeWhile (isDig 16) = D at d16 t1 t2 hd
    have hDl : D.length ≤ r.length := by rw [← hD]; exact tw_le _ _
    have hst : G_cond_escape (120 :: r) = ((if (decide ((0 : Int) < (D.length : Int))) then if (D.dropWhile (· == 48) == ([] : Bytes)) then some ([48] : Bytes) else some (D.dropWhile (· == 48)) else some (D.dropWhile (· == 48))) >>= fun t_42 =>
      G_strconv_ParseUint t_42 16 (8 : Int) >>= fun (r53, r54) => some ((IntKind.wrap .u8 r53), r.drop D.length, (Ifc.isNil r54))) := by
     simp only [G_cond_escape, e0, idx_0, bind_some', toNat8, hp, if_true, if_false, subF_1, Bool.false_eq_true, d8, d16]
     have e1 : ((UInt8.toNat 120 : Int) == 120) = true := by decide
     have e2 : ((16 : Int) == 16) = true := by decide
     simp only [e1, e2, if_true, bind_some', subF_1, d16, t1, t2, t3]
    rw [hst]
    by_cases h0 : D = []
    ·subst h0
     simp only [if_true, List.length_nil]
     obtain ⟨v, e, h4, h5⟩ := G_ParseUint 16 8 255 (by omega) (.inl ⟨rfl, rfl⟩) [] (by simp) (by simp)
     rw [if_pos rfl] at h5
     exact ⟨IntKind.wrap .u8 v, r, by
      have h4 : G_strconv_ParseUint [] 16 8 = some (v, e) := h4
      show (G_strconv_ParseUint [] 16 8 >>= fun (r53, r54) => some ((IntKind.wrap .u8 r53), r.drop 0, (Ifc.isNil r54))) = _
      rw [h4, bind_some', List.drop_zero]
      simp only [h5]⟩
    ·rw [if_neg h0]
     have hD0 : (0 : Int) < (D.length : Int) := by
      have : 0 < D.length := List.length_pos_iff.2 h0
      omega
     have hD1 : 0 < D.length := by omega
     have hmem : ∀ c ∈ D.dropWhile (· == 48), c ∈ D := fun c hc => (List.dropWhile_sublist _).mem hc
     have hdl : (D.dropWhile (· == 48)).length ≤ D.length := (List.dropWhile_sublist _).length_le
     by_cases hz : D.dropWhile (· == 48) = []
     ·have hp0 : pu 16 255 0 D = some 0 := by rw [← pu_zeros, hz]; rfl
      rw [hp0]
      obtain ⟨v, e, h4, h5⟩ := G_ParseUint 16 8 255 (by omega) (.inl ⟨rfl, rfl⟩) [48] (by simp) (by decide)
      have h5 : v = ((0 : Nat) : Int) ∧ e.isNil = true := h5
      have h4 : G_strconv_ParseUint [48] 16 8 = some (v, e) := h4
      refine ⟨?_, by simp; omega, by omega, by omega⟩
      simp only [hD0, hz, decide_true, if_true, bind_some', beq_self_eq_true, h4, h5.1, h5.2]
      rfl
     ·obtain ⟨v, e, h4, h5⟩ := G_ParseUint 16 8 255 (by omega) (.inl ⟨rfl, rfl⟩) (D.dropWhile (· == 48)) (by omega) (fun c hc => hd c (hmem c hc))
      rw [if_neg hz, pu_zeros] at h5
      have hz' : (D.dropWhile (· == 48) == ([] : Bytes)) = false := by simpa using hz
      have h4 : G_strconv_ParseUint (D.dropWhile (· == 48)) 16 8 = some (v, e) := h4
      simp only [hD0, hz', decide_true, if_true, bind_some', h4, Bool.false_eq_true, if_false]
      cases hq : pu 16 255 0 D with
      | none =>
       rw [hq] at h5
       exact ⟨_, _, by rw [show e.isNil = false from h5]⟩
      | some w =>
       rw [hq] at h5
       have hw := pu_le (by omega) hq
       refine ⟨?_, by simp; omega, by omega, hw⟩
       rw [h5.1, h5.2, wrap8_id hw]
       rfl
   ·rw [if_neg hx]
    have hx' : ((c.toNat : Int) == 120) = false := by
     have := fun h => hx ((eq8' (c := c) (k := 120) (by decide)).1 h)
     simpa using this
    have hd : ∀ d ∈ ((c :: r).take 3).takeWhile (isDig 8), hexv d < 8 := fun d hd => by have := mem_takeWhile _ _ d hd; simpa [isDig] using this
    have hDl : (((c :: r).take 3).takeWhile (isDig 8)).length ≤ (c :: r).length := Nat.le_trans (tw_le _ _) (List.length_take_le' _ _)
    have t1 : subT (c :: r) (((((c :: r).take 3).takeWhile (isDig 8)).length : Nat) : Int) = some (((c :: r).take 3).takeWhile (isDig 8)) := by
     rw [subT_nat hDl, take_of_takeWhile]
    have t2 : subF (c :: r) (((((c :: r).take 3).takeWhile (isDig 8)).length : Nat) : Int) = some ((c :: r).drop (((c :: r).take 3).takeWhile (isDig 8)).length) := subF_nat hDl
    generalize ((c :: r).take 3).takeWhile (isDig 8) = D at d8 t1 t2 hd hDl
    obtain ⟨v, e, h4, h5⟩ := G_ParseUint 8 8 255 (by omega) (.inl ⟨rfl, rfl⟩) D (by omega) hd
    have h4 : G_strconv_ParseUint D 8 8 = some (v, e) := h4
    have hst : G_cond_escape (c :: r) = some (IntKind.wrap .u8 v, (c :: r).drop D.length, e.isNil) := by
     simp only [G_cond_escape, e0, idx_0, bind_some', toNat8, hp, if_true, if_false, Bool.false_eq_true, d8, hx']
     have e2 : ((8 : Int) == 16) = false := by decide
     simp only [t1, bind_some', e2, Bool.false_eq_true, if_false, h4, t2]
    rw [hst]
    by_cases h0 : D = []
    ·rw [if_pos h0] at h5 ⊢
     exact ⟨_, _, by rw [h5]⟩
    ·rw [if_neg h0] at h5 ⊢
     cases hq : pu 8 255 0 D with
     | none =>
      rw [hq] at h5
      exact ⟨_, _, by rw [show e.isNil = false from h5]⟩
     | some w =>
      rw [hq] at h5
      have hw := pu_le (by omega) hq
      have : 0 < D.length := List.length_pos_iff.2 h0
      refine ⟨?_, hDl, this, hw⟩
      rw [h5.1, h5.2, wrap8_id hw]

def val (b : Nat) : Nat → List UInt8 → Nat
 | v, [] => v
 | v, c :: r => val b (v * b + hexv c) r
theorem val_ge (b v : Nat) (hb : 1 ≤ b) (D : List UInt8) : v ≤ val b v D := by
 induction D generalizing v with
 | nil => exact Nat.le_refl _
 | cons c r ih =>
  refine Nat.le_trans ?_ (ih (v * b + hexv c))
  have : v * 1 ≤ v * b := Nat.mul_le_mul_left v hb
  omega
theorem pu_val (b most v : Nat) (hb : 1 ≤ b) (hv : v ≤ most) (D : List UInt8) : pu b most v D = if val b v D ≤ most then some (val b v D) else none := by
 induction D generalizing v with
 | nil => simp [pu, val, hv]
 | cons c r ih =>
  have e : val b v (c :: r) = val b (v * b + hexv c) r := rfl
  rw [e]
  simp only [pu]
  by_cases h : most < v * b + hexv c
  ·have := val_ge b (v * b + hexv c) hb r
   rw [if_pos h, if_neg (by omega)]
  ·rw [if_neg h, ih _ (by omega)]
end Go.Proofs.YtmngkcpobmhnoaaGreatDoor.Sim.Pl
/- Plain laws: escapes, and which character a text is: the program's answer and the document's. -/
namespace Go.Proofs.YtmngkcpobmhnoaaGreatDoor.Sim.Pl
open Go.Proofs

def bytesS (s : List UInt8) : Option (List UInt8) :=
 match s with
 | [] => some []
 | c :: r => if c = 92 then
   (match escS r with
    | none => none
    | some (v, n) => (bytesS (r.drop n)).map fun l => UInt8.ofNat v :: l)
  else (bytesS r).map fun l => c :: l
termination_by s.length
decreasing_by all_goals (simp; try omega)

theorem bytesS_len (s : List UInt8) (l : List UInt8) (h : bytesS s = some l) : l.length ≤ s.length := by
 induction s using bytesS.induct generalizing l with
 | case1 => rw [bytesS] at h; cases h; simp
 | case2 r hn => rw [bytesS, if_pos rfl, hn] at h; cases h
 | case3 r v n hn ih =>
  rw [bytesS, if_pos rfl, hn] at h
  obtain ⟨l', h1, rfl⟩ := Option.map_eq_some_iff.1 h
  have := ih l' h1
  simp at this ⊢; omega
 | case4 c r hc ih =>
  rw [bytesS, if_neg hc] at h
  obtain ⟨l', h1, rfl⟩ := Option.map_eq_some_iff.1 h
  have := ih l' h1
  simp at this ⊢; omega

def charT (T : List UInt8) : Option UInt8 :=
 if T = [39] ∨ T = [10] ∨ T = [13] then none else
 match bytesS T with
 | none => none
 | some l => if l.length = 1 then l.head? else none
def charS (s : List UInt8) : Option UInt8 :=
 if s.length < 3 ∨ s.head? ≠ some 39 ∨ s.getLast? ≠ some 39 then none else charT ((s.drop 1).dropLast)
def charR : Option UInt8 → Int × Int
 | none => (0, 50)
 | some b => (IntKind.wrap .i64 (IntKind.wrap .i8 (b.toNat : Int)), 0)

theorem bytesS_nil {r : List UInt8} (h : bytesS r = some []) : r = [] := by
 cases r with
 | nil => rfl
 | cons c r =>
  rw [bytesS] at h
  split at h
  ·split at h
   ·cases h
   ·obtain ⟨l, _, h2⟩ := Option.map_eq_some_iff.1 h
    cases h2
  ·obtain ⟨l, _, h2⟩ := Option.map_eq_some_iff.1 h
   cases h2
theorem bytesS_0 : bytesS [] = some [] := by rw [bytesS]
theorem one_map {x : UInt8} {m : Option (List UInt8)} (h : m ≠ some []) : (match m.map (fun l => x :: l) with | none => none | some l => if l.length = 1 then l.head? else none) = none := by
 cases m with
 | none => rfl
 | some l =>
  cases l with
  | nil => exact absurd rfl h
  | cons y l =>
   show (if (x :: y :: l).length = 1 then _ else none) = none
   rw [if_neg (by simp)]
theorem idx3 (c : UInt8) : (decide (Lib.indexByte ([39, 10, 13] : Bytes) c < 0)) = !(c == 39 || c == 10 || c == 13) := by
 revert c; refine all8 ?_; decide +kernel

theorem G_Char (s : List UInt8) (hs : s.length ≤ 16777216) : G_cond_Char s = some (charR (charS s)) := by
 have hcs : ∀ p : List UInt8, p.length ≤ 16777216 → oCutSuffix p ([39] : Bytes) = some (Lib.trimSuffix p [39], Lib.hasSuffix p [39]) := by
  intro p hp
  have : small p = true := by simp [small]; omega
  unfold oCutSuffix
  rw [if_pos this]
 have key : ∀ c r, s = c :: r → c ≠ 39 → G_cond_Char s = some (charR (charS s)) := by
  rintro c r rfl hc
  have h1 : Lib.hasPrefix (c :: r) [39] = false := by simp [Lib.hasPrefix, List.isPrefixOf, Ne.symm hc]
  have h2 : Lib.trimPrefix (c :: r) [39] = c :: r := by simp [Lib.trimPrefix, h1]
  unfold charS
  rw [if_pos (.inr (.inl (by simpa using hc)))]
  rw [G_cond_Char, h2, hcs _ hs, bind_some', h1]
  rfl
 match s, hs, key with
 | [], hs, _ => rfl
 | c :: r, hs, key =>
  by_cases hc : c = 39
  ·subst hc
   clear key
   have hrl : r.length ≤ 16777216 := by simp at hs; omega
   have h1 : Lib.hasPrefix (39 :: r) [39] = true := by simp [Lib.hasPrefix, List.isPrefixOf]
   have h2 : Lib.trimPrefix (39 :: r) [39] = r := by simp [Lib.trimPrefix, h1]
   by_cases hz : r.getLast? = some 39
   ·have hr : r ≠ [] := by rintro rfl; simp at hz
    obtain ⟨T, rfl⟩ : ∃ T, r = T ++ [39] := by
     have e := List.getLast?_eq_some_iff.1 hz
     obtain ⟨T, e⟩ := e
     exact ⟨T, e⟩
    have h3 : Lib.hasSuffix (T ++ [39]) [39] = true := by
     unfold Lib.hasSuffix
     rw [List.isSuffixOf_iff_suffix]
     exact ⟨T, rfl⟩
    have h4 : Lib.trimSuffix (T ++ [39]) [39] = T := by simp [Lib.trimSuffix, h3]
    rw [G_cond_Char, h2, hcs _ hrl, bind_some', h1, h3, h4]
    cases T with
    | nil => rfl
    | cons c r =>
     have hcond : ¬ ((39 :: (c :: r ++ [39]) : List UInt8).length < 3 ∨ (39 :: (c :: r ++ [39]) : List UInt8).head? ≠ some 39 ∨ (39 :: (c :: r ++ [39]) : List UInt8).getLast? ≠ some 39) := by
      rintro (h | h | h)
      ·simp at h; omega
      ·exact h rfl
      ·exact h (by rw [List.getLast?_cons_of_ne_nil (by simp)]; exact hz)
     have hT : ((39 :: (c :: r ++ [39]) : List UInt8).drop 1).dropLast = c :: r := by
      show (c :: r ++ [39]).dropLast = _
      rw [List.dropLast_concat]
     unfold charS
     rw [if_neg hcond, hT]
     have e0 : ((c :: r : List UInt8) == ([] : Bytes)) = false := by simp
     have hrl2 : r.length ≤ 16777216 := by simp at hrl; omega
     simp only [e0, Bool.not_true, Bool.false_eq_true, if_false, idx_0, subF_1, bind_some', toNat8, idx3]
     by_cases h92 : c = 92
     ·subst h92
      have e1 : ((UInt8.toNat 92 : Int) == 92) = true := by decide
      have e2 : charT (92 :: r) = (match bytesS (92 :: r) with | none => none | some l => if l.length = 1 then l.head? else none) := by
       unfold charT
       rw [if_neg (by rintro (h | h | h) <;> cases h)]
      rw [bytesS, if_pos rfl] at e2
      have he := G_escape r hrl2
      simp only [e1, if_true]
      cases hq : escS r with
      | none =>
       rw [hq] at he e2
       obtain ⟨v, x, he⟩ := he
       rw [he, bind_some']
       rw [e2]
       rfl
      | some p =>
       obtain ⟨w, n⟩ := p
       rw [hq] at he e2
       obtain ⟨he, h5, h6, h7⟩ := he
       simp only [] at e2
       rw [he, bind_some']
       simp only [bind_some', Bool.not_true, Bool.false_eq_true, if_false]
       by_cases hn : r.drop n = []
       ·rw [hn] at e2 ⊢
        rw [bytesS_0] at e2
        rw [e2]
        show some (IntKind.wrap .i64 (IntKind.wrap .i8 (w : Int)), (0 : Int)) = some (IntKind.wrap .i64 (IntKind.wrap .i8 ((UInt8.ofNat w).toNat : Int)), 0)
        have : (UInt8.ofNat w).toNat = w := by simp; omega
        rw [this]
       ·have hn' : (r.drop n == ([] : Bytes)) = false := by simpa using hn
        have e3 := one_map (x := UInt8.ofNat w) (m := bytesS (r.drop n)) (fun h => hn (bytesS_nil h))
        rw [e3] at e2
        rw [e2, hn']
        rfl
     ·have h92' : ((c.toNat : Int) == 92) = false := by
       have := fun h => h92 ((eq8' (c := c) (k := 92) (by decide)).1 h)
       simpa using this
      simp only [h92', Bool.false_eq_true, if_false, bind_some', Bool.not_not]
      by_cases hr0 : r = []
      ·subst hr0
       by_cases k1 : c = 39
       ·subst k1; rfl
       ·by_cases k2 : c = 10
        ·subst k2; rfl
        ·by_cases k3 : c = 13
         ·subst k3; rfl
         ·have k0 : (c == 39 || c == 10 || c == 13) = false := by simp [k1, k2, k3]
          have e : charT [c] = some c := by
           unfold charT
           rw [if_neg (by simp [k1, k2, k3]), bytesS, if_neg h92, bytesS_0]
           rfl
          rw [e, k0]
          rfl
      ·have hr0' : (r == ([] : Bytes)) = false := by simpa using hr0
       have e2 : charT (c :: r) = none := by
        unfold charT
        rw [if_neg (by simp [hr0])]
        rw [bytesS, if_neg h92]
        exact one_map (fun h => hr0 (bytesS_nil h))
       rw [e2, hr0']
       cases (c == 39 || c == 10 || c == 13) <;> rfl
   ·have h3 : Lib.hasSuffix r [39] = false := by
     rw [Bool.eq_false_iff]
     intro h
     unfold Lib.hasSuffix at h
     rw [List.isSuffixOf_iff_suffix] at h
     obtain ⟨T, rfl⟩ := h
     exact hz (by simp)
    have : charS (39 :: r) = none := by
     unfold charS
     by_cases hr : r = []
     ·subst hr; rfl
     ·exact if_pos (.inr (.inr (by rw [List.getLast?_cons_of_ne_nil hr]; exact hz)))
    rw [G_cond_Char, h2, hcs _ hrl, bind_some', h1, h3, this]
    rfl
  ·exact key c r rfl hc
end Go.Proofs.YtmngkcpobmhnoaaGreatDoor.Sim.Pl
