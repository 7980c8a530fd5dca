/- Tools of the plain laws: bounds of integers, places of lists, loops over a list's rests. -/
import Derived.Test.YtmngkcpobmhnoaaGreatDoorKG4
import Derived.Laws.RangeAny
set_option linter.all false
namespace Go.Proofs.YtmngkcpobmhnoaaGreatDoor.Sim.Pl

theorem wi {x : Int} (h1 : -9223372036854775808 ≤ x) (h2 : x ≤ 9223372036854775807) : IntKind.wrap .i64 x = x := by
 have e : IntKind.wrap .i64 x = (x + 9223372036854775808) % 18446744073709551616 - 9223372036854775808 := by simp [IntKind.wrap, IntKind.bits, IntKind.signed]; split <;> omega
 rw [e]; omega
theorem wu {x : Int} (h1 : 0 ≤ x) (h2 : x ≤ 18446744073709551615) : IntKind.wrap .u64 x = x := by
 have e : IntKind.wrap .u64 x = x % 18446744073709551616 := by simp [IntKind.wrap, IntKind.bits, IntKind.signed]
 rw [e]; omega
theorem w8 {x : Int} (h1 : 0 ≤ x) (h2 : x ≤ 255) : IntKind.wrap .u8 x = x := by
 have e : IntKind.wrap .u8 x = x % 256 := by simp [IntKind.wrap, IntKind.bits, IntKind.signed]
 rw [e]; omega

section
variable {T : Type} {L : List T}
theorem idx_nat {n : Nat} : idx L (n : Int) = L[n]? := by simp [idx]
theorem idx_0 {x : T} : idx (x :: L) 0 = some x := by simp [idx]
theorem idx_1 {x y : T} : idx (x :: y :: L) 1 = some y := by simp [idx]
theorem idx_lt {i : Int} {j : Nat} {x : T} (h : L[j]? = some x) (e : i = j) : idx L i = some x := by subst e; rw [idx_nat, h]
theorem subF_nat {n : Nat} (h : n ≤ L.length) : subF L (n : Int) = some (L.drop n) := by simp [subF, h]
theorem subF_1 {x : T} : subF (x :: L) 1 = some L := by simp [subF]; omega
theorem subF_2 {x y : T} : subF (x :: y :: L) 2 = some L := by simp [subF]; omega
theorem subT_nat {n : Nat} (h : n ≤ L.length) : subT L (n : Int) = some (L.take n) := by simp [subT, h]
theorem subT_len : subT L (L.length : Int) = some L := by rw [subT_nat (Nat.le_refl _), List.take_length]
theorem subB_nat {m n : Nat} (h : m ≤ n) (h2 : n ≤ L.length) : subB L (m : Int) (n : Int) = some ((L.take n).drop m) := by
 simp [subB]; omega
theorem app_some {b : Nat} {M : List T} (h : (2 * (L.length + M.length) + 1000) * b ≤ 140737488355328) : app b L M = some (L ++ M) := by simp [app, h]
theorem bind_some' {A B : Type} {x : A} {f : A → Option B} : (some x >>= f) = f x := rfl
theorem rest_ind {s : List T} (P : Nat → List T → Prop) (h0 : P s.length [])
  (h1 : ∀ j c r, j < s.length → s[j]? = some c → s.drop j = c :: r → s.drop (j + 1) = r → P (j + 1) r → P j (c :: r)) : ∀ j, j ≤ s.length → P j (s.drop j) := by
 intro j hj
 generalize hk : s.length - j = k
 induction k generalizing j with
 | zero =>
  have : j = s.length := by omega
  subst this
  rw [List.drop_length]; exact h0
 | succ k ih =>
  have hlt : j < s.length := by omega
  have e := List.drop_eq_getElem_cons hlt
  rw [e]
  exact h1 j _ _ hlt (List.getElem?_eq_getElem hlt) e rfl (ih (j + 1) (by omega) (by omega))
end

theorem all8 {p : UInt8 → Prop} (h : ∀ n : Fin 256, p (UInt8.ofNat n.val)) (c : UInt8) : p c := by
 have := h ⟨c.toNat, c.toNat_lt⟩
 simpa using this
theorem toNat8 (c : UInt8) : (Int.toNat (c.toNat : Int)).toUInt8 = c := by simp
theorem eq8 (c : UInt8) (k : Nat) (hk : k < 256) : ((c.toNat : Int) == (k : Int)) = (c == UInt8.ofNat k) := by
 rw [Bool.eq_iff_iff, beq_iff_eq, beq_iff_eq]
 constructor
 ·intro h
  have h2 : c.toNat = k := by omega
  rw [← h2]; simp
 ·intro h
  rw [h]; simp; omega
theorem indexByte_nn' (s : List UInt8) (c : UInt8) : (decide ((0 : Int) ≤ Lib.indexByte s c)) = s.contains c := by
 rw [Bool.eq_iff_iff, decide_eq_true_eq]; exact indexByte_nn s c
end Go.Proofs.YtmngkcpobmhnoaaGreatDoor.Sim.Pl
/- Plain laws: numbers' digits, and what reading them comes to. -/
namespace Go.Proofs.YtmngkcpobmhnoaaGreatDoor.Sim.Pl

def hexv (c : UInt8) : Nat :=
 if 48 ≤ c.toNat ∧ c.toNat ≤ 57 then c.toNat - 48
 else if 97 ≤ c.toNat ∧ c.toNat ≤ 102 then c.toNat - 87
 else if 65 ≤ c.toNat ∧ c.toNat ≤ 70 then c.toNat - 55
 else 16
end Go.Proofs.YtmngkcpobmhnoaaGreatDoor.Sim.Pl
/- Plain laws: strconv.ParseUint of digits. -/
namespace Go.Proofs.YtmngkcpobmhnoaaGreatDoor.Sim.Pl

end Go.Proofs.YtmngkcpobmhnoaaGreatDoor.Sim.Pl
/- Plain laws: the small letters of texts, numbers' suffixes. -/
namespace Go.Proofs.YtmngkcpobmhnoaaGreatDoor.Sim.Pl
open Go.Proofs

end Go.Proofs.YtmngkcpobmhnoaaGreatDoor.Sim.Pl
/- Plain laws: which number a text is: the program's answer and the document's. -/
namespace Go.Proofs.YtmngkcpobmhnoaaGreatDoor.Sim.Pl
open Go.Proofs

end Go.Proofs.YtmngkcpobmhnoaaGreatDoor.Sim.Pl
/- Plain laws: escapes, and which character a text is: the program's answer and the document's. -/
namespace Go.Proofs.YtmngkcpobmhnoaaGreatDoor.Sim.Pl
open Go.Proofs

def val (b : Nat) : Nat → List UInt8 → Nat
 | v, [] => v
 | v, c :: r => val b (v * b + hexv c) r
end Go.Proofs.YtmngkcpobmhnoaaGreatDoor.Sim.Pl
/- Plain laws: escapes, and which character a text is: the program's answer and the document's. -/
namespace Go.Proofs.YtmngkcpobmhnoaaGreatDoor.Sim.Pl
open Go.Proofs

end Go.Proofs.YtmngkcpobmhnoaaGreatDoor.Sim.Pl
