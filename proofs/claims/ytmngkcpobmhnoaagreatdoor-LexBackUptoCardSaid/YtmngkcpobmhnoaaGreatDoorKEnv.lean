/- The compiler's and the evaluator's surroundings. -/
import Derived.Test.YtmngkcpobmhnoaaGreatDoorKCode
import Derived.Test.YtmngkcpobmhnoaaGreatDoorKOrc
import Derived.Test.YtmngkcpobmhnoaaGreatDoorKS2
import Derived.Lib.CaseU
import Derived.Lib.DecodeN
set_option linter.all false
namespace Go.Proofs.YtmngkcpobmhnoaaGreatDoor.Sim

def globF (g : Nat) : Option (List PV) :=
 if g = V_token_signs then some sgnG
 else if g = V_strconv_ErrSyntax then some [.ifc]
 else if g = V_strconv_ErrRange then some [.ifc]
 else if g = V_internal_bytealg_MaxLen then some [.anyInt .i64]
 else if g = V_unicode_CaseRanges then some [.slice .shared 5 (Lib.caseT.map fun x => [.int .u32 x.1, .int .u32 x.2.1, .int .i32 x.2.2.1, .int .i32 x.2.2.2.1, .int .i32 x.2.2.2.2])]
 else if g = V_unicode_utf8_first then some ((List.range 256).map fun c => .int .u8 (Lib.firstT c))
 else if g = V_unicode_utf8_acceptRanges then some ((List.range 16).flatMap fun i => [.int .u8 (Lib.accLo i), .int .u8 (Lib.accHi i)])
 else if g = V_internal_strconv_uint64pow10 then some ((List.range 20).map fun i => .int .u64 ((10 ^ i : Nat) : Int))
 else none
def C : CEnv := { glob := globF, pm := fun f => pmL.contains f, orc := fun f => orcL.contains f, ik := [T_internal_strconv_Error] }
def E : Env := { fn := fnOf, orc := orcF, horc := horcF }

theorem indexByte_nn (s : List UInt8) (c : UInt8) : 0 ≤ Lib.indexByte s c ↔ s.contains c = true := by
 induction s with
 | nil => simp [Lib.indexByte]
 | cons x xs ih =>
  have h4 := Lib.indexByte_ge xs c
  simp only [Lib.indexByte, List.contains_cons, Bool.or_eq_true, beq_iff_eq]
  by_cases h : x = c
  ·subst h; simp
  ·have h2 : c ≠ x := fun e => h e.symm
   simp only [h, h2, if_false, false_or, ← ih]
   split <;> omega
theorem indexByte_ge (s : List UInt8) (c : UInt8) : decide (Lib.indexByte s c ≥ 0) = s.contains c := by
 rw [Bool.eq_iff_iff, decide_eq_true_eq]; exact indexByte_nn s c
theorem oc_HasPrefix {s t : List UInt8} {n : PV → Prop} {z : Blk n} : Hq E F_strings_HasPrefix (some [.str s, .str t]) n z = n (.bool (Lib.hasPrefix s t)) := h_eq (by rfl)
theorem oc_CutPrefix {s t : List UInt8} {n : PV → Prop} {z : Blk n} : Hq E F_strings_CutPrefix (some [.str s, .str t]) n z = n (.tuple [.str (Lib.trimPrefix s t), .bool (Lib.hasPrefix s t)]) := h_eq (by rfl)
theorem oc_CutSuffix {s t : List UInt8} {n : PV → Prop} {z : Blk n} (hs : s.length < 4294967281) : Hq E F_strings_CutSuffix (some [.str s, .str t]) n z = n (.tuple [.str (Lib.trimSuffix s t), .bool (Lib.hasSuffix s t)]) :=
 h_eq (by show (if small s then _ else _) = _; simp [small, hs])
theorem oc_Cut {s t : List UInt8} {n : PV → Prop} {z : Blk n} (hs : s.length < 4294967281) : Hq E F_strings_Cut (some [.str s, .str t]) n z = n (.tuple [.str (Lib.cut s t).1, .str (Lib.cut s t).2.1, .bool (Lib.cut s t).2.2]) :=
 h_eq (by show (if small s then _ else _) = _; simp [small, hs])
theorem oc_Contains {s t : List UInt8} {n : PV → Prop} {z : Blk n} (hs : s.length < 4294967281) : Hq E F_strings_Contains (some [.str s, .str t]) n z = n (.bool (Lib.contains s t)) :=
 h_eq (by show (if small s then _ else _) = _; simp [small, hs])
theorem oc_ToLower {s : List UInt8} {n : PV → Prop} {z : Blk n} (hs : s.length < 4294967281) : Hq E F_strings_ToLower (some [.str s]) n z = n (.str (Lib.toLowerD s)) :=
 h_eq (by show (if small s then _ else _) = _; simp [small, hs])
theorem oc_TrimLeft {s : List UInt8} {c : UInt8} {n : PV → Prop} {z : Blk n} (hc : c < 128) : Hq E F_strings_TrimLeft (some [.str s, .str [c]]) n z = n (.str (Lib.trimLeftB s c)) :=
 h_eq (by show (if c < 128 then _ else _) = _; simp [hc])
theorem oc_Len64 {x : Int} {n : PV → Prop} {z : Blk n} (h0 : 0 ≤ x) (h1 : x ≤ 18446744073709551615) : Hq E F_math_bits_Len64 (some [.int .u64 x]) n z = n (.int .i64 (Lib.bitLen x.toNat)) :=
 h_eq (by show (if 0 ≤ x ∧ x ≤ 18446744073709551615 then _ else _) = _; simp [h0, h1])
theorem oc_Clone {s : List UInt8} {n : PV → Prop} {z : Blk n} (hs : s.length < 4294967281) : Hq E F_internal_stringslite_Clone (some [.str s]) n z = n (.str s) :=
 h_eq (by show (if small s then _ else _) = _; simp [small, hs])
end Go.Proofs.YtmngkcpobmhnoaaGreatDoor.Sim
