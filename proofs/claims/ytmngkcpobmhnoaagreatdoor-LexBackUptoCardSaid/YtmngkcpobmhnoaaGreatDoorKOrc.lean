/- What functions of Go's library come to, that are not run: the evaluator's oracles. -/
import Derived.Test.YtmngkcpobmhnoaaGreatDoorKIds
import Derived.Lib.Bytealg
import Derived.Lib.IndexMore
import Derived.Lib.IndexAny
import Derived.Lib.TrimByte
import Derived.Lib.Strings
import Derived.Lib.BitFns
import Derived.Lib.MapU
import Derived.Lib.ItoaNum
set_option linter.all false
namespace Go.Proofs.YtmngkcpobmhnoaaGreatDoor.Sim

def ascii (l : List UInt8) : Bool := l.all fun c => c < 128
def small (l : List UInt8) : Bool := l.length < 4294967281

def cutLeftS (s set : List UInt8) : List UInt8 := s.dropWhile fun c => set.contains c

def orcF (g : FuncId) (as : List PV) : Option PV :=
 if g = F_strings_IndexByte then match as with
  | [.str s, .int .u8 c] => some (.int .i64 (Lib.indexByte s c.toNat.toUInt8))
  | _ => none
 else if g = F_strings_Index then match as with
  | [.str s, .str t] => if small s then some (.int .i64 (Lib.index s t)) else none
  | _ => none
 else if g = F_strings_Contains then match as with
  | [.str s, .str t] => if small s then some (.bool (Lib.contains s t)) else none
  | _ => none
 else if g = F_strings_Cut then match as with
  | [.str s, .str t] => if small s then some (.tuple [.str (Lib.cut s t).1, .str (Lib.cut s t).2.1, .bool (Lib.cut s t).2.2]) else none
  | _ => none
 else if g = F_strings_ContainsAny then match as with
  | [.str s, .str t] => if small s && small t && ascii s && ascii t then some (.bool (Lib.containsAny s t)) else none
  | _ => none
 else if g = F_strings_ToLower then match as with
  | [.str s] => if small s then some (.str (Lib.toLowerD s)) else none
  | _ => none
 else if g = F_strings_TrimLeft then match as with
  | [.str s, .str [c]] => if c < 128 then some (.str (Lib.trimLeftB s c)) else none
  | _ => none
 else if g = F_strings_HasPrefix then match as with
  | [.str s, .str t] => some (.bool (Lib.hasPrefix s t))
  | _ => none
 else if g = F_strings_CutPrefix then match as with
  | [.str s, .str t] => some (.tuple [.str (Lib.trimPrefix s t), .bool (Lib.hasPrefix s t)])
  | _ => none
 else if g = F_strings_CutSuffix then match as with
  | [.str s, .str t] => if small s then some (.tuple [.str (Lib.trimSuffix s t), .bool (Lib.hasSuffix s t)]) else none
  | _ => none
 else if g = F_math_bits_Len64 then match as with
  | [.int .u64 n] => if 0 ≤ n ∧ n ≤ 18446744073709551615 then some (.int .i64 (Lib.bitLen n.toNat)) else none
  | _ => none
 else if g = F_internal_stringslite_Clone then match as with
  | [.str s] => if small s then some (.str s) else none
  | _ => none
 else if g = F_cond_cutLeft then match as with
  | [.str s, .str t] => if small s && ascii t then some (.str (cutLeftS s t)) else none
  | _ => none
 else if g = F_strconv_FormatUint then match as with
  | [.int .u64 n, .int .i64 10] => if 0 ≤ n ∧ n < 18446744073709551616 then some (.str (Lib.decDigits n.toNat)) else none
  | _ => none
 else none

def horcF (g : FuncId) (as : List PV) (h : Heap) : Option (PV × Heap) :=
 if g = F_strings_Builder_copyCheck then match as with
  | [.ptr id 0] => match h.box id with
   | some [.nilptr, x] => if h.bty id = T_strings_Builder then some (.tuple [], h.setBox id [.ptr id 0, x]) else none
   | some [.ptr i 0, x] => if i = id then some (.tuple [], h) else none
   | _ => none
  | _ => none
 else if g = F_strings_Builder_String then match as with
  | [.ptr id 0] => match h.box id with
   | some [_, .slice .nil _ _] => some (.str [], h)
   | some [_, .slice (.own i true) es L] => if h.live i ∧ L ≠ [] ∧ es = 1 ∧ L.length ≤ 140737488355328 then (mapO cellByte L).map fun s => (.str s, h) else none
   | _ => none
  | _ => none
 else none

end Go.Proofs.YtmngkcpobmhnoaaGreatDoor.Sim
