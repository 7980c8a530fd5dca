/- The oracles are what the library's functions do. -/
import Derived.Test.YtmngkcpobmhnoaaGreatDoorKEnv
import Derived.Test.YtmngkcpobmhnoaaGreatDoorKS2
import Derived.Test.YtmngkcpobmhnoaaGreatDoorKShelf
import Derived.Test.YtmngkcpobmhnoaaGreatDoorKCutLeft
import Derived.Test.YtmngkcpobmhnoaaGreatDoorKFmtWalk
import Derived.KernelRfl
set_option linter.all false
namespace Go.Proofs.YtmngkcpobmhnoaaGreatDoor.Sim
open Go.Proofs Go.RowKit

theorem orc_below {P : Program} {C : CEnv} {im : Im} {w : World} {g : FuncId} {vs : Array Value} {r : PV} {u : Value} (hw : ImOK C im w) (hv : VR (K0 im) r u)
  (hc : Calls P g vs w fun e w' => e = .returned u ∧ Below w.heap.size w w') : CallsIn Fence.wide 0 P g vs w (PurePost C im w r) := by
 rw [callsIn_wide]
 refine hc.mono fun e w' ⟨he, hb⟩ => ?_
 refine ⟨u, im, he, hv, fun _ _ _ h => h, fun _ _ _ => rfl, ⟨fun b o v hi => ?_, hw.glob⟩, ⟨hb.os, hb.tape, hb.output⟩, hb.size, hb.block⟩
 have h1 := hw.cell b o v hi
 have h2 := lt_of_cellAt h1
 unfold cellAt at h1 ⊢
 rw [hb.block b h2]; exact h1
theorem orc_same {P : Program} {C : CEnv} {im : Im} {w : World} {g : FuncId} {vs : Array Value} {r : PV} {u : Value} (hw : ImOK C im w) (hv : VR (K0 im) r u)
  (hc : Calls P g vs w fun e w' => e = .returned u ∧ w' = w) : CallsIn Fence.wide 0 P g vs w (PurePost C im w r) :=
 orc_below hw hv (hc.mono fun e w' ⟨he, hb⟩ => ⟨he, by rw [hb]; exact .refl _ _⟩)
theorem orc_drew {P : Program} {C : CEnv} {im : Im} {w : World} {g : FuncId} {vs : Array Value} {r : PV} {u : Value} (hw : ImOK C im w) (hv : VR (K0 im) r u)
  (hc : Calls P g vs w fun e w' => e = .returned u ∧ ∃ n, w' = w.drewN n) : CallsIn Fence.wide 0 P g vs w (PurePost C im w r) :=
 orc_below hw hv (hc.mono fun e w' ⟨he, n, hb⟩ => ⟨he, by rw [hb]; exact ⟨rfl, rfl, rfl, Nat.le_refl _, fun _ _ => rfl⟩⟩)

section
variable {K : KW} {vs : Array Value}
theorem args_s {s : List UInt8} (ha : ArgsOK K [.str s] vs) : vs = #[.string ⟨s.toArray⟩] := by
 have h1 := ha.size
 simp only [List.length_cons, List.length_nil] at h1
 apply Array.ext_getElem?
 intro i
 rcases i with _ | i
 ·have h2 : vs[0]? = some vs[0] := by simp [h1.symm]
  rw [h2, (ha.rel 0 _ _ rfl h2).str_inv]; rfl
 ·rw [Array.getElem?_eq_none (by omega), Array.getElem?_eq_none (by simp)]
theorem args_2 {p q : PV} (ha : ArgsOK K [p, q] vs) : ∃ u v, vs = #[u, v] ∧ VR K p u ∧ VR K q v := by
 have h1 := ha.size
 simp only [List.length_cons, List.length_nil] at h1
 have h2 : vs[0]? = some vs[0] := by simp [h1.symm]
 have h3 : vs[1]? = some vs[1] := by simp [h1.symm]
 refine ⟨vs[0], vs[1], ?_, ha.rel 0 _ _ rfl h2, ha.rel 1 _ _ rfl h3⟩
 apply Array.ext_getElem?
 intro i
 rcases i with _ | _ | i
 ·rw [h2]; rfl
 ·rw [h3]; rfl
 ·rw [Array.getElem?_eq_none (by omega), Array.getElem?_eq_none (by simp)]
theorem args_ss {s t : List UInt8} (ha : ArgsOK K [.str s, .str t] vs) : vs = #[.string ⟨s.toArray⟩, .string ⟨t.toArray⟩] := by
 obtain ⟨u, v, h, h1, h2⟩ := args_2 ha
 rw [h, h1.str_inv, h2.str_inv]
theorem args_si {s : List UInt8} {k : IntKind} {n : Int} (ha : ArgsOK K [.str s, .int k n] vs) : vs = #[.string ⟨s.toArray⟩, .int k n] := by
 obtain ⟨u, v, h, h1, h2⟩ := args_2 ha
 rw [h, h1.str_inv, h2.int_inv]
theorem args_i {k : IntKind} {n : Int} (ha : ArgsOK K [.int k n] vs) : vs = #[.int k n] := by
 have h1 := ha.size
 simp only [List.length_cons, List.length_nil] at h1
 apply Array.ext_getElem?
 intro i
 rcases i with _ | i
 ·have h2 : vs[0]? = some vs[0] := by simp [h1.symm]
  rw [h2, (ha.rel 0 _ _ rfl h2).int_inv]; rfl
 ·rw [Array.getElem?_eq_none (by omega), Array.getElem?_eq_none (by simp)]
end
theorem vr_str {K : KW} {s : List UInt8} : VR K (.str s) (.string ⟨s.toArray⟩) := .ir (.str s)
theorem vr_bool {K : KW} {b : Bool} : VR K (.bool b) (.bool b) := .ir (.bool b)
theorem vr_int {K : KW} {k : IntKind} {n : Int} : VR K (.int k n) (.int k n) := .ir (.int k n)
theorem vr_t2 {K : KW} {p q : PV} {u v : Value} (h1 : VR K p u) (h2 : VR K q v) : VR K (.tuple [p, q]) (.tuple #[u, v]) :=
 .tuple _ _ rfl fun i a b ha hb => by
  rcases i with _ | _ | i
  ·cases ha; cases hb; exact h1
  ·cases ha; cases hb; exact h2
  ·simp at ha
theorem vr_t3 {K : KW} {p q o : PV} {u v x : Value} (h1 : VR K p u) (h2 : VR K q v) (h3 : VR K o x) : VR K (.tuple [p, q, o]) (.tuple #[u, v, x]) :=
 .tuple _ _ rfl fun i a b ha hb => by
  rcases i with _ | _ | _ | i
  ·cases ha; cases hb; exact h1
  ·cases ha; cases hb; exact h2
  ·cases ha; cases hb; exact h3
  ·simp at ha

theorem maxlen {im : Im} {w : World} (hw : ImOK C im w) : ∃ m, w.cell? ⟨V_internal_bytealg_MaxLen, 0, none⟩ = some (.int .i64 m) := by
 have h := hw.glob V_internal_bytealg_MaxLen [.anyInt .i64] (by rfl)
 cases h with
 | cptr cs b o off h1 h2 =>
  obtain ⟨v, hv⟩ := Option.isSome_iff_exists.1 (h1 0 _ rfl)
  have := h2 0 _ v rfl hv
  cases this with
  | anyInt k n =>
   have := hw.cell _ _ _ hv
   exact ⟨n, by rw [cell_eq]; simpa using this⟩

theorem small_lt {s : List UInt8} (h : small s = true) : s.length < 4294967281 := by simpa [small] using h
theorem size_mk {s : List UInt8} : (⟨s.toArray⟩ : ByteArray).size = s.length := by simp [ByteArray.size]

theorem hasCode_of {P : Program} {g : FuncId} (h : (match P.funcs[g]? with | some fn => fn.name != "runtime.NumGoroutine" && !fn.body.isNone | none => false) = true) : HasCode P g := by
 split at h
 ·rename_i fn hf
  simp only [Bool.and_eq_true, bne_iff_ne, ne_eq, Bool.not_eq_true'] at h
  exact ⟨fn, hf, h.1, h.2⟩
 ·cases h

def Or1 (g : FuncId) : Prop := ∀ ps r, orcF g ps = some r → ∀ im w vs, ImOK C im w → ArgsOK (K0 im) ps vs → HasCode Tryz.prog g ∧ CallsIn Fence.wide 0 Tryz.prog g vs w (PurePost C im w r)

theorem or_IndexByte : Or1 F_strings_IndexByte := by
 intro ps r h im w vs hw ha
 simp only [orcF, if_true] at h
 split at h
 ·cases h
  rw [args_si ha]
  refine ⟨hasCode_of (by kernel_rfl), orc_same hw vr_int ?_⟩
  simpa using Tryz.strings_IndexByte _ _ w
 ·cases h
theorem or_HasPrefix : Or1 F_strings_HasPrefix := by
 intro ps r h im w vs hw ha
 unfold orcF at h
 simp (config := { decide := true }) only [if_true, if_false] at h
 split at h
 ·cases h
  rw [args_ss ha]
  refine ⟨hasCode_of (by kernel_rfl), orc_same hw vr_bool ?_⟩
  simpa using Tryz.strings_HasPrefix _ _ w
 ·cases h
theorem or_Cut : Or1 F_strings_Cut := by
 intro ps r h im w vs hw ha
 unfold orcF at h
 simp (config := { decide := true }) only [if_true, if_false] at h
 split at h
 ·split at h
  ·rename_i hs
   cases h
   rw [args_ss ha]
   obtain ⟨m, hm⟩ := maxlen hw
   refine ⟨hasCode_of (by kernel_rfl), orc_drew hw (vr_t3 vr_str vr_str vr_bool) ?_⟩
   simpa using Tryz.strings_Cut _ _ m w (by rw [size_mk]; exact small_lt hs) hm
  ·cases h
 ·cases h

theorem or_Index : Or1 F_strings_Index := by
 intro ps r h im w vs hw ha
 unfold orcF at h
 simp (config := { decide := true }) only [if_true, if_false] at h
 split at h
 ·split at h
  ·rename_i hs
   cases h
   rw [args_ss ha]
   obtain ⟨m, hm⟩ := maxlen hw
   refine ⟨hasCode_of (by kernel_rfl), orc_same hw vr_int ?_⟩
   simpa using Tryz.strings_Index _ _ m w (by rw [size_mk]; exact small_lt hs) hm
  ·cases h
 ·cases h
theorem or_Contains : Or1 F_strings_Contains := by
 intro ps r h im w vs hw ha
 unfold orcF at h
 simp (config := { decide := true }) only [if_true, if_false] at h
 split at h
 ·split at h
  ·rename_i hs
   cases h
   rw [args_ss ha]
   obtain ⟨m, hm⟩ := maxlen hw
   refine ⟨hasCode_of (by kernel_rfl), orc_same hw vr_bool ?_⟩
   simpa using Tryz.strings_Contains _ _ m w (by rw [size_mk]; exact small_lt hs) hm
  ·cases h
 ·cases h
theorem or_CutPrefix : Or1 F_strings_CutPrefix := by
 intro ps r h im w vs hw ha
 unfold orcF at h
 simp (config := { decide := true }) only [if_true, if_false] at h
 split at h
 ·skip
  ·skip
   cases h
   rw [args_ss ha]
   refine ⟨hasCode_of (by kernel_rfl), orc_same hw (vr_t2 vr_str vr_bool) ?_⟩
   simpa using Tryz.strings_CutPrefix _ _ w

 ·cases h
theorem or_CutSuffix : Or1 F_strings_CutSuffix := by
 intro ps r h im w vs hw ha
 unfold orcF at h
 simp (config := { decide := true }) only [if_true, if_false] at h
 split at h
 ·split at h
  ·rename_i hs
   cases h
   rw [args_ss ha]
   refine ⟨hasCode_of (by kernel_rfl), orc_same hw (vr_t2 vr_str vr_bool) ?_⟩
   simpa using Tryz.strings_CutSuffix _ _ w (by rw [size_mk]; have := small_lt hs; omega)
  ·cases h
 ·cases h
theorem or_Len64 : Or1 F_math_bits_Len64 := by
 intro ps r h im w vs hw ha
 unfold orcF at h
 simp (config := { decide := true }) only [if_true, if_false] at h
 split at h
 ·split at h
  ·rename_i hs
   cases h
   rw [args_i ha]
   refine ⟨hasCode_of (by kernel_rfl), orc_same hw vr_int ?_⟩
   simpa using Tryz.bits_Len64 _ w hs.1 hs.2
  ·cases h
 ·cases h
theorem or_Clone : Or1 F_internal_stringslite_Clone := by
 intro ps r h im w vs hw ha
 unfold orcF at h
 simp (config := { decide := true }) only [if_true, if_false] at h
 split at h
 ·split at h
  ·rename_i hs
   cases h
   rw [args_s ha]
   refine ⟨hasCode_of (by kernel_rfl), orc_below hw vr_str ?_⟩
   simpa using Tryz.stringslite_Clone _ w (by rw [size_mk]; have := small_lt hs; omega)
  ·cases h
 ·cases h
theorem ascii_get {s : List UInt8} (h : ascii s = true) (j : Nat) (b : UInt8) (hb : (⟨s.toArray⟩ : ByteArray).data.toList[j]? = some b) : b.toNat < 128 := by
 have h2 : s[j]? = some b := by simpa using hb
 have := List.all_eq_true.1 h b (List.mem_of_getElem? h2)
 have h3 : b < 128 := by simpa using this
 exact UInt8.lt_iff_toNat_lt.1 h3
theorem or_ContainsAny : Or1 F_strings_ContainsAny := by
 intro ps r h im w vs hw ha
 unfold orcF at h
 simp (config := { decide := true }) only [if_true, if_false] at h
 split at h
 ·split at h
  ·rename_i hs
   cases h
   simp only [Bool.and_eq_true] at hs
   rw [args_ss ha]
   refine ⟨hasCode_of (by kernel_rfl), orc_below hw vr_bool ?_⟩
   simpa using Tryz.strings_ContainsAny_laid _ _ w (by rw [size_mk]; exact small_lt hs.1.1.1) (by rw [size_mk]; exact small_lt hs.1.1.2) (ascii_get hs.1.2) (ascii_get hs.2)
  ·cases h
 ·cases h

theorem or_TrimLeft : Or1 F_strings_TrimLeft := by
 intro ps r h im w vs hw ha
 unfold orcF at h
 simp (config := { decide := true }) only [if_true, if_false] at h
 split at h
 ·split at h
  ·rename_i hs
   cases h
   rw [args_ss ha]
   refine ⟨hasCode_of (by kernel_rfl), orc_same hw vr_str ?_⟩
   simpa using Tryz.strings_TrimLeft_one _ _ (UInt8.lt_iff_toNat_lt.1 hs) w
  ·cases h
 ·cases h

theorem glob_cell {im : Im} {w : World} (hw : ImOK C im w) {g : Nat} {cs : List PV} (hg : C.glob g = some cs) {j : Nat} {p : PV} (hj : cs[j]? = some p) : ∃ v, IR im p v ∧ w.cell? ⟨g, j, none⟩ = some v := by
 have h := hw.glob g cs hg
 generalize ha : (Value.pointer (some ⟨g, 0, none⟩)) = a at h
 cases h with
 | cptr _ b o off h1 h2 =>
  injection ha with ha
  injection ha with ha
  injection ha with hb ho _
  obtain ⟨v, hv⟩ := Option.isSome_iff_exists.1 (h1 j p hj)
  refine ⟨v, h2 j p v hj hv, ?_⟩
  rw [cell_eq, hb]
  have : o = 0 := by omega
  rw [this, Nat.zero_add] at hv
  exact hw.cell _ _ _ hv
 | _ => cases ha
theorem ir_int {im : Im} {k : IntKind} {n : Int} {v : Value} (h : IR im (.int k n) v) : v = .int k n := by cases h; rfl
theorem utf8Tabs {im : Im} {w : World} (hw : ImOK C im w) : Lib.Utf8Tabs V_unicode_utf8_first V_unicode_utf8_acceptRanges w := by
 constructor
 ·intro c hc
  obtain ⟨v, h1, h2⟩ := glob_cell hw (g := V_unicode_utf8_first) (cs := (List.range 256).map fun c => .int .u8 (Lib.firstT c)) (by rfl) (j := c) (p := .int .u8 (Lib.firstT c)) (by simp [hc])
  rw [h2, ir_int h1]
 ·intro i hi
  have key : ∀ i : Nat, i < 16 → ((List.range 16).flatMap fun i => [PV.int .u8 (Lib.accLo i), .int .u8 (Lib.accHi i)])[2 * i]? = some (.int .u8 (Lib.accLo i)) ∧ ((List.range 16).flatMap fun i => [PV.int .u8 (Lib.accLo i), .int .u8 (Lib.accHi i)])[2 * i + 1]? = some (.int .u8 (Lib.accHi i)) := by
   intro i hi
   rcases i with _|_|_|_|_|_|_|_|_|_|_|_|_|_|_|_|i <;> first | exact ⟨rfl, rfl⟩ | omega
  obtain ⟨k1, k2⟩ := key i hi
  obtain ⟨v, h1, h2⟩ := glob_cell hw (g := V_unicode_utf8_acceptRanges) (by rfl) k1
  obtain ⟨v', h1', h2'⟩ := glob_cell hw (g := V_unicode_utf8_acceptRanges) (by rfl) k2
  exact ⟨by rw [h2, ir_int h1], by rw [h2', ir_int h1']⟩

def caseRow (x : Lib.CaseRow) : List PV := [.int .u32 x.1, .int .u32 x.2.1, .int .i32 x.2.2.1, .int .i32 x.2.2.2.1, .int .i32 x.2.2.2.2]
theorem caseVar {im : Im} {w : World} (hw : ImOK C im w) : Lib.CaseVar V_unicode_CaseRanges Lib.caseA w := by
 obtain ⟨v, h1, h2⟩ := glob_cell hw (g := V_unicode_CaseRanges) (cs := [.slice .shared 5 (Lib.caseT.map caseRow)]) (by rfl) (j := 0) rfl
 have hne : Lib.caseT.map caseRow ≠ [] := by decide
 generalize hL : Lib.caseT.map caseRow = L at h1 hne
 cases h1 with
 | snil' => exact absurd rfl hne
 | shared es L b off cap hcap hl g1 g2 =>
  have hlen : L.length = Lib.caseA.size := by rw [← hL]; simp [Lib.caseA]
  refine ⟨b, off, cap, by rw [h2, hlen], fun i hi => ?_⟩
  have hi' : i < Lib.caseT.length := by simpa [Lib.caseA] using hi
  have hrow : L[i]? = some (caseRow (Lib.caseA.getD i (0, 0, 0, 0, 0))) := by
   rw [← hL, List.getElem?_map, List.getElem?_eq_getElem hi']
   simp [Lib.caseA, Array.getD, hi']
  have cell : ∀ (j : Nat) (k : IntKind) (n : Int), (caseRow (Lib.caseA.getD i (0, 0, 0, 0, 0)))[j]? = some (.int k n) → w.cell? ⟨b, off + i * 5 + j, none⟩ = some (.int k n) := by
   intro j k n hj
   obtain ⟨v, hv⟩ := Option.isSome_iff_exists.1 (g1 i _ j _ hrow hj)
   have := g2 i _ j _ v hrow hj hv
   rw [ir_int this] at hv
   rw [cell_eq]; exact hw.cell _ _ _ hv
  exact ⟨cell 0 _ _ rfl, cell 1 _ _ rfl, cell 2 _ _ rfl, cell 3 _ _ rfl, cell 4 _ _ rfl⟩
theorem or_ToLower : Or1 F_strings_ToLower := by
 intro ps r h im w vs hw ha
 unfold orcF at h
 simp (config := { decide := true }) only [if_true, if_false] at h
 split at h
 ·split at h
  ·rename_i hs
   cases h
   rw [args_s ha]
   refine ⟨hasCode_of (by kernel_rfl), orc_below hw vr_str ?_⟩
   simpa using Tryz.strings_ToLower_any _ w (by rw [size_mk]; have := small_lt hs; omega) (caseVar hw) (utf8Tabs hw)
  ·cases h
 ·cases h

theorem or_cutLeft : Or1 F_cond_cutLeft := by
 intro ps r h im w vs hw ha
 unfold orcF at h
 simp (config := { decide := true }) only [if_true, if_false] at h
 split at h
 ·split at h
  ·rename_i hs
   cases h
   simp only [Bool.and_eq_true] at hs
   rw [args_ss ha]
   refine ⟨hasCode_of (by kernel_rfl), orc_below hw vr_str ?_⟩
   refine cutLeft_walk _ _ w (fun j hj => ?_) (by rw [size_mk]; exact small_lt hs.1)
   exact ascii_get hs.2 j _ (List.getElem?_eq_getElem (by rw [size_mk] at hj; simpa using hj))
  ·cases h
 ·cases h

theorem args_ii {K : KW} {vs : Array Value} {k l : IntKind} {n m : Int} (ha : ArgsOK K [.int k n, .int l m] vs) : vs = #[.int k n, .int l m] := by
 obtain ⟨u, v, h, h1, h2⟩ := args_2 ha
 rw [h, h1.int_inv, h2.int_inv]
theorem pow_tab {im : Im} {w : World} (hw : ImOK C im w) : PowTab w := fun i hi => by
 obtain ⟨v, h1, h2⟩ := glob_cell hw (g := V_internal_strconv_uint64pow10) (cs := (List.range 20).map fun i => .int .u64 ((10 ^ i : Nat) : Int)) (by rfl) (j := i) (p := .int .u64 ((10 ^ i : Nat) : Int)) (by simp [hi])
 cases h1
 exact h2
theorem or_FormatUint : Or1 F_strconv_FormatUint := by
 intro ps r h im w vs hw ha
 unfold orcF at h
 simp (config := { decide := true }) only [if_true, if_false] at h
 split at h
 ·rename_i n
  split at h
  ·rename_i hn
   cases h
   rw [args_ii ha]
   refine ⟨hasCode_of (by kernel_rfl), orc_below hw vr_str ?_⟩
   have := fmtUint_walk n.toNat (by omega) w (pow_tab hw)
   rw [Int.toNat_of_nonneg hn.1] at this
   exact this
  ·cases h
 ·cases h
theorem orc_sim : PureSim Tryz.prog C E.orc := by
 intro g ps r h
 have h : orcF g ps = some r := h
 have key : ∀ g', Or1 g' → g = g' → ∀ im w vs, ImOK C im w → ArgsOK (K0 im) ps vs → HasCode Tryz.prog g ∧ CallsIn Fence.wide 0 Tryz.prog g vs w (PurePost C im w r) := by
  rintro _ ho rfl
  exact ho ps r h
 by_cases e1 : g = F_strings_IndexByte
 ·exact key _ or_IndexByte e1
 by_cases e2 : g = F_strings_Index
 ·exact key _ or_Index e2
 by_cases e3 : g = F_strings_Contains
 ·exact key _ or_Contains e3
 by_cases e4 : g = F_strings_Cut
 ·exact key _ or_Cut e4
 by_cases e5 : g = F_strings_ContainsAny
 ·exact key _ or_ContainsAny e5
 by_cases e6 : g = F_strings_ToLower
 ·exact key _ or_ToLower e6
 by_cases e7 : g = F_strings_TrimLeft
 ·exact key _ or_TrimLeft e7
 by_cases e8 : g = F_strings_HasPrefix
 ·exact key _ or_HasPrefix e8
 by_cases e9 : g = F_strings_CutPrefix
 ·exact key _ or_CutPrefix e9
 by_cases e10 : g = F_strings_CutSuffix
 ·exact key _ or_CutSuffix e10
 by_cases e11 : g = F_math_bits_Len64
 ·exact key _ or_Len64 e11
 by_cases e12 : g = F_internal_stringslite_Clone
 ·exact key _ or_Clone e12
 by_cases e13 : g = F_cond_cutLeft
 ·exact key _ or_cutLeft e13
 by_cases e14 : g = F_strconv_FormatUint
 ·exact key _ or_FormatUint e14
 unfold orcF at h
 rw [if_neg e1, if_neg e2, if_neg e3, if_neg e4, if_neg e5, if_neg e6, if_neg e7, if_neg e8, if_neg e9, if_neg e10, if_neg e11, if_neg e12, if_neg e13, if_neg e14] at h
 cases h
end Go.Proofs.YtmngkcpobmhnoaaGreatDoor.Sim
