/- Glue: what a row's list of variables gives; the way from the evaluator to a call of the program; arguments. -/
import Derived.Test.YtmngkcpobmhnoaaGreatDoorKComp
import Derived.Test.YtmngkcpobmhnoaaGreatDoorKOrcSim
import Derived.Test.YtmngkcpobmhnoaaGreatDoorRows
import Derived.ProofKit
import Derived.Deep.Slices
import Derived.Deep.DeepHandedRow
import Derived.Deep.DeepWitnessRowRef
import Derived.Lib.LaidCase
import Derived.Lib.LaidU8
set_option linter.all false
namespace Go.Proofs.YtmngkcpobmhnoaaGreatDoor.Sim
open Go.Proofs Go.RowKit Go.Shelf Go.Lib

def imOf (W : World) : Im := fun b o => cellAt W.heap b o
theorem im_cell {W : World} {b o : Nat} {v : Value} (h : W.cell? ⟨b, o, none⟩ = some v) : imOf W b o = some v := by
 rw [cell_eq] at h; exact h
theorem ir_cells {W : World} {g : Nat} {cs : List PV} (h : ∀ (j : Nat) (p : PV), cs[j]? = some p → ∃ v, W.cell? ⟨g, j, none⟩ = some v ∧ IR (imOf W) p v) : IR (imOf W) (.cptr cs 0) (.pointer (some ⟨g, 0, none⟩)) := by
 refine .cptr cs g 0 0 (fun j p hj => ?_) (fun j p c hj hc => ?_)
 ·obtain ⟨v, h1, _⟩ := h j p hj
  rw [Nat.zero_add, im_cell h1]; rfl
 ·obtain ⟨v, h1, h2⟩ := h j p hj
  rw [Nat.zero_add, im_cell h1] at hc
  cases hc; exact h2

theorem ir_str' {im : Im} (s : ByteArray) : IR im (.str s.data.toList) (.string s) := by
 have : s = ⟨s.data.toList.toArray⟩ := by cases s; simp
 conv => rhs; rw [this]
 exact .str _

section
variable {W : World}
theorem string_of_trod {H : Type} {enc : TypeId × Value → H} {P : Program} {base : Nat} {sp : Nat → Bool} {held : Bool} {fuel : Nat} {t : TypeId} {cs : List Value} {d : DataW H} {p : List MemPlace}
  (ht : P.underlying t = some .string) (h : DataW.trod enc P W base sp held fuel t cs = some (d, p)) : ∃ s : ByteArray, cs = [.string s] ∧ d = .lit (.string s.data.toList) := by
 cases fuel with
 | zero => simp [DataW.trod] at h
 | succ fuel =>
  match cs with
  | [] => simp [DataW.trod, ht] at h
  | [v] =>
   cases v <;> simp [DataW.trod, ht] at h
   exact ⟨_, rfl, h.2.1.symm⟩
  | _ :: _ :: _ => simp [DataW.trod, ht] at h
end

set_option maxRecDepth 20000 in
theorem signs_read {W : World} (h : VarReads Tryz.prog W "burin/token.signs" Rows.laid_burin_token_signs) (j : Nat) (x : List UInt8) (hx : signsL[j]? = some x) : ∃ s : ByteArray, W.cell? ⟨V_token_signs, j, none⟩ = some (.string s) ∧ s.data.toList = x := by
 obtain ⟨g, t, cs, fuel, p, hg, ht, hv, hd⟩ := h
 obtain rfl : V_token_signs = g := Option.some.inj ((show Tryz.prog.globalNamed "burin/token.signs" = some V_token_signs by kernel_rfl).symm.trans hg)
 obtain rfl : 140 = t := Option.some.inj ((show (Tryz.prog.globals[V_token_signs]?).map (·.type) = some 140 by kernel_rfl).symm.trans ht)
 have hj : j < 48 := (List.getElem?_eq_some_iff.1 hx).1
 obtain ⟨f2, d, q, h1, h2⟩ := array_elem Tryz.underlying140 hd j hj
 have hd' : d = .lit (.string x) := by
  have e : ∀ (k : Nat) (y : List UInt8), signsL[k]? = some y → ([.lit (.string [46, 46, 46]), .lit (.string [60, 60, 61]), .lit (.string [62, 62, 61]), .lit (.string [45, 62]), .lit (.string [43, 43]), .lit (.string [45, 45]), .lit (.string [60, 60]), .lit (.string [62, 62]), .lit (.string [60, 61]), .lit (.string [62, 61]), .lit (.string [61, 61]), .lit (.string [33, 61]), .lit (.string [38, 38]), .lit (.string [124, 124]), .lit (.string [42, 61]), .lit (.string [47, 61]), .lit (.string [37, 61]), .lit (.string [43, 61]), .lit (.string [45, 61]), .lit (.string [38, 61]), .lit (.string [94, 61]), .lit (.string [124, 61]), .lit (.string [35, 35]), .lit (.string [91]), .lit (.string [93]), .lit (.string [40]), .lit (.string [41]), .lit (.string [123]), .lit (.string [125]), .lit (.string [46]), .lit (.string [38]), .lit (.string [42]), .lit (.string [43]), .lit (.string [45]), .lit (.string [126]), .lit (.string [33]), .lit (.string [47]), .lit (.string [37]), .lit (.string [60]), .lit (.string [62]), .lit (.string [94]), .lit (.string [124]), .lit (.string [63]), .lit (.string [58]), .lit (.string [59]), .lit (.string [61]), .lit (.string [44]), .lit (.string [35])] : List (DataW Unit))[k]? = some (.lit (.string y)) := by
   intro k y hy
   have : ([.lit (.string [46, 46, 46]), .lit (.string [60, 60, 61]), .lit (.string [62, 62, 61]), .lit (.string [45, 62]), .lit (.string [43, 43]), .lit (.string [45, 45]), .lit (.string [60, 60]), .lit (.string [62, 62]), .lit (.string [60, 61]), .lit (.string [62, 61]), .lit (.string [61, 61]), .lit (.string [33, 61]), .lit (.string [38, 38]), .lit (.string [124, 124]), .lit (.string [42, 61]), .lit (.string [47, 61]), .lit (.string [37, 61]), .lit (.string [43, 61]), .lit (.string [45, 61]), .lit (.string [38, 61]), .lit (.string [94, 61]), .lit (.string [124, 61]), .lit (.string [35, 35]), .lit (.string [91]), .lit (.string [93]), .lit (.string [40]), .lit (.string [41]), .lit (.string [123]), .lit (.string [125]), .lit (.string [46]), .lit (.string [38]), .lit (.string [42]), .lit (.string [43]), .lit (.string [45]), .lit (.string [126]), .lit (.string [33]), .lit (.string [47]), .lit (.string [37]), .lit (.string [60]), .lit (.string [62]), .lit (.string [94]), .lit (.string [124]), .lit (.string [63]), .lit (.string [58]), .lit (.string [59]), .lit (.string [61]), .lit (.string [44]), .lit (.string [35])] : List (DataW Unit)) = signsL.map fun y => .lit (.string y) := rfl
   rw [this, List.getElem?_map, hy]; rfl
  have := e j x hx
  rw [this] at h1
  exact (Option.some.inj h1).symm
 subst hd'
 obtain ⟨s, h3, h4⟩ := string_of_trod Tryz.underlying9 h2
 refine ⟨s, ?_, ?_⟩
 ·rw [World.var?_cell hg hv j]
  rw [show Tryz.prog.cellsOf 9 = 1 by kernel_rfl, Nat.mul_one] at h3
  have := at_of_take h3
  rw [← Array.getElem?_toList]; exact this
 ·injection h4 with h4; injection h4 with h4; exact h4.symm

theorem err_read {W : World} {n : String} {nm : String} {d : DataW Unit} {g : Nat} (h : VarReads Tryz.prog W n (.iface nm d)) (hg : Tryz.prog.globalNamed n = some g) (ht : (Tryz.prog.globals[g]?).map (·.type) = some 89) :
  ∃ t v, W.cell? ⟨g, 0, none⟩ = some (.iface t v) := by
 obtain ⟨g', t, cs, fuel, p, hg', ht', hv, hd⟩ := h
 obtain rfl : g = g' := Option.some.inj (hg.symm.trans hg')
 obtain rfl : 89 = t := Option.some.inj (ht.symm.trans ht')
 obtain ⟨_, u, v, e, _⟩ := iface_of_trod Tryz.underlying89 hd
 refine ⟨u, v, ?_⟩
 rw [World.var?_cell hg hv 0, ← Array.getElem?_toList, e]; rfl

theorem pow_read {W : World} (h : VarReads Tryz.prog W "internal/strconv.uint64pow10" Rows.laid_internal_strconv_uint64pow10) (i : Nat) (hi : i < 20) : W.cell? ⟨V_internal_strconv_uint64pow10, i, none⟩ = some (.int .u64 ((10 ^ i : Nat) : Int)) := by
 obtain ⟨g, t, cs, fuel, p, hg, ht, hv, hd⟩ := h
 obtain rfl : V_internal_strconv_uint64pow10 = g := Option.some.inj ((show Tryz.prog.globalNamed "internal/strconv.uint64pow10" = some V_internal_strconv_uint64pow10 by kernel_rfl).symm.trans hg)
 obtain rfl : 190 = t := Option.some.inj ((show (Tryz.prog.globals[V_internal_strconv_uint64pow10]?).map (·.type) = some 190 by kernel_rfl).symm.trans ht)
 have hlaid : (Rows.laid_internal_strconv_uint64pow10 : DataW Unit) = tabData .u64 pow10Tab := by kernel_rfl
 rw [hlaid] at hd
 have hc := cells_of_tab Tryz.underlying190 Tryz.underlying32 (by kernel_rfl) (by kernel_rfl) hd
 rw [World.var?_cell hg hv i, ← Array.getElem?_toList, hc]
 simp [pow10Tab, hi]

set_option maxRecDepth 100000 in
theorem glob_ok {W : World} (hL : laidMet Tryz.prog Rows.lexWordsRow.laid W) (hsh : W.ShapedOpen Tryz.prog) : ImOK C (imOf W) W := by
 refine ⟨fun b o v h => h, fun g cs hg => ?_⟩
 have hg : globF g = some cs := hg
 unfold globF at hg
 split at hg
 ·rename_i e
  subst e; cases hg
  refine ir_cells fun j p hj => ?_
  rw [show sgnG = signsL.map PV.str from rfl, List.getElem?_map] at hj
  obtain ⟨x, hx, rfl⟩ := Option.map_eq_some_iff.1 hj
  obtain ⟨s, h1, rfl⟩ := signs_read (laidMet.reads hL (.tail _ (.tail _ (.tail _ (.tail _ (.tail _ (.tail _ (.head _)))))))) j x hx
  exact ⟨_, h1, ir_str' s⟩
 split at hg
 ·rename_i e
  subst e; cases hg
  refine ir_cells fun j p hj => ?_
  rcases j with _ | j
  ·cases hj
   obtain ⟨t, v, h1⟩ := err_read (g := V_strconv_ErrSyntax) (laidMet.reads hL (.tail _ (.tail _ (.tail _ (.tail _ (.tail _ (.head _))))))) (by kernel_rfl) (by kernel_rfl)
   exact ⟨_, h1, .ifc t v⟩
  ·simp at hj
 split at hg
 ·rename_i e
  subst e; cases hg
  refine ir_cells fun j p hj => ?_
  rcases j with _ | j
  ·cases hj
   obtain ⟨t, v, h1⟩ := err_read (g := V_strconv_ErrRange) (laidMet.reads hL (.tail _ (.tail _ (.tail _ (.tail _ (.head _)))))) (by kernel_rfl) (by kernel_rfl)
   exact ⟨_, h1, .ifc t v⟩
  ·simp at hj
 split at hg
 ·rename_i e
  subst e; cases hg
  refine ir_cells fun j p hj => ?_
  rcases j with _ | j
  ·cases hj
   obtain ⟨m, h1⟩ := Tryz.laysM144.s1_3 W hsh
   exact ⟨_, h1, .anyInt _ _⟩
  ·simp at hj
 split at hg
 ·rename_i e
  subst e; cases hg
  refine ir_cells fun j p hj => ?_
  rcases j with _ | j
  ·cases hj
   have hr := laidMet.reads hL (.tail _ (.tail _ (.tail _ (.tail _ (.tail _ (.tail _ (.tail _ (.head _))))))))
   obtain ⟨R, oR, cap, h1, h2⟩ := caseVar_of_reads { Tryz.lays159 with } Tryz.lays159.t206 ⟨by kernel_rfl, by kernel_rfl, by kernel_rfl, by kernel_rfl, by kernel_rfl, by kernel_rfl⟩ hr
   have hcap : caseA.size ≤ cap := by
    obtain ⟨g', t, cs, fuel, p, hg', ht', hv, hd⟩ := hr
    obtain rfl : V_unicode_CaseRanges = g' := Option.some.inj ((show Tryz.prog.globalNamed "unicode.CaseRanges" = some V_unicode_CaseRanges by kernel_rfl).symm.trans hg')
    obtain rfl : 184 = t := Option.some.inj ((show (Tryz.prog.globals[V_unicode_CaseRanges]?).map (·.type) = some 184 by kernel_rfl).symm.trans ht')
    have hcell := World.var?_cell hg' hv 0
    rw [← Array.getElem?_toList] at hcell
    rcases Go.Deep.open_slice Tryz.underlying184 hd with ⟨e, e2⟩ | ⟨a, len, cap', m, n, D, Pl, e, _, hl, _⟩
    ·exact absurd (congrArg Prod.fst e2) (by show (DataW.slice _ _ : DataW Unit) ≠ .nil; intro h; cases h)
    ·rw [e] at hcell
     have h3 := h1.symm.trans hcell
     simp only [List.getElem?_cons_zero, Option.some.injEq, Value.slice.injEq] at h3
     omega
   have hlen : (caseT.map caseRow).length = caseA.size := by simp [caseA]
   refine ⟨_, h1, ?_⟩
   have key : ∀ (i : Nat) (e : List PV) (j : Nat) (p : PV), (caseT.map caseRow)[i]? = some e → e[j]? = some p → ∃ v, W.cell? ⟨R, oR + i * 5 + j, none⟩ = some v ∧ IR (imOf W) p v := by
    intro i e j p hi hj
    rw [List.getElem?_map] at hi
    obtain ⟨x, hx, rfl⟩ := Option.map_eq_some_iff.1 hi
    have hi' : i < caseA.size := by
     have := (List.getElem?_eq_some_iff.1 hx).1
     simpa [caseA] using this
    have hxe : caseA.getD i (0, 0, 0, 0, 0) = x := by
     have hl := (List.getElem?_eq_some_iff.1 hx)
     obtain ⟨hl, e⟩ := hl
     simp [caseA, Array.getD, hl, e]
    have hrow := h2 i hi'
    rw [hxe] at hrow
    obtain ⟨c0, c1, c2, c3, c4⟩ := hrow
    rcases j with _ | _ | _ | _ | _ | j
    ·cases hj; exact ⟨_, c0, .int _ _⟩
    ·cases hj; exact ⟨_, c1, .int _ _⟩
    ·cases hj; exact ⟨_, c2, .int _ _⟩
    ·cases hj; exact ⟨_, c3, .int _ _⟩
    ·cases hj; exact ⟨_, c4, .int _ _⟩
    ·simp [caseRow] at hj
   rw [← hlen]
   refine IR.shared 5 (caseT.map caseRow) R oR cap (by omega) ?_ ?_ ?_
   ·intro i e hi
    rw [List.getElem?_map] at hi
    obtain ⟨x, hx, rfl⟩ := Option.map_eq_some_iff.1 hi
    rfl
   ·intro i e j p hi hj
    obtain ⟨v, h3, _⟩ := key i e j p hi hj
    rw [im_cell h3]; rfl
   ·intro i e j p c hi hj hc
    obtain ⟨v, h3, h4⟩ := key i e j p hi hj
    rw [im_cell h3] at hc
    cases hc; exact h4
  ·simp at hj
 have hU : Lib.Utf8Tabs V_unicode_utf8_first V_unicode_utf8_acceptRanges W :=
  utf8Tabs_of_reads { Tryz.lays260 with } ⟨by kernel_rfl, by kernel_rfl, by kernel_rfl, by kernel_rfl, by kernel_rfl, by kernel_rfl, by kernel_rfl⟩ (laidMet.reads hL (.tail _ (.tail _ (.tail _ (.tail _ (.tail _ (.tail _ (.tail _ (.tail _ (.head _)))))))))) (laidMet.reads hL (.tail _ (.tail _ (.tail _ (.head _)))))
 split at hg
 ·rename_i e
  subst e; cases hg
  refine ir_cells fun j p hj => ?_
  rw [List.getElem?_map] at hj
  obtain ⟨c, hc, rfl⟩ := Option.map_eq_some_iff.1 hj
  obtain ⟨hl, e⟩ := List.getElem?_eq_some_iff.1 hc
  simp at hl e
  subst e
  exact ⟨_, hU.1 _ hl, .int _ _⟩
 split at hg
 ·rename_i e
  subst e; cases hg
  refine ir_cells fun j p hj => ?_
  have key : ∀ j : Nat, j < 32 → ((List.range 16).flatMap fun i => [PV.int .u8 (Lib.accLo i), .int .u8 (Lib.accHi i)])[j]? = some (if j % 2 = 0 then .int .u8 (Lib.accLo (j / 2)) else .int .u8 (Lib.accHi (j / 2))) := by
   intro j hj
   rcases j with _|_|_|_|_|_|_|_|_|_|_|_|_|_|_|_|_|_|_|_|_|_|_|_|_|_|_|_|_|_|_|_|j <;> first | rfl | omega
  have hl : j < 32 := (List.getElem?_eq_some_iff.1 hj).1
  rw [key j hl] at hj
  obtain ⟨c0, c1⟩ := hU.2 (j / 2) (by omega)
  split at hj
  ·cases hj
   rw [show 2 * (j / 2) = j by omega] at c0
   exact ⟨_, c0, .int _ _⟩
  ·cases hj
   rw [show 2 * (j / 2) + 1 = j by omega] at c1
   exact ⟨_, c1, .int _ _⟩
 split at hg
 ·rename_i e
  subst e; cases hg
  refine ir_cells fun j p hj => ?_
  rw [List.getElem?_map] at hj
  obtain ⟨c, hc, rfl⟩ := Option.map_eq_some_iff.1 hj
  obtain ⟨hl, e⟩ := List.getElem?_eq_some_iff.1 hc
  simp at hl e
  subst e
  exact ⟨_, pow_read (laidMet.reads hL (.tail _ (.tail _ (.head _)))) _ hl, .int _ _⟩
 ·cases hg

theorem bool_inv {K : KW} {b : Bool} {u : Value} (h : VR K (.bool b) u) : u = .bool b := by
 cases h with
 | ir h => cases h; rfl
theorem law_calls (hE : EnvOK Tryz.prog C E) {g : FuncId} {args : List PV} {W : World} {vs : Array Value} (hp : PureC E g args (.bool true)) (hw : ImOK C (imOf W) W) (ha : ArgsOK (K0 (imOf W)) args vs) :
  Calls Tryz.prog g vs W fun e w' => e = .returned (.bool true) ∧ Below W.heap.size W w' := by
 obtain ⟨k, hk⟩ := hp
 have hs := pure_sim (den_sim hE orc_sim (by kernel_rfl) k) hE g args _ hk (imOf W) W vs hw ha
 have h2 := hs.2
 rw [callsIn_wide] at h2
 refine h2.mono ?_
 rintro e w' ⟨u, im', rfl, hv, _, _, _, hsame, hsz, hbl⟩
 rw [bool_inv hv]
 exact ⟨rfl, hsame.1, hsame.2.1, hsame.2.2, hsz, hbl⟩
end Go.Proofs.YtmngkcpobmhnoaaGreatDoor.Sim
