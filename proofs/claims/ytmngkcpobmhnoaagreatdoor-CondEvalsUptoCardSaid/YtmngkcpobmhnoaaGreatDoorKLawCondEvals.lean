/- CondEvals: what a condition's value is, or that it has none: the program's answer is the document's, for any tokens of bulk at most 1048576. Conditions: the row's own (the listed variables hold what the program's text lays). -/
import Derived.Test.YtmngkcpobmhnoaaGreatDoorKEnvN
import Derived.Test.YtmngkcpobmhnoaaGreatDoorKPl2
import Derived.Test.YtmngkcpobmhnoaaGreatDoorCards
import Derived.Test.YtmngkcpobmhnoaaGreatDoorTie
set_option linter.all false
namespace Go.Proofs.YtmngkcpobmhnoaaGreatDoor.Sim
open Go.Proofs Go.RowKit Go.Shelf Go.Lib Go.ChangeShapes Go.WideShapes Go.ChangeAt

theorem condEvals_true (L : List T_api_Tok) (hL : Pl.TokOK L) : G_burinlaw05_CondEvals (4 * L.length + 4) L = some true := by
  have hsub : subT L (if (5000 : Int) < ((List.length L : Nat) : Int) then (5000 : Int) else ((List.length L : Nat) : Int)) = some (L.take 5000) := by
    split
    · rename_i h; exact Pl.subT_nat (n := 5000) (by omega)
    · rename_i h; rw [Pl.subT_len, List.take_of_length_le (by omega)]
  have hT : Pl.TokOK (L.take 5000) := ⟨Nat.le_trans (by simp; omega) hL.1, fun t ht => hL.2 t (List.mem_of_mem_take ht)⟩
  obtain ⟨r, h1, h2⟩ := Pl.G_Eval hT (4 * L.length + 4) (by simp; omega)
  obtain ⟨a, b, c⟩ := r
  unfold G_burinlaw05_CondEvals
  rw [show G_burinlaw05_shown = some true from rfl, Pl.bind_some', hsub, Pl.bind_some', h1, Pl.bind_some']
  simp only []
  rw [h2, Pl.bind_some']
  simp

set_option maxRecDepth 100000 in
theorem condEvals_contract (H : Type) (enc : TypeId × Value → H) (W : World) (base : Nat) (args : Array Value) (ds gs : List (DataW H)) (before : List MemPlace)
    (hval0 : ∀ (j : Nat) t v, Tryz.f5.params[j]? = some t → args[j]? = some v → Value.okWide Tryz.prog W .any base t v)
    (hW : DataW.Whole enc Tryz.prog Tryz.f5.params.toList Rows.condEvalsSpec.vars false W args.toList ds gs before) (hk : Rows.uptoSmall H (ds ++ gs) = true)
    (hL : laidMet Tryz.prog Rows.lexWordsRow.laid W) (hsh : W.ShapedOpen Tryz.prog) :
    Calls Tryz.prog 5 args W fun e W' => ∃ v, e = .returned v ∧ Rows.condEvalsSpec.post enc Tryz.prog Tryz.f5 false true false false W args v W' := by
  have hW' := hW
  have hval : ∀ (j : Nat) t v, Tryz.f5.params[j]? = some t → args[j]? = some v → Value.okWide Tryz.prog W .any base t v := hval0
  obtain ⟨p, q, hA0, hV, rfl, _, _⟩ := hW
  have hA : DataW.TrodAll enc Tryz.prog W 0 (fun _ => true) true Tryz.f5.params.toList args.toList ds p := hA0
  rw [Tryz.params5] at hA hval
  obtain ⟨v0, d0, rfl, rfl, h0⟩ := trodAll_one hA
  obtain ⟨rfl, rfl⟩ := trodVars_none hV
  obtain ⟨L, M, hVR, hSl, hlen, hstr⟩ := toks_arg (hval 0 22 v0 rfl rfl) h0
  have hb : Rows.uptoBulk d0 ≤ 1048576 := by
    have := bulk_bound hk
    simp only [List.append_nil, Rows.uptoBulkAll] at this
    omega
  have hG := condEvals_true L ⟨by omega, fun t ht => by have := (hstr t ht).1; omega⟩
  obtain ⟨_, hp, rfl⟩ := G_burinlaw05_CondEvals_ok hG hSl
  have ha : ArgsOK (K0 (imOf W)) [.slice .shared 6 M] #[v0] := ⟨rfl, fun i p v h1 h2 => by
    rcases i with _ | i
    · cases h1; cases h2; exact hVR
    · simp at h1⟩
  refine (law_calls envOK hp (glob_ok hL hsh) ha).mono ?_
  rintro e W' ⟨rfl, hg⟩
  exact ⟨_, rfl, law_post hW' rfl (by rw [Tryz.params5]; decide +kernel) (by kernel_rfl) rfl hg⟩

set_option maxRecDepth 100000 in
theorem condEvals_witness (os : Os) {H : Type} (enc : TypeId × Value → H) :
    (Rows.OpenSpec.upto Rows.condEvalsSpec).preRow enc Tryz.prog Tryz.f5 Rows.condEvalsUptoRow.domain false Rows.condEvalsUptoRow.laid ((laidWorld os).forCall (fun _ _ => 0) ⟨#[], #[.slice none 0 0], []⟩).memory #[.slice none 0 0] := by
  have hw : (DataW.whole enc Tryz.prog ((laidWorld os).forCall (fun _ _ => 0) ⟨#[], #[.slice none 0 0], []⟩).memory Tryz.f5.params.toList Rows.condEvalsSpec.vars false #[Value.slice none 0 0].toList 8).map (fun x => (x.1, x.2.1)) =
      some ([.nil], []) := by kernel_rfl
  obtain ⟨⟨x1, x2, x3⟩, hx, hx1⟩ := Option.map_eq_some_iff.1 hw
  simp only [Prod.mk.injEq] at hx1
  obtain ⟨rfl, rfl⟩ := hx1
  exact OpenSpec.preRow_of_cond 8 hx (by kernel_rfl) (fun k hk => by cases hk; kernel_rfl) (by kernel_rfl) (laid_met os _)

set_option maxRecDepth 100000 in
theorem condEvals_lifted (os : Os) (started : os.Started) (H : Type) (enc : TypeId × Value → H) (F : Stop.Interp) :
    ReturnsInHanded {} Tryz.checked os 5 .any ((Rows.OpenSpec.upto Rows.condEvalsSpec).preRow enc Tryz.prog Tryz.f5 Rows.condEvalsUptoRow.domain false Rows.condEvalsUptoRow.laid) (((Rows.OpenSpec.upto Rows.condEvalsSpec).at F).post enc Tryz.prog Tryz.f5 false true false false) := by
  refine returnsInHanded_of_row (C := Tryz.checked) (s := Rows.OpenSpec.upto Rows.condEvalsSpec) own started (by kernel_rfl) Tryz.func5
    (witness_row_atRef (enc := enc) (C := Tryz.checked) false (laidWorld os) #[.slice none 0 0] rfl (by kernel_rfl) (by kernel_rfl) (by kernel_rfl) (condEvals_witness os enc)) ?_
  intro W base args ds gs before hval hW _ hcond _ hL hsh _
  exact condEvals_contract H enc W base args ds gs before hval hW (hcond _ rfl) hL hsh

theorem condEvals_said : Rows.CondEvalsUptoSaid :=
  OpenClaim.holds_of_cond 5 Tryz.f5 rfl rfl rfl rfl rfl rfl rfl ⟨rfl, rfl, rfl, rfl, rfl⟩ rfl rfl rfl rfl rfl (by kernel_rfl) Tryz.func5 (by kernel_rfl)
    (of_decide_eq_true (by kernel_rfl)) (by unfold Func.isWrapper; first | (rw [if_pos (by decide +kernel)]; kernel_rfl) | (rw [if_neg (by decide +kernel)]; exact ⟨rfl, rfl⟩))
    (fun os started H enc _ F => by rw [OpenClaim.pre_eq_preRow]; exact condEvals_lifted os started H enc F)

theorem condEvals_plain (f : FuncId) (fn : Func) (hf : Tryz.pinned.checked.prog.funcNamed "burin/burinlaw05.CondEvals" = some f) (hfn : Tryz.pinned.checked.prog.funcs[f]? = some fn) :
    true = Tryz.pinned.checked.prog.looks [] ∧ ∀ (j : Nat) t, fn.params[j]? = some t → Tryz.pinned.checked.prog.wantsStandIn t = false := by
  obtain rfl : f = 5 := Option.some.inj ((show Tryz.prog.funcNamed "burin/burinlaw05.CondEvals" = some 5 by kernel_rfl).symm.trans hf) |>.symm
  obtain rfl : fn = Tryz.f5 := (Option.some.inj (Tryz.func5.symm.trans hfn)).symm
  refine ⟨by kernel_rfl, fun j t ht => ?_⟩
  rw [Tryz.params5] at ht
  obtain rfl : t = 22 := by simpa using Array.mem_of_getElem? ht
  exact (show Tryz.prog.wantsStandIn 22 = false by kernel_rfl)

theorem condEvals_card : Rows.CondEvalsUptoCardSaid :=
  Claim7.holds_tied_plain_at .later [] _ _ _ _ condEvals_said (fun _ h => by cases h) (by kernel_rfl) (fun _ h => by cases h) condEvalsUpto_row_tie rfl ⟨rfl, rfl⟩ (by kernel_rfl) rfl condEvals_plain (by kernel_rfl)
end Go.Proofs.YtmngkcpobmhnoaaGreatDoor.Sim
#print axioms Go.Proofs.YtmngkcpobmhnoaaGreatDoor.Sim.condEvals_card
