/- CondNots: not of both is one of the nots, not of one of both is both nots, where the arguments are of bulk at most 1048576. Conditions: the row's own (the listed variables hold what the program's text lays). -/
import Derived.Test.YtmngkcpobmhnoaaGreatDoorKEnvN
import Derived.Test.YtmngkcpobmhnoaaGreatDoorKPCondNots
import Derived.Test.YtmngkcpobmhnoaaGreatDoorCards
import Derived.Test.YtmngkcpobmhnoaaGreatDoorTie
set_option linter.all false
namespace Go.Proofs.YtmngkcpobmhnoaaGreatDoor.Sim
open Go.Proofs Go.RowKit Go.Shelf Go.Lib Go.ChangeShapes Go.WideShapes Go.ChangeAt
set_option maxRecDepth 100000 in
theorem condNots_contract (H : Type) (enc : TypeId × Value → H) (W : World) (base : Nat) (args : Array Value) (ds gs : List (DataW H)) (before : List MemPlace)
    (hval0 : ∀ (j : Nat) t v, Tryz.f10.params[j]? = some t → args[j]? = some v → Value.okWide Tryz.prog W .any base t v)
    (hW : DataW.Whole enc Tryz.prog Tryz.f10.params.toList Rows.condNotsSpec.vars false W args.toList ds gs before) (hk : Rows.uptoSmall H (ds ++ gs) = true)
    (hL : laidMet Tryz.prog Rows.lexWordsRow.laid W) (hsh : W.ShapedOpen Tryz.prog) :
    Calls Tryz.prog 10 args W fun e W' => ∃ v, e = .returned v ∧ Rows.condNotsSpec.post enc Tryz.prog Tryz.f10 false true false false W args v W' := by
  have hW' := hW
  have hval : ∀ (j : Nat) t v, Tryz.f10.params[j]? = some t → args[j]? = some v → Value.okWide Tryz.prog W .any base t v := hval0
  obtain ⟨p, q, hA0, hV, rfl, _, _⟩ := hW
  have hA : DataW.TrodAll enc Tryz.prog W 0 (fun _ => true) true Tryz.f10.params.toList args.toList ds p := hA0
  rw [Tryz.params10] at hA hval
  obtain ⟨v0, v1, d0, d1, p0, p1, rfl, rfl, rfl, h0, h1⟩ := trodAll_two hA
  obtain ⟨rfl, rfl⟩ := trodVars_none hV
  have hb := bulk_bound hk
  simp only [List.append_nil, Rows.uptoBulkAll, List.nil_append, List.cons_append] at hb
  obtain ⟨s0, rfl, rfl, rfl, ws0⟩ := Go.ChangeMaps.open_string Tryz.underlying9 (hval 0 9 v0 rfl rfl) h0
  simp only [Rows.uptoBulk] at hb
  obtain ⟨s1, rfl, rfl, rfl, ws1⟩ := Go.ChangeMaps.open_string Tryz.underlying9 (hval 1 9 v1 rfl rfl) h1
  simp only [Rows.uptoBulk] at hb
  obtain ⟨kf, hG⟩ := Pl.condNots_true s0.data.toList (by omega) s1.data.toList (by omega)
  obtain ⟨_, hp, rfl⟩ := G_burinlaw05_CondNots_ok hG
  have ha : ArgsOK (K0 (imOf W)) [.str s0.data.toList, .str s1.data.toList] #[.string s0, .string s1] := ⟨rfl, fun i p v h1 h2 => by
    rcases i with _ | _ | i
    · cases h1; cases h2; exact .ir (ir_str' s0)
    · cases h1; cases h2; exact .ir (ir_str' s1)
    · simp at h1⟩
  refine (law_calls envOK hp (glob_ok hL hsh) ha).mono ?_
  rintro e W' ⟨rfl, hg⟩
  exact ⟨_, rfl, law_post hW' rfl (by rw [Tryz.params10]; decide +kernel) (by kernel_rfl) rfl hg⟩

set_option maxRecDepth 100000 in
theorem condNots_witness (os : Os) {H : Type} (enc : TypeId × Value → H) :
    (Rows.OpenSpec.upto Rows.condNotsSpec).preRow enc Tryz.prog Tryz.f10 Rows.condNotsUptoRow.domain false Rows.condNotsUptoRow.laid ((laidWorld os).forCall (fun _ _ => 0) ⟨#[], #[.string ⟨#[]⟩, .string ⟨#[]⟩], []⟩).memory #[.string ⟨#[]⟩, .string ⟨#[]⟩] := by
  have hw : (DataW.whole enc Tryz.prog ((laidWorld os).forCall (fun _ _ => 0) ⟨#[], #[.string ⟨#[]⟩, .string ⟨#[]⟩], []⟩).memory Tryz.f10.params.toList Rows.condNotsSpec.vars false #[Value.string ⟨#[]⟩, Value.string ⟨#[]⟩].toList 8).map (fun x => (x.1, x.2.1)) =
      some ([.lit (.string []), .lit (.string [])], []) := by kernel_rfl
  obtain ⟨⟨x1, x2, x3⟩, hx, hx1⟩ := Option.map_eq_some_iff.1 hw
  simp only [Prod.mk.injEq] at hx1
  obtain ⟨rfl, rfl⟩ := hx1
  exact OpenSpec.preRow_of_cond 8 hx (by kernel_rfl) (fun k hk => by cases hk; kernel_rfl) (by kernel_rfl) (laid_met os _)

set_option maxRecDepth 100000 in
theorem condNots_lifted (os : Os) (started : os.Started) (H : Type) (enc : TypeId × Value → H) (F : Stop.Interp) :
    ReturnsInHanded {} Tryz.checked os 10 .any ((Rows.OpenSpec.upto Rows.condNotsSpec).preRow enc Tryz.prog Tryz.f10 Rows.condNotsUptoRow.domain false Rows.condNotsUptoRow.laid) (((Rows.OpenSpec.upto Rows.condNotsSpec).at F).post enc Tryz.prog Tryz.f10 false true false false) := by
  refine returnsInHanded_of_row (C := Tryz.checked) (s := Rows.OpenSpec.upto Rows.condNotsSpec) own started (by kernel_rfl) Tryz.func10
    (witness_row_atRef (enc := enc) (C := Tryz.checked) false (laidWorld os) #[.string ⟨#[]⟩, .string ⟨#[]⟩] rfl (by kernel_rfl) (by kernel_rfl) (by kernel_rfl) (condNots_witness os enc)) ?_
  intro W base args ds gs before hval hW _ hcond _ hL hsh _
  exact condNots_contract H enc W base args ds gs before hval hW (hcond _ rfl) hL hsh

theorem condNots_said : Rows.CondNotsUptoSaid :=
  OpenClaim.holds_of_cond 10 Tryz.f10 rfl rfl rfl rfl rfl rfl rfl ⟨rfl, rfl, rfl, rfl, rfl⟩ rfl rfl rfl rfl rfl (by kernel_rfl) Tryz.func10 (by kernel_rfl)
    (of_decide_eq_true (by kernel_rfl)) (by unfold Func.isWrapper; first | (rw [if_pos (by decide +kernel)]; kernel_rfl) | (rw [if_neg (by decide +kernel)]; exact ⟨rfl, rfl⟩))
    (fun os started H enc _ F => by rw [OpenClaim.pre_eq_preRow]; exact condNots_lifted os started H enc F)

set_option maxRecDepth 100000 in
theorem condNots_plain (f : FuncId) (fn : Func) (hf : Tryz.pinned.checked.prog.funcNamed "burin/burinlaw05.CondNots" = some f) (hfn : Tryz.pinned.checked.prog.funcs[f]? = some fn) :
    true = Tryz.pinned.checked.prog.looks [] ∧ ∀ (j : Nat) t, fn.params[j]? = some t → Tryz.pinned.checked.prog.wantsStandIn t = false := by
  obtain rfl : f = 10 := Option.some.inj ((show Tryz.prog.funcNamed "burin/burinlaw05.CondNots" = some 10 by kernel_rfl).symm.trans hf) |>.symm
  obtain rfl : fn = Tryz.f10 := (Option.some.inj (Tryz.func10.symm.trans hfn)).symm
  refine ⟨by kernel_rfl, fun j t ht => ?_⟩
  rw [Tryz.params10] at ht
  have hm := Array.mem_of_getElem? ht
  simp only [List.mem_toArray, List.mem_cons, List.not_mem_nil, or_false, or_self] at hm
  subst hm
  exact (show Tryz.prog.wantsStandIn 9 = false by kernel_rfl)

theorem condNots_card : Rows.CondNotsUptoCardSaid :=
  Claim7.holds_tied_plain_at .later [] _ _ _ _ condNots_said (fun _ h => by cases h) (by kernel_rfl) (fun _ h => by cases h) condNotsUpto_row_tie rfl ⟨rfl, rfl⟩ (by kernel_rfl) rfl condNots_plain (by kernel_rfl)
end Go.Proofs.YtmngkcpobmhnoaaGreatDoor.Sim
#print axioms Go.Proofs.YtmngkcpobmhnoaaGreatDoor.Sim.condNots_card
