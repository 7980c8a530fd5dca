/- CondSmall: what is small is what numbers are, for any two numbers (of which the last twenty bits count), where the arguments are of bulk at most 1048576. Conditions: the row's own (the listed variables hold what the program's text lays). -/
import Derived.Test.YtmngkcpobmhnoaaGreatDoorKEnvN
import Derived.Test.YtmngkcpobmhnoaaGreatDoorKPCondSmall
import Derived.Test.YtmngkcpobmhnoaaGreatDoorCards
import Derived.Test.YtmngkcpobmhnoaaGreatDoorTie
set_option linter.all false
namespace Go.Proofs.YtmngkcpobmhnoaaGreatDoor.Sim
open Go.Proofs Go.RowKit Go.Shelf Go.Lib Go.ChangeShapes Go.WideShapes Go.ChangeAt
set_option maxRecDepth 100000 in
theorem condSmall_contract (H : Type) (enc : TypeId × Value → H) (W : World) (base : Nat) (args : Array Value) (ds gs : List (DataW H)) (before : List MemPlace)
    (hval0 : ∀ (j : Nat) t v, Tryz.f8.params[j]? = some t → args[j]? = some v → Value.okWide Tryz.prog W .any base t v)
    (hW : DataW.Whole enc Tryz.prog Tryz.f8.params.toList Rows.condSmallSpec.vars false W args.toList ds gs before) (hk : Rows.uptoSmall H (ds ++ gs) = true)
    (hL : laidMet Tryz.prog Rows.lexWordsRow.laid W) (hsh : W.ShapedOpen Tryz.prog) :
    Calls Tryz.prog 8 args W fun e W' => ∃ v, e = .returned v ∧ Rows.condSmallSpec.post enc Tryz.prog Tryz.f8 false true false false W args v W' := by
  have hW' := hW
  have hval : ∀ (j : Nat) t v, Tryz.f8.params[j]? = some t → args[j]? = some v → Value.okWide Tryz.prog W .any base t v := hval0
  obtain ⟨p, q, hA0, hV, rfl, _, _⟩ := hW
  have hA : DataW.TrodAll enc Tryz.prog W 0 (fun _ => true) true Tryz.f8.params.toList args.toList ds p := hA0
  rw [Tryz.params8] at hA hval
  obtain ⟨v0, v1, d0, d1, p0, p1, rfl, rfl, rfl, h0, h1⟩ := trodAll_two hA
  obtain ⟨rfl, rfl⟩ := trodVars_none hV
  have hb := bulk_bound hk
  simp only [List.append_nil, Rows.uptoBulkAll, List.nil_append, List.cons_append] at hb
  obtain ⟨n0, rfl, rfl, rfl, wf0⟩ := open_int Tryz.underlying2 (hval 0 2 v0 rfl rfl) h0
  have r0 := wf_int wf0
  obtain ⟨n1, rfl, rfl, rfl, wf1⟩ := open_int Tryz.underlying2 (hval 1 2 v1 rfl rfl) h1
  have r1 := wf_int wf1
  obtain ⟨kf, hG⟩ := Pl.condSmall_true n0 r0.1 r0.2 n1 r1.1 r1.2
  obtain ⟨_, hp, rfl⟩ := G_burinlaw05_CondSmall_ok hG
  have ha : ArgsOK (K0 (imOf W)) [.int .i64 n0, .int .i64 n1] #[.int .i64 n0, .int .i64 n1] := ⟨rfl, fun i p v h1 h2 => by
    rcases i with _ | _ | i
    · cases h1; cases h2; exact .ir (.int _ n0)
    · cases h1; cases h2; exact .ir (.int _ n1)
    · simp at h1⟩
  refine (law_calls envOK hp (glob_ok hL hsh) ha).mono ?_
  rintro e W' ⟨rfl, hg⟩
  exact ⟨_, rfl, law_post hW' rfl (by rw [Tryz.params8]; decide +kernel) (by kernel_rfl) rfl hg⟩

set_option maxRecDepth 100000 in
theorem condSmall_witness (os : Os) {H : Type} (enc : TypeId × Value → H) :
    (Rows.OpenSpec.upto Rows.condSmallSpec).preRow enc Tryz.prog Tryz.f8 Rows.condSmallUptoRow.domain false Rows.condSmallUptoRow.laid ((laidWorld os).forCall (fun _ _ => 0) ⟨#[], #[.int .i64 0, .int .i64 0], []⟩).memory #[.int .i64 0, .int .i64 0] := by
  have hw : (DataW.whole enc Tryz.prog ((laidWorld os).forCall (fun _ _ => 0) ⟨#[], #[.int .i64 0, .int .i64 0], []⟩).memory Tryz.f8.params.toList Rows.condSmallSpec.vars false #[Value.int .i64 0, Value.int .i64 0].toList 8).map (fun x => (x.1, x.2.1)) =
      some ([.lit (.int .i64 0), .lit (.int .i64 0)], []) := by kernel_rfl
  obtain ⟨⟨x1, x2, x3⟩, hx, hx1⟩ := Option.map_eq_some_iff.1 hw
  simp only [Prod.mk.injEq] at hx1
  obtain ⟨rfl, rfl⟩ := hx1
  exact OpenSpec.preRow_of_cond 8 hx (by kernel_rfl) (fun k hk => by cases hk; kernel_rfl) (by kernel_rfl) (laid_met os _)

set_option maxRecDepth 100000 in
theorem condSmall_lifted (os : Os) (started : os.Started) (H : Type) (enc : TypeId × Value → H) (F : Stop.Interp) :
    ReturnsInHanded {} Tryz.checked os 8 .any ((Rows.OpenSpec.upto Rows.condSmallSpec).preRow enc Tryz.prog Tryz.f8 Rows.condSmallUptoRow.domain false Rows.condSmallUptoRow.laid) (((Rows.OpenSpec.upto Rows.condSmallSpec).at F).post enc Tryz.prog Tryz.f8 false true false false) := by
  refine returnsInHanded_of_row (C := Tryz.checked) (s := Rows.OpenSpec.upto Rows.condSmallSpec) own started (by kernel_rfl) Tryz.func8
    (witness_row_atRef (enc := enc) (C := Tryz.checked) false (laidWorld os) #[.int .i64 0, .int .i64 0] rfl (by kernel_rfl) (by kernel_rfl) (by kernel_rfl) (condSmall_witness os enc)) ?_
  intro W base args ds gs before hval hW _ hcond _ hL hsh _
  exact condSmall_contract H enc W base args ds gs before hval hW (hcond _ rfl) hL hsh

theorem condSmall_said : Rows.CondSmallUptoSaid :=
  OpenClaim.holds_of_cond 8 Tryz.f8 rfl rfl rfl rfl rfl rfl rfl ⟨rfl, rfl, rfl, rfl, rfl⟩ rfl rfl rfl rfl rfl (by kernel_rfl) Tryz.func8 (by kernel_rfl)
    (of_decide_eq_true (by kernel_rfl)) (by unfold Func.isWrapper; first | (rw [if_pos (by decide +kernel)]; kernel_rfl) | (rw [if_neg (by decide +kernel)]; exact ⟨rfl, rfl⟩))
    (fun os started H enc _ F => by rw [OpenClaim.pre_eq_preRow]; exact condSmall_lifted os started H enc F)

set_option maxRecDepth 100000 in
theorem condSmall_plain (f : FuncId) (fn : Func) (hf : Tryz.pinned.checked.prog.funcNamed "burin/burinlaw05.CondSmall" = some f) (hfn : Tryz.pinned.checked.prog.funcs[f]? = some fn) :
    true = Tryz.pinned.checked.prog.looks [] ∧ ∀ (j : Nat) t, fn.params[j]? = some t → Tryz.pinned.checked.prog.wantsStandIn t = false := by
  obtain rfl : f = 8 := Option.some.inj ((show Tryz.prog.funcNamed "burin/burinlaw05.CondSmall" = some 8 by kernel_rfl).symm.trans hf) |>.symm
  obtain rfl : fn = Tryz.f8 := (Option.some.inj (Tryz.func8.symm.trans hfn)).symm
  refine ⟨by kernel_rfl, fun j t ht => ?_⟩
  rw [Tryz.params8] at ht
  have hm := Array.mem_of_getElem? ht
  simp only [List.mem_toArray, List.mem_cons, List.not_mem_nil, or_false, or_self] at hm
  subst hm
  exact (show Tryz.prog.wantsStandIn 2 = false by kernel_rfl)

theorem condSmall_card : Rows.CondSmallUptoCardSaid :=
  Claim7.holds_tied_plain_at .later [] _ _ _ _ condSmall_said (fun _ h => by cases h) (by kernel_rfl) (fun _ h => by cases h) condSmallUpto_row_tie rfl ⟨rfl, rfl⟩ (by kernel_rfl) rfl condSmall_plain (by kernel_rfl)
end Go.Proofs.YtmngkcpobmhnoaaGreatDoor.Sim
#print axioms Go.Proofs.YtmngkcpobmhnoaaGreatDoor.Sim.condSmall_card
