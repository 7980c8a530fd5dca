/- LexBack: what is shown, lexed, comes to the same words, but for File and Line: any words, where the arguments are of bulk at most 1048576. Conditions: the row's own (the listed variables hold what the program's text lays). -/
import Derived.Test.YtmngkcpobmhnoaaGreatDoorKEnvH
import Derived.Test.YtmngkcpobmhnoaaGreatDoorKArgsW
import Derived.Test.YtmngkcpobmhnoaaGreatDoorKPLexBack
import Derived.Test.YtmngkcpobmhnoaaGreatDoorCards
import Derived.Test.YtmngkcpobmhnoaaGreatDoorTie
set_option linter.all false
namespace Go.Proofs.YtmngkcpobmhnoaaGreatDoor.Sim
open Go.Proofs Go.RowKit Go.Shelf Go.Lib Go.ChangeShapes Go.WideShapes Go.ChangeAt
set_option maxRecDepth 100000 in
theorem lexBack_contract (H : Type) (enc : TypeId × Value → H) (W : World) (base : Nat) (args : Array Value) (ds gs : List (DataW H)) (before : List MemPlace)
  (hval0 : ∀ (j : Nat) t v, Tryz.f13.params[j]? = some t → args[j]? = some v → Value.okWide Tryz.prog W .any base t v)
  (hW : DataW.Whole enc Tryz.prog Tryz.f13.params.toList Rows.lexBackSpec.vars false W args.toList ds gs before) (hk : Rows.uptoSmall H (ds ++ gs) = true)
  (hL : laidMet Tryz.prog Rows.lexWordsRow.laid W) (hsh : W.ShapedOpen Tryz.prog) :
  Calls Tryz.prog 13 args W fun e W' => ∃ v, e = .returned v ∧ Rows.lexBackSpec.post enc Tryz.prog Tryz.f13 false true false false W args v W' := by
 have hW' := hW
 have hval : ∀ (j : Nat) t v, Tryz.f13.params[j]? = some t → args[j]? = some v → Value.okWide Tryz.prog W .any base t v := hval0
 obtain ⟨p, q, hA0, hV, rfl, _, _⟩ := hW
 have hA : DataW.TrodAll enc Tryz.prog W 0 (fun _ => true) true Tryz.f13.params.toList args.toList ds p := hA0
 rw [Tryz.params13] at hA hval
 obtain ⟨v0, d0, rfl, rfl, h0⟩ := trodAll_one hA
 obtain ⟨rfl, rfl⟩ := trodVars_none hV
 have hb := bulk_bound hk
 simp only [List.append_nil, Rows.uptoBulkAll, List.nil_append, List.cons_append] at hb
 obtain ⟨L0, M0, hV0, hS0, hlen0, hsum0, hstr0⟩ := words_arg (hval 0 24 v0 rfl rfl) h0
 obtain ⟨kf, hG⟩ := Pl.lexBack_true L0 (by omega) (by omega) (fun t ht => by have := hstr0 t ht; omega)
 obtain ⟨_, hp, rfl⟩ := G_burinlaw07_LexBack_ok hG hS0
 have ha : ArgsOK (K0 (imOf W)) [.slice .shared 6 M0] #[v0] := ⟨rfl, fun i p v h1 h2 => by
  rcases i with _ | i
  ·cases h1; cases h2; exact hV0
  ·simp at h1⟩
 refine (law_calls envOK hp (glob_ok hL hsh) ha).mono ?_
 rintro e W' ⟨rfl, hg⟩
 exact ⟨_, rfl, law_post hW' rfl (by rw [Tryz.params13]; decide +kernel) (by kernel_rfl) rfl hg⟩

set_option maxRecDepth 100000 in
theorem lexBack_witness (os : Os) {H : Type} (enc : TypeId × Value → H) :
  (Rows.OpenSpec.upto Rows.lexBackSpec).preRow enc Tryz.prog Tryz.f13 Rows.lexBackUptoRow.domain false Rows.lexBackUptoRow.laid ((laidWorld os).forCall (fun _ _ => 0) ⟨#[], #[.slice none 0 0], []⟩).memory #[.slice none 0 0] := by
 have hw : (DataW.whole enc Tryz.prog ((laidWorld os).forCall (fun _ _ => 0) ⟨#[], #[.slice none 0 0], []⟩).memory Tryz.f13.params.toList Rows.lexBackSpec.vars false #[Value.slice none 0 0].toList 8).map (fun x => (x.1, x.2.1)) =
   some ([.nil], []) := by kernel_rfl
 obtain ⟨⟨x1, x2, x3⟩, hx, hx1⟩ := Option.map_eq_some_iff.1 hw
 simp only [Prod.mk.injEq] at hx1
 obtain ⟨rfl, rfl⟩ := hx1
 exact OpenSpec.preRow_of_cond 8 hx (by kernel_rfl) (fun k hk => by cases hk; kernel_rfl) (by kernel_rfl) (laid_met os _)

set_option maxRecDepth 100000 in
theorem lexBack_lifted (os : Os) (started : os.Started) (H : Type) (enc : TypeId × Value → H) (F : Stop.Interp) :
  ReturnsInHanded {} Tryz.checked os 13 .any ((Rows.OpenSpec.upto Rows.lexBackSpec).preRow enc Tryz.prog Tryz.f13 Rows.lexBackUptoRow.domain false Rows.lexBackUptoRow.laid) (((Rows.OpenSpec.upto Rows.lexBackSpec).at F).post enc Tryz.prog Tryz.f13 false true false false) := by
 refine returnsInHanded_of_row (C := Tryz.checked) (s := Rows.OpenSpec.upto Rows.lexBackSpec) own started (by kernel_rfl) Tryz.func13
  (witness_row_atRef (enc := enc) (C := Tryz.checked) false (laidWorld os) #[.slice none 0 0] rfl (by kernel_rfl) (by kernel_rfl) (by kernel_rfl) (lexBack_witness os enc)) ?_
 intro W base args ds gs before hval hW _ hcond _ hL hsh _
 exact lexBack_contract H enc W base args ds gs before hval hW (hcond _ rfl) hL hsh

theorem lexBack_said : Rows.LexBackUptoSaid :=
 OpenClaim.holds_of_cond 13 Tryz.f13 rfl rfl rfl rfl rfl rfl rfl ⟨rfl, rfl, rfl, rfl, rfl⟩ rfl rfl rfl rfl rfl (by kernel_rfl) Tryz.func13 (by kernel_rfl)
  (of_decide_eq_true (by kernel_rfl)) (by unfold Func.isWrapper; first | (rw [if_pos (by decide +kernel)]; kernel_rfl) | (rw [if_neg (by decide +kernel)]; exact ⟨rfl, rfl⟩))
  (fun os started H enc _ F => by rw [OpenClaim.pre_eq_preRow]; exact lexBack_lifted os started H enc F)

set_option maxRecDepth 100000 in
theorem lexBack_plain (f : FuncId) (fn : Func) (hf : Tryz.pinned.checked.prog.funcNamed "burin/burinlaw07.LexBack" = some f) (hfn : Tryz.pinned.checked.prog.funcs[f]? = some fn) :
  true = Tryz.pinned.checked.prog.looks [] ∧ ∀ (j : Nat) t, fn.params[j]? = some t → Tryz.pinned.checked.prog.wantsStandIn t = false := by
 obtain rfl : f = 13 := Option.some.inj ((show Tryz.prog.funcNamed "burin/burinlaw07.LexBack" = some 13 by kernel_rfl).symm.trans hf) |>.symm
 obtain rfl : fn = Tryz.f13 := (Option.some.inj (Tryz.func13.symm.trans hfn)).symm
 refine ⟨by kernel_rfl, fun j t ht => ?_⟩
 rw [Tryz.params13] at ht
 have hm := Array.mem_of_getElem? ht
 simp only [List.mem_toArray, List.mem_cons, List.not_mem_nil, or_false, or_self] at hm
 subst hm
 exact (show Tryz.prog.wantsStandIn 24 = false by kernel_rfl)

theorem lexBack_card : Rows.LexBackUptoCardSaid :=
 Claim7.holds_tied_plain_at .later [] _ _ _ _ lexBack_said (fun _ h => by cases h) (by kernel_rfl) (fun _ h => by cases h) lexBackUpto_row_tie rfl ⟨rfl, rfl⟩ (by kernel_rfl) rfl lexBack_plain (by kernel_rfl)
end Go.Proofs.YtmngkcpobmhnoaaGreatDoor.Sim
#print axioms Go.Proofs.YtmngkcpobmhnoaaGreatDoor.Sim.lexBack_card
