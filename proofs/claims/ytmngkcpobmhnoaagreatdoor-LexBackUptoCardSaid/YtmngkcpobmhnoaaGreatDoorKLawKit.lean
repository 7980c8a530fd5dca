/- Glue: what a statement asks behind the call, of a law that answers true and leaves all that was. -/
import Derived.Test.YtmngkcpobmhnoaaGreatDoorKArgs
import Derived.Test.YtmngkcpobmhnoaaGreatDoorKWit
set_option linter.all false
namespace Go.Proofs.YtmngkcpobmhnoaaGreatDoor.Sim
open Go.Proofs Go.RowKit Go.Shelf Go.Lib Go.ChangeShapes Go.WideShapes Go.ChangeAt

theorem sameAt_below {W W' : World} (h : Below W.heap.size W W') {x : MemPlace} (hx : x.block < W.heap.size) : W.sameAt W' x := by
 cases x with
 | cell b off =>
  have hb := h.block b hx
  show W'.cell? ⟨b, off, none⟩ = W.cell? ⟨b, off, none⟩
  simp only [cell_eq, cellAt, hb]
 | map b => exact h.block b hx
theorem trodAll_carry {H : Type} {enc : TypeId × Value → H} {P : Program} {W W' : World} {base : Nat} {sp : Nat → Bool} {held : Bool} : ∀ {ts : List TypeId} {vs : List Value} {ds : List (DataW H)} {ps : List MemPlace},
  DataW.TrodAll enc P W base sp held ts vs ds ps → (∀ x ∈ ps, W.sameAt W' x) → DataW.TrodAll enc P W' base sp held ts vs ds ps
 | [], [], [], _, h, _ => h
 | [], [], _ :: _, _, h, _ => h.elim
 | [], _ :: _, _, _, h, _ => h.elim
 | _ :: _, [], _, _, h, _ => h.elim
 | _ :: _, _ :: _, [], _, h, _ => h.elim
 | t :: ts, v :: vs, d :: ds, ps, h, hs => by
  obtain ⟨p, q, ⟨n, h1⟩, h2, rfl⟩ := h
  exact ⟨p, q, ⟨n, DataW.trod_carry n _ _ _ h1 fun x hx => hs x (List.mem_append_left _ hx)⟩, trodAll_carry h2 fun x hx => hs x (List.mem_append_right _ hx), rfl⟩

theorem law_post {H : Type} {enc : TypeId × Value → H} {f : Func} {s : ChangeSpec} {W W' : World} {args : Array Value} {ds gs : List (DataW H)} {before : List MemPlace}
  (hW : DataW.Whole enc Tryz.prog f.params.toList s.vars false W args.toList ds gs before) (hv : s.vars = []) (hpar : ∀ t ∈ f.params.toList, t < Tryz.prog.types.size)
  (hres : f.resultTypes = #[4]) (hfn : s.fn H (ds ++ gs) = { results := [.lit (.bool true)], args := ds }) (hg : Below W.heap.size W W') :
  s.post enc Tryz.prog f false true false false W args (.bool true) W' := by
 have hlt := hW.lt
 have hW' := hW
 obtain ⟨p, q, hA, hV, rfl, _, _⟩ := hW
 have hV' : DataW.TrodVars enc Tryz.prog W (fun _ => true) [] gs q := by rw [← hv]; exact hV
 obtain ⟨rfl, rfl⟩ := trodVars_none hV'
 have hA : DataW.TrodAll enc Tryz.prog W 0 (fun _ => true) true f.params.toList args.toList ds p := hA
 have hlt' : ∀ x ∈ p, x.block < W.heap.size := fun x hx => hlt x (List.mem_append_left _ hx)
 refine ⟨ds, [], _, [], p, [], hW', ?_, ?_, ?_, hg.frame _, fun h => by cases h⟩
 ·rw [hfn, hres]
  exact trodAll_mk1 (shut_bool Tryz.underlying4 true)
 ·rw [hfn]
  refine trodAll_carry (DataW.TrodAll.respare kids full hpar hA fun x hx => by simpa using hlt' x hx) fun x hx => sameAt_below hg (hlt' x hx)
 ·rw [hfn, hv]
  rfl
end Go.Proofs.YtmngkcpobmhnoaaGreatDoor.Sim
