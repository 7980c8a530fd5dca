/- Glue: a world in which the listed variables hold what the program's text lays. -/
import Derived.Test.YtmngkcpobmhnoaaGreatDoorRows
import Derived.Test.YtmngkcpobmhnoaaGreatDoorKShelf
import Derived.Deep.DeepHandedRow
import Derived.Deep.DeepWitnessRowRef
import Derived.Lib.LaidCaseMet
import Derived.Lib.LaidIn
import Derived.KernelRfl
import Derived.PinnedBridge
import Derived.ProofKit
set_option linter.all false
namespace Go.Proofs.YtmngkcpobmhnoaaGreatDoor.Sim
open Go.Proofs Go.Shelf Go.Lib

noncomputable def putW (h : Array Obj) (g : Nat) (cs : Array Value) : Array Obj := h.modify g fun
 | .cells _ t frozen => .cells cs t frozen
 | o => o
noncomputable def laidWorld (os : Os) : World :=
 let N := (World.settled Tryz.prog os).heap.size
 let w0 := World.holding Tryz.prog os ⟨#[
  .cells #[.string ⟨#[118, 97, 108, 117, 101, 32, 111, 117, 116, 32, 111, 102, 32, 114, 97, 110, 103, 101]⟩] 188,
  .cells #[.string ⟨#[105, 110, 118, 97, 108, 105, 100, 32, 115, 121, 110, 116, 97, 120]⟩] 188,
  .cells Lib.caseCells5 (Tryz.lays159_ren.t 208)], #[], []⟩
 let h0 := putW w0.heap 8 (([0, 1, 28, 2, 29, 14, 24, 3, 30, 22, 20, 15, 25, 17, 4, 8, 31, 27, 13, 23, 21, 19, 16, 7, 26, 12, 18, 6, 11, 5, 10, 9] : List Int).map fun z => Value.int .u8 z).toArray
 let h1 := putW h0 9 (([0, 1, 56, 2, 57, 49, 28, 3, 61, 58, 42, 50, 38, 29, 17, 4, 62, 47, 59, 36, 45, 43, 51, 22, 53, 39, 33, 30, 24, 18, 12, 5, 63, 55, 48, 27, 60, 41, 37, 16, 46, 35, 44, 21, 52, 32, 23, 11, 54, 26, 40, 15, 34, 20, 31, 10, 25, 14, 19, 9, 13, 8, 7, 6] : List Int).map fun z => Value.int .u8 z).toArray
 let h2 := putW h1 5 (([1, 10, 100, 1000, 10000, 100000, 1000000, 10000000, 100000000, 1000000000, 10000000000, 100000000000, 1000000000000, 10000000000000, 100000000000000, 1000000000000000, 10000000000000000, 100000000000000000, 1000000000000000000, 10000000000000000000] : List Int).map fun z => Value.int .u64 z).toArray
 let h3 := putW h2 7 ((List.range 16).flatMap fun i => [Value.int .u8 (Lib.accLo i), Value.int .u8 (Lib.accHi i)]).toArray
 let h4 := putW h3 2 #[.iface 186 (.pointer (some ⟨N, 0, none⟩))]
 let h5 := putW h4 1 #[.iface 186 (.pointer (some ⟨N + 1, 0, none⟩))]
 let h6 := putW h5 0 (([[46, 46, 46], [60, 60, 61], [62, 62, 61], [45, 62], [43, 43], [45, 45], [60, 60], [62, 62], [60, 61], [62, 61], [61, 61], [33, 61], [38, 38], [124, 124], [42, 61], [47, 61], [37, 61], [43, 61], [45, 61], [38, 61], [94, 61], [124, 61], [35, 35], [91], [93], [40], [41], [123], [125], [46], [38], [42], [43], [45], [126], [33], [47], [37], [60], [62], [94], [124], [63], [58], [59], [61], [44], [35]] : List (List UInt8)).map fun s => Value.string ⟨s.toArray⟩).toArray
 let h7 := putW h6 3 #[.slice (some ⟨N + 2, 0, none⟩) 336 336]
 let h8 := putW h7 6 (Lib.firstTab.map fun z => Value.int .u8 z).toArray
 { w0 with heap := h8 }
noncomputable abbrev N0 : Nat := (World.settled Tryz.prog default).heap.size

theorem laidIn_case {P : Program} {ρ : Ren} (L : Lays.n274 P ρ) (t206 : P.underlying (ρ.t 206) = some (.array 3 (ρ.t 21))) (X : CaseExtra P ρ) {w : World} (R : Nat) (t : TypeId) (hgR : ρ.g 13 ≠ R)
  (hvar : w.heap[ρ.g 13]? = some (.cells #[.slice (some ⟨R, 0, none⟩) caseA.size caseA.size] (ρ.t 162) (0, 0))) (hblk : w.heap[R]? = some (.cells caseCells5 t (0, 0))) :
  LaidIn P w [("unicode.CaseRanges", caseData)] [ρ.g 13, R] := by
 obtain ⟨ps, hv, hnd, hrows⟩ := laidMet_with_case L t206 X (l := []) 1 rfl rfl rfl R t hgR rfl hvar hblk
 refine ⟨ps, hv, hnd, hrows, ?_⟩
 obtain ⟨g, t', cs, fuel, p, q, hg, ht, hv', hd, hq, e⟩ := hv
 have hq : q = [] := hq
 subst hq
 obtain rfl := Option.some.inj (X.n13.symm.trans hg)
 obtain rfl := Option.some.inj (X.y13.symm.trans ht)
 have hv2 : w.var? P "unicode.CaseRanges" = some #[.slice (some ⟨R, 0, none⟩) caseA.size caseA.size] := by simp [World.var?, X.n13, hvar]
 obtain rfl := Option.some.inj (hv2.symm.trans hv')
 have hread := case_slice_reads L t206 X (caseTab_of_block hblk) caseA_wf (by rw [caseA_size]; unfold maxLen; omega) 0
 have u := DataW.Trod.unique (v := .slice (some ⟨R, 0, none⟩) caseA.size caseA.size) ⟨_, hread⟩ ⟨_, hd⟩
 rw [← u.2] at e
 intro x hx
 rw [e, List.append_nil] at hx
 rcases List.mem_append.1 hx with hx | hx
 ·obtain ⟨i, _, rfl⟩ := MemPlace.mem_row.1 hx
  simp [MemPlace.block]
 ·obtain ⟨i, _, rfl⟩ := MemPlace.mem_row.1 hx
  simp [MemPlace.block]
set_option maxRecDepth 1000000 in
theorem pieceA (os : Os) (args : Array Value) : LaidIn Tryz.prog ((laidWorld os).forCall (fun _ _ => 0) ⟨#[], args, []⟩).memory (Rows.lexWordsRow.laid.take 7) [8, 9, 5, 7, 2, 1, 0, N0, N0 + 1] :=
 LaidIn.of_run _ 10 (by kernel_rfl) (by kernel_rfl) (by kernel_rfl) (by kernel_rfl)
set_option maxRecDepth 1000000 in
theorem pieceB (os : Os) (args : Array Value) : LaidIn Tryz.prog ((laidWorld os).forCall (fun _ _ => 0) ⟨#[], args, []⟩).memory [("unicode.CaseRanges", Rows.laid_unicode_CaseRanges)] [3, N0 + 2] := by
 rw [show Rows.laid_unicode_CaseRanges = caseData from Pinned.caseRanges_eq]
 exact laidIn_case (ρ := Tryz.lays159_ren) { Tryz.lays159 with } Tryz.lays159.t206 ⟨by kernel_rfl, by kernel_rfl, by kernel_rfl, by kernel_rfl, by kernel_rfl, by kernel_rfl⟩ (N0 + 2) (Tryz.lays159_ren.t 208) (of_decide_eq_true (by kernel_rfl)) (by kernel_rfl) (by kernel_rfl)
set_option maxRecDepth 1000000 in
theorem pieceC (os : Os) (args : Array Value) : LaidIn Tryz.prog ((laidWorld os).forCall (fun _ _ => 0) ⟨#[], args, []⟩).memory [("unicode/utf8.first", Rows.laid_unicode_utf8_first)] [6] :=
 LaidIn.of_run _ 10 (by kernel_rfl) (by kernel_rfl) (by kernel_rfl) (by kernel_rfl)
theorem laid_met (os : Os) (args : Array Value) : laidMet Tryz.prog Rows.lexWordsRow.laid ((laidWorld os).forCall (fun _ _ => 0) ⟨#[], args, []⟩).memory :=
 (((pieceA os args).append (pieceB os args) (by kernel_rfl)).append (pieceC os args) (by kernel_rfl)).met
theorem own : ownKnob Tryz.prog.godebug = none := by kernel_rfl
theorem kids : Kids Tryz.prog (· < Tryz.prog.types.size) := kids_rows (by kernel_rfl) (by kernel_rfl)
theorem full : ∀ t e, t < Tryz.prog.types.size → Tryz.prog.underlying t = some (.slice e) → 0 < Tryz.prog.cellsOf e := slices_full_of Tryz.prog (by kernel_rfl)
end Go.Proofs.YtmngkcpobmhnoaaGreatDoor.Sim
