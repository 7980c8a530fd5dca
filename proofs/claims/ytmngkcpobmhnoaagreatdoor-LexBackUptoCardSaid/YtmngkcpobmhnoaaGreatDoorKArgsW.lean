/- Glue: lists of words as the evaluator's values. -/
import Derived.Test.YtmngkcpobmhnoaaGreatDoorKArgs
set_option linter.all false
namespace Go.Proofs.YtmngkcpobmhnoaaGreatDoor.Sim
open Go.Proofs Go.RowKit Go.Shelf Go.Lib
theorem bulk_sum {H : Type} (T : Nat → T_api_Word) (D : Nat → DataW H) : ∀ I : List Nat, (∀ i ∈ I, (T i).S_.length ≤ Rows.uptoBulk (D i)) → ((I.map T).map fun t => t.S_.length).sum ≤ Rows.uptoBulkAll (I.map D)
 | [], _ => by simp
 | i :: I, h => by
  have h1 := bulk_sum T D I (fun j hj => h j (by simp [hj]))
  have h2 := h i (by simp)
  simp only [List.map_cons, List.sum_cons, Rows.uptoBulkAll]
  omega
set_option maxRecDepth 100000 in
theorem words_arg {b0 : Nat} {H : Type} {enc : TypeId × Value → H} {W : World} {sp : Nat → Bool} {held : Bool} {v : Value} {d : DataW H} {ps : List MemPlace} (hval : Value.okWide Tryz.prog W .any b0 24 v)
  (hd : DataW.Trod enc Tryz.prog W 0 sp held 24 v d ps) :
  ∃ (L : List T_api_Word) (M : List (List PV)), VR (K0 (imOf W)) (.slice .shared 6 M) v ∧ SlR 6 T_api_Word.R .shared 6 L M ∧ L.length ≤ Rows.uptoBulk d ∧ (L.map fun t => t.S_.length).sum ≤ Rows.uptoBulk d ∧ ∀ t ∈ L, t.S_.length ≤ Rows.uptoBulk d ∧ t.File_.length ≤ Rows.uptoBulk d ∧ -9223372036854775808 ≤ t.V_ ∧ t.V_ ≤ 9223372036854775807 := by
 obtain ⟨a0, len, cap, rfl⟩ := WideShapes.okWide_slice Tryz.underlying24 hval
 obtain ⟨fuel, hf⟩ := hd
 have hf : DataW.trod enc Tryz.prog W 0 sp held fuel 24 [.slice a0 len cap] = some (d, ps) := hf
 rcases Deep.open_slice Tryz.underlying24 hf with ⟨e, _⟩ | ⟨a, len1, cap1, m, n, D, Pl, e, _, hl, _, hm, hx, hi⟩
 ·cases e
  refine ⟨[], [], .ir (.snil' 6), ⟨.inl rfl, fun h => rfl, rfl, fun i x cs h _ => by simp at h⟩, Nat.zero_le _, Nat.zero_le _, fun t h => by simp at h⟩
 ·cases e
  have hspot : a.spot = none := by
   simp only [Value.okWide, Cell.okWide, Cell.ok, Tryz.underlying24] at hval
   exact hval.2.2.2.1
  obtain ⟨b, off, spot⟩ := a
  simp only at hspot
  subst hspot
  have hlm : len ≤ m := by rw [hm]; split <;> omega
  -- each element
  have hel : ∀ i, i < len → ∃ T : T_api_Word, (∀ (j : Nat) (p : PV), T.cells[j]? = some p → ∃ v, W.cell? ⟨b, off + i * 6 + j, none⟩ = some v ∧ IR (imOf W) p v) ∧ T.S_.length ≤ Rows.uptoBulk (D i) ∧ T.File_.length ≤ Rows.uptoBulk (D i) ∧ -9223372036854775808 ≤ T.V_ ∧ T.V_ ≤ 9223372036854775807 := by
   intro i hil
   obtain ⟨cs', hc, ht⟩ := hi i (by omega)
   rw [show Tryz.prog.cellsOf 52 = 6 by kernel_rfl] at hc
   obtain ⟨_, hcl, hat⟩ := World.cells?_some hc
   obtain ⟨ys, n', _, hy, hlen, hyl, hfld⟩ := DataW.trod_struct Tryz.underlying52 ht
   have f0 : DataW.trod enc Tryz.prog W 0 sp held n' 3 ((cs'.drop 0).take (Tryz.prog.cellsOf 3)) = ys[0]? := hfld 0 _ rfl
   have f1 : DataW.trod enc Tryz.prog W 0 sp held n' 9 ((cs'.drop 1).take (Tryz.prog.cellsOf 9)) = ys[1]? := hfld 1 _ rfl
   have f2 : DataW.trod enc Tryz.prog W 0 sp held n' 2 ((cs'.drop 2).take (Tryz.prog.cellsOf 2)) = ys[2]? := hfld 2 _ rfl
   have f3 : DataW.trod enc Tryz.prog W 0 sp held n' 3 ((cs'.drop 3).take (Tryz.prog.cellsOf 3)) = ys[3]? := hfld 3 _ rfl
   have f4 : DataW.trod enc Tryz.prog W 0 sp held n' 9 ((cs'.drop 4).take (Tryz.prog.cellsOf 9)) = ys[4]? := hfld 4 _ rfl
   have f5 : DataW.trod enc Tryz.prog W 0 sp held n' 3 ((cs'.drop 5).take (Tryz.prog.cellsOf 3)) = ys[5]? := hfld 5 _ rfl
   have hyl : ys.length = 6 := hyl
   have g : ∀ j, j < 6 → ys[j]? = some (ys[j]?.getD (.nil, [])) := by
    intro j hj
    rw [List.getElem?_eq_getElem (by omega)]; rfl
   rw [g 0 (by omega)] at f0
   rw [g 1 (by omega)] at f1
   rw [g 2 (by omega)] at f2
   rw [g 3 (by omega)] at f3
   rw [g 4 (by omega)] at f4
   rw [g 5 (by omega)] at f5
   have c1 : Tryz.prog.cellsOf 3 = 1 := by kernel_rfl
   have c2 : Tryz.prog.cellsOf 9 = 1 := by kernel_rfl
   have c3 : Tryz.prog.cellsOf 2 = 1 := by kernel_rfl
   rw [c1] at f0 f3 f5
   rw [c2] at f1 f4
   rw [c3] at f2
   obtain ⟨z0, e0⟩ := int_of_trod Tryz.underlying3 f0
   obtain ⟨z1, e1, k1⟩ := string_of_trod (d := (ys[1]?.getD (.nil, [])).1) (p := (ys[1]?.getD (.nil, [])).2) Tryz.underlying9 f1
   obtain ⟨z2, e2, _, wf2⟩ := DataW.trod_int Tryz.underlying2 f2
   have r2 : -9223372036854775808 ≤ z2 ∧ z2 ≤ 9223372036854775807 := by
    simp [Lit.wf, IntKind.min, IntKind.max, IntKind.bits, IntKind.signed] at wf2
    omega
   obtain ⟨z3, e3⟩ := int_of_trod Tryz.underlying3 f3
   obtain ⟨z4, e4, k4⟩ := string_of_trod (d := (ys[4]?.getD (.nil, [])).1) (p := (ys[4]?.getD (.nil, [])).2) Tryz.underlying9 f4
   obtain ⟨z5, e5⟩ := int_of_trod Tryz.underlying3 f5
   have q0 := one_at e0
   have q1 := one_at e1
   have q2 := one_at e2
   have q3 := one_at e3
   have q4 := one_at e4
   have q5 := one_at e5
   have hcell : ∀ j, j < 6 → W.cell? ⟨b, off + i * 6 + j, none⟩ = cs'[j]? := by
    intro j hj
    rw [← hat j hj, add_none, add_none]
   have hDi : D i = .agg (ys.map (·.1)) := congrArg Prod.fst hy
   have hm1 : DataW.lit (.string z1.data.toList) ∈ ys.map (·.1) := by
    rw [← k1]
    have := List.mem_of_getElem? (g 1 (by omega))
    exact List.mem_map_of_mem this
   have hm2 : DataW.lit (.string z4.data.toList) ∈ ys.map (·.1) := by
    rw [← k4]
    have := List.mem_of_getElem? (g 4 (by omega))
    exact List.mem_map_of_mem this
   refine ⟨⟨z0, z1.data.toList, z2, z3, z4.data.toList, z5⟩, ?_, ?_, ?_, r2⟩
   ·intro j p hj
    rcases j with _ | _ | _ | _ | _ | _ | j
    ·cases hj; exact ⟨_, (hcell 0 (by omega)).trans q0, .int _ _⟩
    ·cases hj; exact ⟨_, (hcell 1 (by omega)).trans q1, ir_str' z1⟩
    ·cases hj; exact ⟨_, (hcell 2 (by omega)).trans q2, .int _ _⟩
    ·cases hj; exact ⟨_, (hcell 3 (by omega)).trans q3, .int _ _⟩
    ·cases hj; exact ⟨_, (hcell 4 (by omega)).trans q4, ir_str' z4⟩
    ·cases hj; exact ⟨_, (hcell 5 (by omega)).trans q5, .int _ _⟩
    ·simp [T_api_Word.cells] at hj
   ·have := bulk_part hm1
    rw [hDi]
    simp only [Rows.uptoBulk] at this ⊢
    omega
   ·have := bulk_part hm2
    rw [hDi]
    simp only [Rows.uptoBulk] at this ⊢
    omega
  obtain ⟨T, hT⟩ := Deep.choose_lt hel
  have hdv : d = .slice ((List.range len).map D) ((List.range (m - len)).map fun j => D (len + j)) := congrArg Prod.fst hx
  have hbl : ∀ i, i < len → Rows.uptoBulk (D i) + 1 ≤ Rows.uptoBulk d := by
   intro i hil
   have := bulk_part (d := D i) (l := (List.range len).map D) (List.mem_map_of_mem (List.mem_range.2 hil))
   rw [hdv]
   simp only [Rows.uptoBulk]
   omega
  have hll : len ≤ Rows.uptoBulk d := by
   have := bulk_len ((List.range len).map D)
   rw [hdv]
   simp only [Rows.uptoBulk]
   simp at this
   omega
  have hsum : (((List.range len).map T).map fun t => t.S_.length).sum ≤ Rows.uptoBulk d := by
   have := bulk_sum T D (List.range len) (fun i hi => (hT i (List.mem_range.1 hi)).2.1)
   rw [hdv]
   simp only [Rows.uptoBulk]
   omega
  refine ⟨(List.range len).map T, ((List.range len).map T).map T_api_Word.cells, .ir ?_, ⟨.inl rfl, (fun h => by cases h), (by simp), ?_⟩, by simpa using hll, hsum, ?_⟩
  ·have hgi : ∀ (i : Nat) (e : List PV), (((List.range len).map T).map T_api_Word.cells)[i]? = some e → i < len ∧ e = (T i).cells := by
    intro i e he
    rw [List.getElem?_map, List.getElem?_map] at he
    obtain ⟨y, hy, rfl⟩ := Option.map_eq_some_iff.1 he
    obtain ⟨z, hz, rfl⟩ := Option.map_eq_some_iff.1 hy
    obtain ⟨hz1, hz2⟩ := List.getElem?_eq_some_iff.1 hz
    simp at hz1 hz2
    subst hz2
    exact ⟨hz1, rfl⟩
   have hlen : (((List.range len).map T).map T_api_Word.cells).length = len := by simp
   have := IR.shared (im := imOf W) 6 (((List.range len).map T).map T_api_Word.cells) b off cap (by rw [hlen]; exact hl) (fun i e he => by rw [(hgi i e he).2]; rfl)
    (fun i e j p he hj => by
     obtain ⟨h1, rfl⟩ := hgi i e he
     obtain ⟨v, h2, _⟩ := (hT i h1).1 j p hj
     rw [im_cell h2]; rfl)
    (fun i e j p c he hj hc => by
     obtain ⟨h1, rfl⟩ := hgi i e he
     obtain ⟨v, h2, h3⟩ := (hT i h1).1 j p hj
     rw [im_cell h2] at hc
     cases hc; exact h3)
   rw [hlen] at this
   exact this
  ·intro i x cs h1 h2
   rw [List.getElem?_map, h1] at h2
   exact (Option.some.inj h2).symm
  ·intro t ht
   obtain ⟨i, hi1, rfl⟩ := List.mem_map.1 ht
   have hi2 := List.mem_range.1 hi1
   have h1 := hbl i hi2
   have h2 := (hT i hi2).2
   omega
end Go.Proofs.YtmngkcpobmhnoaaGreatDoor.Sim
