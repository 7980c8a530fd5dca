/- Glue: the evaluator's surroundings hold: what a Builder's methods do with the heap. -/
import Derived.Test.YtmngkcpobmhnoaaGreatDoorKLawKit
import Derived.Test.YtmngkcpobmhnoaaGreatDoorKStrWalk
import Derived.Test.YtmngkcpobmhnoaaGreatDoorKShelf
set_option linter.all false
namespace Go.Proofs.YtmngkcpobmhnoaaGreatDoor.Sim
open Go.Proofs Go.RowKit Go.Shelf

def lays240_ren : Ren := ⟨fun | 240 => 74 | 276 => 115 | n => n, fun | 70 => 96 | 9 => 9 | 0 => 0 | 72 => 98 | 4 => 4 | 20 => 20 | 37 => 84 | 164 => 154 | 3 => 3 | 5 => 5 | n => n, fun | n => n⟩
theorem lays240 : Lays.n240 Tryz.prog lays240_ren := {
 mixed := by kernel_rfl
 f240 := Tryz.func74.trans (congrArg some (by kernel_rfl))
 f276 := Tryz.func115.trans (congrArg some (by kernel_rfl))
 t0 := Tryz.underlying0
 a0 := Tryz.isAgg0
 z0 := Tryz.sizeOf0
 v0 := Tryz.zeroValue0
 t4 := Tryz.underlying4
 a4 := Tryz.isAgg4
 z4 := Tryz.sizeOf4
 v4 := Tryz.zeroValue4
 t9 := Tryz.underlying9
 a9 := Tryz.isAgg9
 z9 := Tryz.sizeOf9
 v9 := Tryz.zeroValue9
 t20 := Tryz.underlying20
 a20 := Tryz.isAgg20
 z20 := Tryz.sizeOf20
 v20 := Tryz.zeroValue20
 t70 := Tryz.underlying96
 a70 := Tryz.isAgg96
 z70 := Tryz.sizeOf96
 v70 := Tryz.zeroValue96
 t72 := Tryz.underlying98
 a72 := Tryz.isAgg98
 z72 := Tryz.sizeOf98
 v72 := Tryz.zeroValue98
 t164 := Tryz.underlying154
 a164 := Tryz.isAgg154
 z164 := Tryz.sizeOf154
 v164 := Tryz.zeroValue154 }
theorem builderX72 : Builder.X72 Tryz.prog lays240_ren := {
 sizeBuilder := by kernel_rfl
 liesBuilder := by kernel_rfl }

theorem args_1 {K : KW} {vs : Array Value} {p : PV} (ha : ArgsOK K [p] vs) : ∃ u, vs = #[u] ∧ VR K p u := by
 have h1 := ha.size
 simp only [List.length_cons, List.length_nil] at h1
 have h2 : vs[0]? = some vs[0] := by simp [h1.symm]
 refine ⟨vs[0], ?_, ha.rel 0 _ _ rfl h2⟩
 apply Array.ext_getElem?
 intro i
 rcases i with _ | i
 ·rw [h2]; rfl
 ·rw [Array.getElem?_eq_none (by omega), Array.getElem?_eq_none (by simp)]
theorem cells_2 {K : KW} {p q : PV} {arr : Array Value} (hc : CellsOK K [p, q] arr) : ∃ u v, arr = #[u, v] ∧ VR K p u ∧ VR K q v ∧ q.one = true := by
 have h1 := hc.size
 simp only [List.length_cons, List.length_nil] at h1
 have h2 : arr[0]? = some arr[0] := by simp [h1.symm]
 have h3 : arr[1]? = some arr[1] := by simp [h1.symm]
 refine ⟨arr[0], arr[1], ?_, hc.rel 0 _ _ rfl h2, hc.rel 1 _ _ rfl h3, hc.one q (by simp)⟩
 apply Array.ext_getElem?
 intro i
 rcases i with _ | _ | i
 ·rw [h2]; rfl
 ·rw [h3]; rfl
 ·rw [Array.getElem?_eq_none (by omega), Array.getElem?_eq_none (by simp)]

theorem horc_wf (g : FuncId) (args : List PV) (h : Heap) (r : PV) (h' : Heap) (he : horcF g args h = some (r, h')) : WFle h h' := by
 unfold horcF at he
 split at he
 ·split at he
  ·split at he
   ·rename_i hb
    split at he
    ·cases he; exact wf_setBox (by rw [hb]; simp) _
    ·cases he
   ·split at he
    ·cases he; exact .refl _
    ·cases he
   ·cases he
  ·cases he
 ·split at he
  ·split at he
   ·split at he
    ·cases he; exact .refl _
    ·split at he
     ·obtain ⟨s, _, e⟩ := Option.map_eq_some_iff.1 he; cases e; exact .refl _
     ·cases he
    ·cases he
   ·cases he
  ·cases he

section
variable {K : KW} {h : Heap} {w : World} {vs : Array Value} {id : Nat}
theorem copy_fresh (s : Sat Tryz.prog C K h w) (ha : ArgsOK K [.ptr id 0] vs) {x : PV} (hb : h.box id = some [.nilptr, x]) (hty : h.bty id = T_strings_Builder) :
  CallsIn Fence.wide 0 Tryz.prog F_strings_Builder_copyCheck vs w (CallPost Tryz.prog C K w (h.setBox id [.ptr id 0, x]) (.tuple [])) := by
 obtain ⟨b, arr, h1, h2, h3⟩ := s.box id _ hb
 obtain ⟨u, rfl, hu⟩ := args_1 ha
 obtain ⟨b', rfl, hb', hn⟩ := hu.ptr_inv
 rw [h1] at hb'; cases hb'
 obtain ⟨v0, v1, rfl, k0, k1, k2⟩ := cells_2 h3
 have := k0.nilptr_inv; subst this
 rw [callsIn_wide]
 refine (Any.Builder_copyCheck_fresh lays240 builderX72 b w ?_ ?_ ?_).mono ?_
 ·rw [Lib.cell_of_heap h2]; rfl
 ·simp only [World.shape?, h2, hty]; rfl
 ·exact Lib.frozen_of_heap h2 0
 ·rintro e w' ⟨rfl, rfl⟩
  have hoth : ∀ y, y ≠ b → (w.setCell ⟨b, 0, none⟩ (.pointer (some ⟨b, 0, none⟩))).heap[y]? = w.heap[y]? := fun y hy => by
   simp only [World.setCell, Array.getElem?_modify]
   rw [if_neg (Ne.symm hy)]
  have hb2 : (w.setCell ⟨b, 0, none⟩ (.pointer (some ⟨b, 0, none⟩))).heap[b]? = some (.cells #[.pointer (some ⟨b, 0, none⟩), v1] (h.bty id) (0, 0)) := by
   simp [World.setCell, Array.getElem?_modify, h2]
  refine ⟨.tuple #[], K, rfl, .tuple [] #[] rfl (fun i p v h => by simp at h), ⟨⟨rfl, rfl, rfl⟩, .refl K, by simp [World.setCell], fun _ h => .inl h,
   fun y _ hy => hoth y (fun e => hy (.inl ⟨id, by rw [e]; exact h1⟩)), fun _ _ _ _ => rfl⟩, s.setBox hb h1 hb2 hoth ⟨rfl, ?_, ?_⟩⟩
  ·intro p hp
   simp only [List.mem_cons, List.not_mem_nil, or_false] at hp
   rcases hp with rfl | rfl
   ·rfl
   ·exact k2
  ·intro i p v hp hv
   rcases i with _ | _ | i
   ·cases hp; cases hv; exact .ptr id 0 b hn h1
   ·cases hp; cases hv; exact k1
   ·simp at hp
theorem copy_used (s : Sat Tryz.prog C K h w) (ha : ArgsOK K [.ptr id 0] vs) {x : PV} (hb : h.box id = some [.ptr id 0, x]) :
  CallsIn Fence.wide 0 Tryz.prog F_strings_Builder_copyCheck vs w (CallPost Tryz.prog C K w h (.tuple [])) := by
 obtain ⟨b, arr, h1, h2, h3⟩ := s.box id _ hb
 obtain ⟨u, rfl, hu⟩ := args_1 ha
 obtain ⟨b', rfl, hb', hn⟩ := hu.ptr_inv
 rw [h1] at hb'; cases hb'
 obtain ⟨v0, v1, rfl, k0, k1, k2⟩ := cells_2 h3
 obtain ⟨b2, rfl, hb2, _⟩ := k0.ptr_inv
 rw [h1] at hb2; cases hb2
 rw [callsIn_wide]
 refine (Any.Builder_copyCheck_used lays240 builderX72 b w ?_).mono ?_
 ·rw [Lib.cell_of_heap h2]; rfl
 ·rintro e w' ⟨rfl, rfl⟩
  exact ⟨.tuple #[], K, rfl, .tuple [] #[] rfl (fun i p v h => by simp at h), .refl K w', s⟩
theorem str_nil (s : Sat Tryz.prog C K h w) (ha : ArgsOK K [.ptr id 0] vs) {x : PV} {es : Nat} {L : List (List PV)} (hb : h.box id = some [x, .slice .nil es L]) :
  CallsIn Fence.wide 0 Tryz.prog F_strings_Builder_String vs w (CallPost Tryz.prog C K w h (.str [])) := by
 obtain ⟨b, arr, h1, h2, h3⟩ := s.box id _ hb
 obtain ⟨u, rfl, hu⟩ := args_1 ha
 obtain ⟨b', rfl, hb', hn⟩ := hu.ptr_inv
 rw [h1] at hb'; cases hb'
 obtain ⟨v0, v1, rfl, k0, k1, k2⟩ := cells_2 h3
 have : v1 = .slice none 0 0 := by
  rcases k1.slice_inv with ⟨h, _⟩ | ⟨_, _, _, _, _, _, h, _⟩
  ·exact h
  ·exact absurd rfl h
 subst this
 have h2' : w.drew.heap[b]? = _ := h2
 rw [callsIn_wide]
 refine (string_nil_walk (w := w) Tryz.lays169 Tryz.Builder_Extra_169 b ?_).mono ?_
 ·rw [Lib.cell_of_heap h2']; rfl
 ·rintro e w' ⟨rfl, rfl⟩
  exact ⟨_, K, rfl, .ir (.str []), .heap ⟨rfl, rfl, rfl⟩ rfl, s.heap rfl⟩
theorem str_own (s : Sat Tryz.prog C K h w) (ha : ArgsOK K [.ptr id 0] vs) {x : PV} {i : Nat} {L : List (List PV)} (hb : h.box id = some [x, .slice (.own i true) 1 L]) (hlive : h.live i = true) (hL : L ≠ [])
  (hm : L.length ≤ 140737488355328) {l : List UInt8} (hl : mapO cellByte L = some l) :
  CallsIn Fence.wide 0 Tryz.prog F_strings_Builder_String vs w (CallPost Tryz.prog C K w h (.str l)) := by
 obtain ⟨b, arr, h1, h2, h3⟩ := s.box id _ hb
 obtain ⟨u, rfl, hu⟩ := args_1 ha
 obtain ⟨b', rfl, hb', hn⟩ := hu.ptr_inv
 rw [h1] at hb'; cases hb'
 obtain ⟨v0, v1, rfl, k0, k1, k2⟩ := cells_2 h3
 have h2' : w.drew.heap[b]? = _ := h2
 rcases k1.slice_inv with ⟨_, h, _⟩ | ⟨g2, off, cap, rfl, hel, hcap, _, _, hown⟩
 ·exact absurd h hL
 obtain ⟨hidn, hgh⟩ := hown i true rfl
 obtain ⟨g, cur, ty, lo, hi, q1, q2, q3, q4, q5, q6, q7⟩ := s.live i hlive
 obtain ⟨gb, gf, gc, gu⟩ := hgh g q1
 obtain ⟨⟨t1, t2⟩, t3⟩ := q7 (gu rfl)
 subst gb
 have hlen := mapO_length hl
 have hpos : 0 < L.length := List.length_pos_iff.2 hL
 have q2' : w.drew.heap[g.b]? = _ := q2
 have hc1 : (Tryz.prog).cellsOf ty = 1 := by
  unfold sizeT at t2
  simp only [Program.cellsOf, t2, Option.getD_some]
 rw [callsIn_wide]
 have hwalk := string_walk (w := w) Tryz.lays169 Tryz.Builder_Extra_169 b g.b off cap l ty cur.size (by rw [Lib.cell_of_heap h2', hlen]; rfl) t1 hc1 (by simp only [World.shape?, q2']) (by intro e; rw [e] at hlen; simp at hlen; omega)
  (by omega) (by omega) (by omega) (fun j y hj => by
   have hjl : j < L.length := by rw [← hlen]; exact (List.getElem?_eq_some_iff.1 hj).1
   obtain ⟨c, e1, e2⟩ := mapO_get hl j L[j] (by simp [hjl])
   obtain ⟨n, e3, e4⟩ := cellByte_inv e2
   rw [hj] at e1; cases e1
   have hLi : L[j]? = some [PV.int .u8 n] := by rw [List.getElem?_eq_getElem hjl, e3]
   obtain ⟨u, hu⟩ := Option.isSome_iff_exists.1 (hel.h1 j _ 0 _ hLi rfl)
   have hir := hel.h2 j _ 0 _ u hLi rfl hu
   cases hir
   refine ⟨n, e4.symm, ?_⟩
   have := s.im _ _ _ hu
   rw [show ((⟨g.b, off, none⟩ : Addr).add j) = ⟨g.b, off + j, none⟩ from Addr.add_zero' .., cell_eq]
   have h9 : cellAt w.heap g.b (off + j) = some (.int .u8 n) := by simpa using this
   exact h9)
 refine hwalk.mono ?_
 rintro e w' ⟨rfl, rfl⟩
 have hl0 : l.length ≠ 0 := by omega
 let fz : Nat × Nat := if lo == hi then (off, off + l.length) else (min lo off, max hi (off + l.length))
 have hoth : ∀ y, y ≠ g.b → (w.drew.freeze ⟨g.b, off, none⟩ l.length).heap[y]? = w.heap[y]? := fun y hy => by
  simp only [World.freeze, if_neg hl0, Array.getElem?_modify]
  rw [if_neg (Ne.symm hy)]; rfl
 have hb2 : (w.drew.freeze ⟨g.b, off, none⟩ l.length).heap[g.b]? = some (.cells cur ty (fz.1, fz.2)) := by
  simp only [World.freeze, if_neg hl0, Array.getElem?_modify, q2', if_true, Option.map_some]
  rfl
 have hcell : ∀ y o, cellAt (w.drew.freeze ⟨g.b, off, none⟩ l.length).heap y o = cellAt w.heap y o := fun y o => by
  unfold cellAt
  by_cases hy : y = g.b
  ·subst hy; rw [hb2, q2]
  ·rw [hoth y hy]
 have hse : SameEnv w (w.drew.freeze ⟨g.b, off, none⟩ l.length) := by
  simp only [World.freeze, if_neg hl0]; exact ⟨rfl, rfl, rfl⟩
 have hsz : (w.drew.freeze ⟨g.b, off, none⟩ l.length).heap.size = w.heap.size := by
  simp only [World.freeze, if_neg hl0, Array.size_modify]; rfl
 have hfz : fz.2 ≤ g.fend := by
  simp only [fz]
  split <;> simp only <;> omega
 refine ⟨_, K, rfl, .ir (.str l), ⟨hse, .refl K, Nat.le_of_eq hsz.symm, fun _ h => .inl h, fun y _ hy => hoth y (fun e => hy (.inr (.inl ⟨i, g, q1, e.symm⟩))), fun _ _ _ _ => rfl⟩, ?_⟩
 exact { s with
  box := fun j cs hj => by
   obtain ⟨b3, vs3, g1, g2, g3⟩ := s.box j cs hj
   exact ⟨b3, vs3, g1, by rw [hoth b3 (fun e => s.gbox i j g b3 q1 g1 e.symm)]; exact g2, g3⟩
  live := fun j hj => by
   by_cases hji : j = i
   ·subst hji
    exact ⟨g, cur, ty, fz.1, fz.2, q1, hb2, q3, q4, fun o h1 h2 h3 => by omega, q6, fun _ => ⟨⟨t1, t2⟩, hfz⟩⟩
   ·obtain ⟨g', vs', ty', lo', hi', p1, p2, p3⟩ := s.live j hj
    exact ⟨g', vs', ty', lo', hi', p1, by rw [hoth g'.b (fun e => hji (s.ginj j i g' g p1 q1 e))]; exact p2, p3⟩
  im := fun y o v hv => by rw [hcell]; exact s.im y o v hv
  lp := fun j r hj => by
   obtain ⟨b3, lr, g1, g2, g3⟩ := s.lp j r hj
   exact ⟨b3, lr, g1, by rw [hoth b3 (fun e => by rw [e, q2] at g2; cases g2)]; exact g2, g3⟩ }
end

theorem horc_sim : HeapSim Tryz.prog C horcF := by
 refine ⟨horc_wf, fun g args h r h' he K w vs s ha => ?_⟩
 unfold horcF at he
 split at he
 ·rename_i hg
  subst hg
  refine ⟨hasCode_of (by kernel_rfl), ?_⟩
  split at he
  ·split at he
   ·rename_i hb
    split at he
    ·rename_i hty; cases he; exact copy_fresh s ha hb hty
    ·cases he
   ·rename_i hb
    split at he
    ·rename_i hi; subst hi; cases he; exact copy_used s ha hb
    ·cases he
   ·cases he
  ·cases he
 ·split at he
  ·rename_i hg
   subst hg
   refine ⟨hasCode_of (by kernel_rfl), ?_⟩
   split at he
   ·split at he
    ·rename_i hb; cases he; exact str_nil s ha hb
    ·rename_i hb
     split at he
     ·rename_i hc
      obtain ⟨c1, c2, c3, c4⟩ := hc
      subst c3
      obtain ⟨l, hl, e⟩ := Option.map_eq_some_iff.1 he
      cases e
      exact str_own s ha hb c1 c2 c4 hl
     ·cases he
    ·cases he
   ·cases he
  ·cases he
theorem envOK : EnvOK Tryz.prog C E := ⟨comp_all, horc_sim⟩
end Go.Proofs.YtmngkcpobmhnoaaGreatDoor.Sim
