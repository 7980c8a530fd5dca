/- The walk of strconv.FormatUint, at base 10: a number's numeral. -/
import Derived.Test.YtmngkcpobmhnoaaGreatDoorKEnv
import Derived.Test.YtmngkcpobmhnoaaGreatDoorKShelf
import Derived.Shelf.Strconv.Itoa1
import Derived.Shelf.Strconv.Itoa2
import Derived.Lib.Walk
import Derived.Lib.ItoaMem
import Derived.WalkKit
import Derived.BigCall
import Derived.BigGuard
set_option linter.all false
namespace Go.Proofs.YtmngkcpobmhnoaaGreatDoor.Sim
open Go.Proofs Go.Shelf Go.RowKit Go.Sort Go.Lib

section
variable {P : Program} {ρ : Ren}
set_option maxHeartbeats 2000000 in
set_option maxRecDepth 100000 in
theorem numDigits_walk (L : LaysM.n284 P ρ) (u : Nat) (h1 : 1 ≤ u) (h2 : u < 18446744073709551616) (w : World)
  (htab : ∀ i, i < 20 → w.cell? ⟨(ρ.g 17), i, none⟩ = some (.int .u64 ((10 ^ i : Nat) : Int))) :
  Calls P (ρ.f 284) #[.int .u64 u] w fun e w' => e = .returned (.int .i64 (Lib.nDigits u)) ∧ w' = w := by
 have mixed := L.mixed
 have t53 := L.t53; have a53 := L.a53; have z53 := L.z53; have v53 := L.v53
 have t3 := L.t3; have a3 := L.a3; have z3 := L.z3; have v3 := L.v3
 have t212 := L.t212; have a212 := L.a212; have z212 := L.z212; have v212 := L.v212
 have t0 := L.t0; have a0 := L.a0; have z0 := L.z0; have v0 := L.v0
 have t4 := L.t4; have a4 := L.a4; have z4 := L.z4; have v4 := L.v4
 have e129 : ∀ args w, (callFunc (ρ.f 129) args).run P w = .ok (.enter (ρ.f 129) args) w := enters_of L.f129 (by kernel_rfl) rfl
 have e317 : ∀ args w, (callFunc (ρ.f 317) args).run P w = .ok (.enter (ρ.f 317) args) w := enters_of L.f317 (by kernel_rfl) rfl
 have e318 : ∀ args w, (callFunc (ρ.f 318) args).run P w = .ok (.enter (ρ.f 318) args) w := enters_of L.f318 (by kernel_rfl) rfl
 have hg := L.m17
 obtain ⟨hnd, h19⟩ := Lib.numDigits_eq u h1 h2
 have hL : Lib.bitLen u ≤ 64 := Lib.bitLen_le u 64 (Nat.le_refl _) h2
 have hcell : w.cell? ⟨(ρ.g 17), Lib.l10 (Lib.bitLen u), none⟩ = some (.int .u64 ((10 ^ Lib.l10 (Lib.bitLen u) : Nat) : Int)) := htab _ (by omega)
 have hto : ((u : Int)).toNat = u := by omega
 generalize hq : Lib.l10 (Lib.bitLen u) = q at hnd h19 hcell
 generalize hT : 10 ^ q = T at hnd hcell
 have h20 : q < 20 := by omega
 have Hnd := Lib.hid hnd
 clear hnd htab hg
 go_enter L.f284, Body.n284_ntmps ρ
 go_wp2_with (first
  | (go_at_fn (ρ.f 129); refine (Any.bits_Len64 { L with } _ _ (by omega) (by omega)).mono ?_; rintro e w' ⟨rfl, rfl⟩)
  | (go_at_fn (ρ.f 317); refine (Any.internal_strconv_log10Pow2 { L with } _ (by first | exact hL | (rw [hto]; exact hL)) _).mono ?_; rintro e w' ⟨rfl, rfl⟩)
  | (go_at_fn (ρ.f 318); refine (Any.internal_strconv_bool2_int { L with } _ _).mono ?_; rintro e w' ⟨rfl, rfl⟩))
 all_goals go_ret
 all_goals (
  refine ⟨?_, rfl⟩
  have hnd := Hnd.out
  congr 2
  split at hnd <;> simp_all <;> omega)
end

theorem holds_zero0 (w : World) (T : TypeId) (nd : Nat) (hs : nd ≤ 24) : Holds (fun (b : UInt8) => Value.int .u8 (b.toNat : Int)) (w.alloc (.cells Lib.zeros24 T)) w.heap.size 0 (Array.replicate nd (0 : UInt8)) := fun j hj => by
 have hj' : j < nd := by simpa using hj
 refine ⟨?_, World.frozen?_alloc_new _ _ _ _⟩
 rw [World.cell?_alloc_new, zeros24_at _ (by omega), getElem!_pos _ j hj]
 simp
theorem fin_pos0 (w : World) (o : Obj) (dk : Array UInt8) (k : Nat) : ∃ os, (putRow (fun (b : UInt8) => Value.int .u8 (b.toNat : Int)) (w.alloc o) w.heap.size 0 dk).drewN k = grow (w.drewN k) os := by
 rw [alloc_eq_grow]
 obtain ⟨os', _, e⟩ := putRow_grow_new (fun (b : UInt8) => Value.int .u8 (b.toNat : Int)) w #[o] w.heap.size 0 dk (Nat.le_refl _)
 exact ⟨os', by rw [e]; rfl⟩
def PowTab (w : World) : Prop := ∀ i, i < 20 → w.cell? ⟨5, i, none⟩ = some (.int .u64 ((10 ^ i : Nat) : Int))
theorem powTab_alloc {w : World} (h : PowTab w) (o : Obj) : PowTab (w.alloc o) := fun i hi => by
 have h1 := h i hi
 have hlt : 5 < w.heap.size := by
  rcases Nat.lt_or_ge 5 w.heap.size with h' | h'
  ·exact h'
  ·unfold World.cell? at h1; rw [Array.getElem?_eq_none h'] at h1; cases h1
 unfold World.cell? at h1 ⊢
 rw [RowKit.Below.heap_alloc w o _ hlt]
 exact h1

set_option maxHeartbeats 6400000 in
set_option maxRecDepth 100000 in
theorem fmt_walk (u : Nat) (hu64 : u < 18446744073709551616) (w : World) (htab : PowTab w) :
  Calls Tryz.prog 116 #[.int .u64 u, .int .i64 10] w fun e w' => e = .returned (.string ⟨(Lib.decDigits u).toArray⟩) ∧ ∃ k os, w' = grow (w.drewN k) os := by
 by_cases hs : u < 100
 ·have hwr : IntKind.i64.wrap (u : Int) = (u : Int) := by rw [IntKind.wrap_i64]; omega
  go_enter Tryz.func116, Tryz.ntmps116
  go_wp2_with (refine (Tryz.internal_strconv_small u hs _).mono ?_; rintro e w' ⟨rfl, rfl⟩)
  go_ret
  exact ⟨rfl, 0, #[], by simp [World.drewN_zero]⟩
 ·have hu1 : 1 ≤ u := by omega
  have hnd20 : Lib.nDigits u ≤ 20 := by have := Lib.numDigits_eq u hu1 hu64; split at this <;> omega
  have hb3 : Lib.nDigits u ≤ 24 := by omega
  have hal : (Tryz.prog).arrayLen 175 = 24 := by simp [Program.arrayLen, Tryz.underlying175]
  have hsl : ∀ W, (Instr.sliceAt 175 (.pointer (some ⟨w.heap.size, 0, none⟩)) none (some (.int .i64 (Lib.nDigits u : Int))) none).run Tryz.prog W = .ok (.slice (some ⟨w.heap.size, 0, none⟩) (Lib.nDigits u) 24) W := fun W => by
   rw [run_sliceAt_array_h W 175 ⟨w.heap.size, 0, none⟩ (by simp [Program.arrayLen, Program.elem, Tryz.underlying175]) .i64 (Lib.nDigits u : Int) (by omega) (by rw [hal]; omega)]
   go_simp
   try omega
  have hH0 := holds_zero0 w 175 (Lib.nDigits u) (by omega)
  have hfmt := Tryz.internal_strconv_formatBase10 w.heap.size 0 24 u (Array.replicate (Lib.nDigits u) 0) (w.alloc (.cells Lib.zeros24 175)) hH0 (by rw [Array.size_replicate]; exact Lib.lt_pow_nDigits u) hu64 (by rw [Array.size_replicate]; omega)
  rw [Array.size_replicate] at hfmt
  have HH0 := Lib.hid hH0
  clear hH0 hal
  go_enter Tryz.func116, Tryz.ntmps116
  go_wp2_with (first
   | (go_at_call 148; refine (numDigits_walk Tryz.laysM284 u hu1 hu64 _ (powTab_alloc htab _)).mono ?_; rintro e w' ⟨rfl, rfl⟩))
  go_at_call 149
  refine hfmt.mono ?_
  rintro e w' ⟨rfl, k, v', dk, rfl, hF⟩
  have hcv : (convert 84 9 (.slice (some ⟨w.heap.size, 0, none⟩) (Lib.nDigits u) 24)).run Tryz.prog ((putRow (fun (b : UInt8) => Value.int .u8 (b.toNat : Int)) (w.alloc (.cells Lib.zeros24 175)) w.heap.size 0 dk).drewN k) = .ok (.string ⟨(Lib.decDigits u).toArray⟩) ((putRow (fun (b : UInt8) => Value.int .u8 (b.toNat : Int)) (w.alloc (.cells Lib.zeros24 175)) w.heap.size 0 dk).drewN k) := by
   have h := run_convert_bytes_back (P := Tryz.prog) ((putRow (fun (b : UInt8) => Value.int .u8 (b.toNat : Int)) (w.alloc (.cells Lib.zeros24 175)) w.heap.size 0 dk).drewN k) 84 9 5 ⟨w.heap.size, 0, none⟩ 24 (Lib.decDigits u) Tryz.underlying84 Tryz.underlying5 Tryz.underlying9 (fun j hj => by
    rw [Lib.row_is_numeral hF j hj, Lib.add_plain, World.cell?_drewN]
    exact cell?_putRow (fun (b : UInt8) => Value.int .u8 (b.toNat : Int)) _ w.heap.size 0 _ dk HH0.out (by rw [hF.size, Array.size_replicate]) j (by rw [hF.size]; rw [Lib.decDigits_length] at hj; exact hj))
   rw [Lib.decDigits_length] at h
   exact h
  go_wp2
  go_ret
  obtain ⟨os, eo⟩ := fin_pos0 w (.cells Lib.zeros24 175) dk k
  exact ⟨rfl, k, os, eo⟩
set_option maxHeartbeats 1000000 in
set_option maxRecDepth 100000 in
theorem fmtUint_walk (u : Nat) (hu64 : u < 18446744073709551616) (w : World) (htab : PowTab w) :
  Calls Tryz.prog 77 #[.int .u64 u, .int .i64 10] w fun e w' => e = .returned (.string ⟨(Lib.decDigits u).toArray⟩) ∧ Below w.heap.size w w' := by
 go_enter Tryz.func77, Tryz.ntmps77
 go_wp2_with (refine (fmt_walk u hu64 _ htab).mono ?_; rintro e w' ⟨rfl, k, os, rfl⟩)
 go_ret
 refine ⟨rfl, ⟨rfl, rfl, rfl, ?_, fun b hb => ?_⟩⟩
 ·simp [grow, World.drewN]
 ·exact heap_grow_old (w.drewN k) os hb
end Go.Proofs.YtmngkcpobmhnoaaGreatDoor.Sim
