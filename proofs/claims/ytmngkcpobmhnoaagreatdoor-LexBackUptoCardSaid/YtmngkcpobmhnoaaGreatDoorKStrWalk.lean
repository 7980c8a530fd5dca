/- Glue: what (*strings.Builder).String does, to the block: the bytes are read, and frozen. -/
import Derived.Shelf.Strings.Builder1
set_option linter.all false
namespace Go.Proofs.YtmngkcpobmhnoaaGreatDoor.Sim
open Go.Proofs Go.RowKit Go.Shelf

section
variable {P : Program} {ρ : Ren} {w : World}
theorem lies_u8 {ty e : TypeId} (ht : P.underlying ty = some (.int .u8)) (he : P.underlying e = some (.int .u8)) (hc : P.cellsOf ty = 1) (count off n : Nat) (hn : off + n ≤ count) :
  liesAt P P.depth ty count off e n = true := by
 have hd : P.depth = (2 * (P.types.size + Made.depth) + 1) + 1 := rfl
 rw [hd]
 simp only [liesAt, Bool.or_eq_true]
 left
 rw [hd]
 simp [rowAt, hc, hn, sameLayout, ht, he, Nat.mod_one]

theorem run_loadBytes' : ∀ (l : List UInt8) (a : Addr) (acc : ByteArray), (∀ j x, l[j]? = some x → ∃ n : Int, n.toNat.toUInt8 = x ∧ w.cell? (a.add j) = some (.int .u8 n)) →
  (loadBytes a acc l.length).run P w = .ok ⟨acc.data ++ l.toArray⟩ w
 | [], a, acc, _ => by simp [loadBytes]
 | x :: l, a, acc, h => by
  obtain ⟨n, hx, h0⟩ := h 0 x rfl
  have h0 : w.cell? a = some (.int .u8 n) := by simpa [Addr.add] using h0
  have ih := run_loadBytes' l (a.add 1) (acc.push x) (fun j y hy => by
   have := h (j + 1) y (by simpa using hy)
   have e : (a.add 1).add j = a.add (j + 1) := by
    unfold Addr.add
    by_cases hj : j = 0
    ·subst hj; simp
    ·simp [hj]; omega
   rw [e]; exact this)
  simp only [List.length_cons, loadBytes, Sem.run_bind, run_load, h0, Result.andThen, hx]
  rw [ih]
  congr 1
  apply ByteArray.ext
  simp [ByteArray.push]

theorem run_unsafeString_at (pt it ty e bt : TypeId) (hp : P.underlying pt = some (.pointer e)) (he : P.underlying e = some (.int .u8)) (hb : P.underlying bt = some (.int .u8)) (hc : P.cellsOf bt = 1) (g off cells : Nat) (hsh : w.shape? g = some (bt, cells))
  (l : List UInt8) (h0 : l ≠ []) (hn : off + l.length ≤ cells) (h63 : l.length ≤ 9223372036854775807)
  (hcell : ∀ j x, l[j]? = some x → ∃ n : Int, n.toNat.toUInt8 = x ∧ w.cell? ((⟨g, off, none⟩ : Addr).add j) = some (.int .u8 n)) :
  (Builtin.unsafeString_ #[pt, it] ty #[.pointer (some ⟨g, off, none⟩), .int .i64 l.length]).run P w = .ok (.string ⟨l.toArray⟩) (w.freeze ⟨g, off, none⟩ l.length) := by
 have hl : l.length ≠ 0 := by simpa using h0
 have hlb := run_loadBytes' (P := P) (w := w) l ⟨g, off, none⟩ .empty hcell
 have hlies := lies_u8 (P := P) hb he hc (cells / P.cellsOf bt) off l.length (by rw [hc]; simpa using hn)
 have h63' : ¬ (9223372036854775807 : Int) < (l.length : Int) := by omega
 have hdef : Builtin.unsafeString_ #[pt, it] ty #[.pointer (some ⟨g, off, none⟩), .int .i64 l.length] =
   (do
    let n ← asInt (.int .i64 l.length)
    if n < 0 then runtimePanic (.error "unsafe.String: len out of range")
    if n > IntKind.i64.max then unsupported (.unsafePointer "String: a length above the largest int")
    if n = 0 then pure (.string .empty)
    else if ← variablesAt ⟨g, off, none⟩ (← elemOf pt) n.toNat then do
     let s ← loadBytes ⟨g, off, none⟩ .empty n.toNat
     freeze ⟨g, off, none⟩ n.toNat
     pure (.string s)
    else unsupported (.unsafePointer "String: not so many bytes at ptr")) := rfl
 rw [hdef]
 have hmax : IntKind.i64.max = 9223372036854775807 := rfl
 have hneg : ¬ (l.length : Int) < 0 := by omega
 simp [asInt, asIntOf, hmax, h63', hneg, hl, variablesAt, hsh, elemOf, run_underlying hp, hlies, hlb]

set_option maxHeartbeats 1000000 in
set_option maxRecDepth 100000 in
theorem string_walk (L : Lays.n169 P ρ) (X : Builder.Extra P ρ) (b g off cap : Nat) (l : List UInt8) (bt : TypeId) (cells : Nat) (c1 : w.drew.cell? ⟨b, 1, none⟩ = some (.slice (some ⟨g, off, none⟩) l.length cap))
  (hb : P.underlying bt = some (.int .u8)) (hc : P.cellsOf bt = 1) (hsh : w.drew.shape? g = some (bt, cells)) (h0 : l ≠ []) (hn : off + l.length ≤ cells) (h63 : l.length ≤ 9223372036854775807) (hcap : cap ≠ 0)
  (hcell : ∀ j x, l[j]? = some x → ∃ n : Int, n.toNat.toUInt8 = x ∧ w.drew.cell? ((⟨g, off, none⟩ : Addr).add j) = some (.int .u8 n)) :
  Calls P (ρ.f 169) #[.pointer (some ⟨b, 0, none⟩)] w fun e w' => e = .returned (.string ⟨l.toArray⟩) ∧ w' = w.drew.freeze ⟨g, off, none⟩ l.length := by
 have hSD : (Builtin.unsafeSliceData_ #[(ρ.t 37)] (ρ.t 127) #[.slice (some ⟨g, off, none⟩) l.length cap]).run P w.drew = .ok (.pointer (some ⟨g, off, none⟩)) w.drew :=
  Lib.run_unsafeSliceData_row _ _ _ _ _ _ hcap
 have hUS : (Builtin.unsafeString_ #[(ρ.t 127), (ρ.t 3)] (ρ.t 9) #[.pointer (some ⟨g, off, none⟩), .int .i64 l.length]).run P w.drew = .ok (.string ⟨l.toArray⟩) (w.drew.freeze ⟨g, off, none⟩ l.length) :=
  run_unsafeString_at (ρ.t 127) (ρ.t 3) (ρ.t 9) (ρ.t 5) bt L.t127 X.t5 hb hc g off cells hsh l h0 hn h63 hcell
 clear hcell hsh
 have mixed := L.mixed
 have t72 := L.t72; have a72 := L.a72; have z72 := L.z72; have v72 := L.v72; have u72 := run_underlying L.t72
 have t70 := L.t70; have a70 := L.a70; have z70 := L.z70; have v70 := L.v70; have u70 := run_underlying L.t70
 have t37 := L.t37; have a37 := L.a37; have z37 := L.z37; have v37 := L.v37; have u37 := run_underlying L.t37
 have t127 := L.t127; have a127 := L.a127; have z127 := L.z127; have v127 := L.v127; have u127 := run_underlying L.t127
 have t3 := L.t3; have a3 := L.a3; have z3 := L.z3; have v3 := L.v3; have u3 := run_underlying L.t3
 have t9 := L.t9; have a9 := L.a9; have z9 := L.z9; have v9 := L.v9; have u9 := run_underlying L.t9
 have t5 := X.t5; have a5 := X.a5; have z5 := X.z5; have v5 := X.v5; have u5 := run_underlying X.t5
 go_enter L.f169, Body.n169_ntmps ρ
 go_wp2
 go_region_o
 all_goals (go_wp2; go_ret; exact ⟨rfl, rfl⟩)

set_option maxHeartbeats 2000000 in
set_option maxRecDepth 100000 in
theorem string_nil_walk (L : Lays.n169 P ρ) (X : Builder.Extra P ρ) (b : Nat) (c1 : w.drew.cell? ⟨b, 1, none⟩ = some (.slice none 0 0)) :
  Calls P (ρ.f 169) #[.pointer (some ⟨b, 0, none⟩)] w fun e w' => e = .returned (.string ⟨#[]⟩) ∧ w' = w.drew := by
 have hUS := Any.unsafeString_none L X
 have hSD : (Builtin.unsafeSliceData_ #[(ρ.t 37)] (ρ.t 127) #[.slice none 0 0]).run P w.drew = .ok (.pointer none) w.drew := rfl
 have mixed := L.mixed
 have t72 := L.t72; have a72 := L.a72; have z72 := L.z72; have v72 := L.v72; have u72 := run_underlying L.t72
 have t70 := L.t70; have a70 := L.a70; have z70 := L.z70; have v70 := L.v70; have u70 := run_underlying L.t70
 have t37 := L.t37; have a37 := L.a37; have z37 := L.z37; have v37 := L.v37; have u37 := run_underlying L.t37
 have t127 := L.t127; have a127 := L.a127; have z127 := L.z127; have v127 := L.v127; have u127 := run_underlying L.t127
 have t3 := L.t3; have a3 := L.a3; have z3 := L.z3; have v3 := L.v3; have u3 := run_underlying L.t3
 have t9 := L.t9; have a9 := L.a9; have z9 := L.z9; have v9 := L.v9; have u9 := run_underlying L.t9
 have t5 := X.t5; have a5 := X.a5; have z5 := X.z5; have v5 := X.v5; have u5 := run_underlying X.t5
 go_enter L.f169, Body.n169_ntmps ρ
 go_wp2
 go_region_o
 all_goals (go_wp2; go_ret; exact ⟨rfl, rfl⟩)
end
end Go.Proofs.YtmngkcpobmhnoaaGreatDoor.Sim
