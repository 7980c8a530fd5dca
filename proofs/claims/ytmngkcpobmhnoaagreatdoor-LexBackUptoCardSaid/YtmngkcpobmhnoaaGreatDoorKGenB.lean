/- strings.Builder: what its methods come to. -/
import Derived.Test.YtmngkcpobmhnoaaGreatDoorKGen1
set_option linter.all false
namespace Go.Proofs.YtmngkcpobmhnoaaGreatDoor.Sim

def BdA (id : Nat) (a : PV) (o : Own) (L : Bytes) : Prop := (a = .nilptr ∨ a = .ptr id 0) ∧ (L = [] → o = .nil) ∧ (o = .nil ∨ ∃ i, o = .own i true) ∧ L.length ≤ 140737488355328
theorem bda_nil {id : Nat} : BdA id .nilptr .nil [] := ⟨.inl rfl, fun _ => rfl, .inl rfl, by simp⟩

structure BdFr (id : Nat) (o : Own) (h : Heap) (o' : Own) (h' : Heap) : Prop where
 n : h.n ≤ h'.n
 box : ∀ i, i ≠ id → h'.box i = h.box i
 loop : h'.loop = h.loop
 bty : h'.bty = h.bty
 keep : ∀ o2, OwnOK h o2 → Dis o o2 → OwnOK h' o2 ∧ Dis o' o2
 live : ∀ i, i < h.n → (∀ b, o ≠ .own i b) → h'.live i = h.live i
 new : o' = .nil ∨ ∃ i b, o' = .own i b ∧ h.n ≤ i

theorem set_same' {h : Heap} {id : Nat} {a : List PV} (hb : h.box id = some a) : h.setBox id a = h := by
 simp only [Heap.setBox]
 have : (fun i => if i = id then some a else h.box i) = h.box := by funext i; split <;> simp_all
 rw [this]
theorem copyCheck_ok {h : Heap} {id : Nat} {a x : PV} (hbx : h.box id = some [a, x]) (hty : h.bty id = T_strings_Builder) (ha : a = .nilptr ∨ a = .ptr id 0) :
  CallC E (.func F_strings_Builder_copyCheck [] []) [.ptr id 0] h (fun v h' => v = .tuple [] ∧ h' = h.setBox id [.ptr id 0, x]) := by
 refine callC_horc (E := E) (by kernel_rfl) (v := .tuple []) (h' := h.setBox id [.ptr id 0, x]) ?_ ⟨rfl, rfl⟩
 show horcF F_strings_Builder_copyCheck [.ptr id 0] h = _
 rcases ha with rfl | rfl
 ·simp [horcF, hbx, hty]
 ·simp [horcF, hbx, set_same' hbx]

section
variable {A : Type} {r : A} {h : Heap} {n : PV → Heap → Prop} {t : Blk n} {id : Nat} {a : PV} {o : Own} {e : Nat} {L : Bytes} {M : List (List PV)}
theorem b8_toNat {c : UInt8} : b8 (c.toNat : Int) = some c := by
 have : (c.toNat : Int) < 256 := by have := c.toNat_lt; omega
 simp [b8, this]
theorem fq_wb {m : Int} {c : UInt8} (hbx : h.box id = some [a, .slice o e M]) (hty : h.bty id = T_strings_Builder) (hB : BdA id a o L) (hs : SlR 1 R8 o e L M) (hO : OwnOK h o) (hc : b8 m = some c)
  {K : Bytes → Option A} (hb : (app 1 L [c] >>= K) = some r)
  (hn : ∀ x o' M' h', app 1 L [c] = some x → K x = some r → SlR 1 R8 o' 1 x M' → BdA id (.ptr id 0) o' x → OwnOK h' o' → BdFr id o h o' h' → h'.box id = some [.ptr id 0, .slice o' 1 M'] → n .nilIface h') :
  Fq E (.func F_strings_Builder_WriteByte [] []) [.ptr id 0, .int .u8 m] h n t := by
 have em := b8_some hc
 refine fq_in fn_strings_Builder_WriteByte (by rfl) ?_
 simp (disch := first | omega | assumption | (simp only [m_l0, m_lc] <;> omega)) only [↓WD, WR, HN, ↓reduceIte, reduceCtorEq, Nat.reduceEqDiff, Nat.reduceAdd, Nat.reduceLT, Nat.reduceLeDiff, hbx]
 refine fq_mono (copyCheck_ok hbx hty hB.1) ?_
 rintro _ _ ⟨rfl, rfl⟩
 simp (disch := first | omega | assumption | (simp only [m_l0, m_lc] <;> omega)) only [↓WD, WR, HN, ↓reduceIte, reduceCtorEq, Nat.reduceEqDiff, Nat.reduceAdd, Nat.reduceLT, Nat.reduceLeDiff, hbx]
 refine vq_bsl rfl ?_
 simp (disch := first | omega | assumption | (simp only [m_l0, m_lc] <;> omega)) only [↓WD, WR, HN, ↓reduceIte, reduceCtorEq, Nat.reduceEqDiff, Nat.reduceAdd, Nat.reduceLT, Nat.reduceLeDiff, hbx]
 refine vq_appB hs (by rw [own_arr (by rw [own_set]; exact hO)]; trivial) (show SlR 1 R8 (.own h.n false) 1 [c] [[.int .u8 m]] from slr_cons (by simp) (r8_of hc) slr_0) hb (fun x o' M' h' hx hb hs' hO' hF hu => ?_)
 simp (disch := first | omega | assumption | (simp only [m_l0, m_lc] <;> omega)) only [↓WD, WR, HN, ↓reduceIte, reduceCtorEq, Nat.reduceEqDiff, Nat.reduceAdd, Nat.reduceLT, Nat.reduceLeDiff, hbx, hF.box]
 have hxe : x = L ++ [c] := by unfold app at hx; split at hx <;> simp_all
 have hxl : x.length ≤ 140737488355328 := by
  unfold app at hx; split at hx
  ·rename_i hl; cases hx; simp at hl ⊢; omega
  ·cases hx
 have q := hF.n
 simp only [HN] at q
 refine hn x o' M' _ hx hb hs' ⟨.inr rfl, (fun h => by simp [hxe] at h), hu rfl hB.2.2.1, hxl⟩ (by rw [own_set]; exact hO') ⟨?_, ?_, ?_, ?_, ?_, ?_, ?_⟩ hb_set
 ·simp only [HN]; omega
 ·intro i hi; rw [hb_oset hi, hF.box, hb_arr, hb_oset hi]
 ·show h'.loop = h.loop; rw [hF.loop]; rfl
 ·show h'.bty = h.bty; rw [hF.bty]; rfl
 ·intro o2 h1 h2
  rw [own_set]
  exact hF.keep o2 (by rw [own_arr (by rw [own_set]; exact h1)]; trivial) h2
 ·intro i hi hne
  show h'.live i = h.live i
  rw [hF.live i (by simp only [HN]; omega) hne, hl_oarr (by simp only [HN]; omega), hl_set]
 ·rcases hF.new with h1 | ⟨i, b, h1, h2⟩
  ·exact .inl h1
  ·exact .inr ⟨i, _, h1, by simp only [HN] at h2; omega⟩
theorem fq_ws {s : Bytes} (hbx : h.box id = some [a, .slice o e M]) (hty : h.bty id = T_strings_Builder) (hB : BdA id a o L) (hs : SlR 1 R8 o e L M) (hO : OwnOK h o)
  {K : Bytes → Option A} (hb : (app 1 L s >>= K) = some r)
  (hn : ∀ x o' M' h', app 1 L s = some x → K x = some r → SlR 1 R8 o' 1 x M' → BdA id (.ptr id 0) o' x → OwnOK h' o' → BdFr id o h o' h' → h'.box id = some [.ptr id 0, .slice o' 1 M'] → n (.tuple [.int .i64 s.length, .nilIface]) h') :
  Fq E (.func F_strings_Builder_WriteString [] []) [.ptr id 0, .str s] h n t := by
 refine fq_in fn_strings_Builder_WriteString (by rfl) ?_
 simp (disch := first | omega | assumption | (simp only [m_l0, m_lc] <;> omega)) only [↓WD, WR, HN, ↓reduceIte, reduceCtorEq, Nat.reduceEqDiff, Nat.reduceAdd, Nat.reduceLT, Nat.reduceLeDiff, hbx]
 refine fq_mono (copyCheck_ok hbx hty hB.1) ?_
 rintro _ _ ⟨rfl, rfl⟩
 simp (disch := first | omega | assumption | (simp only [m_l0, m_lc] <;> omega)) only [↓WD, WR, HN, ↓reduceIte, reduceCtorEq, Nat.reduceEqDiff, Nat.reduceAdd, Nat.reduceLT, Nat.reduceLeDiff, hbx]
 obtain ⟨x, hx, hb⟩ := bnd hb
 have hx0 := hx
 unfold app at hx0
 split at hx0
 ·rename_i hl
  cases hx0
  obtain ⟨o', h', e1, e2', hF, e4, e5⟩ := appP_ok (h := h.setBox id [.ptr id 0, .slice o e M]) (es := 1) (by' := 1) (e2 := 1) (u8 := true) (y := .str s) (M2 := s.map byteCell) hs.esok (by simp [esOk]) (by rw [own_set]; exact hO) (by simp [elemsOf]) (fun h => by
   have := hs.nil h; have h2 := hs.len; rw [this] at h2; exact List.length_eq_zero_iff.1 h2) (by rw [hs.len]; simpa using hl)
  refine vq_mk e1 ?_
  simp (disch := first | omega | assumption | (simp only [m_l0, m_lc] <;> omega)) only [↓WD, WR, HN, ↓reduceIte, reduceCtorEq, Nat.reduceEqDiff, Nat.reduceAdd, Nat.reduceLT, Nat.reduceLeDiff, hbx, hF.box]
  have q := hF.n
  simp only [HN] at q
  refine hn _ o' _ _ hx hb ?_ ⟨.inr rfl, fun h => ?_, e5 rfl hB.2.2.1, by simp; omega⟩ (by rw [own_set]; exact e2') ⟨?_, ?_, ?_, ?_, ?_, ?_, ?_⟩ hb_set
  ·refine ⟨.inl rfl, fun h => ?_, by simp [hs.len], (slr_app hs (slr_bytes (o := .shared) (by simp)) (o' := .shared) (by simp)).get⟩
   obtain ⟨h1, h2⟩ := e4 h
   have h4 : s = [] := by simpa using h1
   rw [hs.nil h2, h4]; rfl
  ·have h1 : L = [] := (List.append_eq_nil_iff.1 h).1
   have h2 : s = [] := (List.append_eq_nil_iff.1 h).2
   have h3 := hB.2.1 h1
   subst h3; subst h2; subst h1
   have hM : M = [] := by have := hs.len; simpa using this
   subst hM
   have hy : esOk 1 (.str []) = true := rfl
   have hx : esOk 1 (.slice .nil e []) = true := rfl
   simp [appP, elemsOf, hx, hy] at e1
   exact e1.1.symm
  ·simp only [HN]; omega
  ·intro i hi; rw [hb_oset hi, hF.box, hb_oset hi]
  ·show h'.loop = h.loop; rw [hF.loop]; rfl
  ·show h'.bty = h.bty; rw [hF.bty]; rfl
  ·intro o2 h1 h2
   rw [own_set]
   exact hF.keep o2 (by rw [own_set]; exact h1) h2
  ·intro i hi hne
   show h'.live i = h.live i
   rw [hF.live i (by simp only [HN]; omega) hne, hl_set]
  ·rcases hF.new with h1 | ⟨i, b, h1, h2⟩
   ·exact .inl h1
   ·exact .inr ⟨i, b, h1, by simp only [HN] at h2; omega⟩
 ·cases hx0
theorem fq_bs (hbx : h.box id = some [a, .slice o e M]) (hB : BdA id a o L) (hs : SlR 1 R8 o e L M) (hO : OwnOK h o) (hn : n (.str L) h) : Fq E (.func F_strings_Builder_String [] []) [.ptr id 0] h n t := by
 refine callC_horc (E := E) (by kernel_rfl) (v := .str L) (h' := h) ?_ hn
 show horcF F_strings_Builder_String [.ptr id 0] h = _
 unfold horcF
 rw [if_neg (by decide), if_pos rfl]
 cases o with
 | nil =>
  have h1 := hs.nil rfl
  subst h1
  simp [horcF, hbx]
 | own i ub =>
  have h0 : ub = true := by
   rcases hB.2.2.1 with h | ⟨j, h⟩
   ·cases h
   ·cases h; rfl
  subst h0
  have h1 : L ≠ [] := fun h => by have := hB.2.1 h; cases this
  have h2 : M ≠ [] := fun h => by have := hs.len; rw [h] at this; exact h1 (List.length_eq_zero_iff.1 this.symm)
  have h3 : e = 1 := by
   rcases hs.ok with h | ⟨h, _⟩
   ·exact h
   ·cases h
  have h4 : mapO cellByte M = some L := by rw [hs.bytes]; exact cells_bytes L
  have h5 : M.length ≤ 140737488355328 := by rw [hs.len]; exact hB.2.2.2
  simp [horcF, hbx, hO.1, h2, h3, h4, h5]
 | _ => exact hO.elim
end
end Go.Proofs.YtmngkcpobmhnoaaGreatDoor.Sim
