/- Plain laws: a word's text is one token, and no more, whatever stands behind a blank. -/
import Derived.Test.YtmngkcpobmhnoaaGreatDoorKPShow3
import Derived.Test.YtmngkcpobmhnoaaGreatDoorKPLex3
set_option linter.all false
namespace Go.Proofs.YtmngkcpobmhnoaaGreatDoor.Sim.Pl
open Go.Proofs

def Gap (z : Bytes) : Prop := z = [] ∨ ∃ y, z = 32 :: y
theorem Gap.head {z : Bytes} (h : Gap z) (p : UInt8 → Bool) (hp : p 32 = false) : z.takeWhile p = [] := by
 rcases h with rfl | ⟨y, rfl⟩
 ·rfl
 ·rw [List.takeWhile_cons, if_neg (by simp [hp])]
theorem tw_app (p : UInt8 → Bool) (r z : Bytes) (hr : r.all p = true) (hz : z.takeWhile p = []) : ((r ++ z).takeWhile p).length = r.length := by
 induction r with
 | nil => rw [List.nil_append, hz]
 | cons c r ih =>
  rw [List.all_cons, Bool.and_eq_true] at hr
  rw [List.cons_append, List.takeWhile_cons, if_pos hr.1, List.length_cons, ih hr.2, List.length_cons]
theorem tw_all (p : UInt8 → Bool) (r : Bytes) (h : (r.takeWhile p).length = r.length) : r.all p = true := by
 induction r with
 | nil => rfl
 | cons c r ih =>
  rw [List.takeWhile_cons] at h
  split at h
  ·rename_i hc; rw [List.all_cons, hc, ih (by simpa using h)]; rfl
  ·simp at h
structure Starts (x : Bytes) (k : Nat) : Prop where
 ne : x ≠ []
 next : ∀ c r z, x = c :: r → Gap z → nextS c (r ++ z) = (k, x.length)
 skip : ∀ (n : Int) (f : Int) (sp : Bool) z, Gap z → skipS n false f sp (x ++ z) = (x ++ z, false, f, sp)
theorem skip_keep (n : Int) (f : Int) (sp : Bool) (c : UInt8) (s : Bytes) (hb : blankB c = false) (h1 : ∀ d r, s = d :: r → ¬ (c = 47 ∧ d = 47) ∧ ¬ (c = 47 ∧ d = 42)) : skipS n false f sp (c :: s) = (c :: s, false, f, sp) := by
 cases s with
 | nil => rw [skipS, if_neg (by simp [hb])]
 | cons d r =>
  obtain ⟨h2, h3⟩ := h1 d r rfl
  rw [skipS, if_neg (by simp [hb]), if_neg h2, if_neg h3]
theorem let_blank (c : UInt8) : letB c = true → blankB c = false ∧ c ≠ 47 := by
 revert c; refine all8 ?_; decide +kernel
theorem dig_blank (c : UInt8) : digB c = true → blankB c = false ∧ c ≠ 47 ∧ letB c = false := by
 revert c; refine all8 ?_; decide +kernel
theorem starts_name {c : UInt8} {r : Bytes} (hc : letB c = true) (hr : r.all wordB = true) : Starts (c :: r) 1 := by
 refine ⟨by simp, fun c' r' z e hz => ?_, fun n f sp z hz => ?_⟩
 ·cases e
  unfold nextS
  rw [if_pos hc, tw_app wordB r z hr (hz.head _ (by decide)), List.length_cons, Nat.add_comm]
 ·obtain ⟨h1, h2⟩ := let_blank c hc
  exact skip_keep n f sp c (r ++ z) h1 (fun d r' _ => ⟨fun h => h2 h.1, fun h => h2 h.1⟩)
theorem keys_names : ∀ x ∈ keysL, ∃ c r, x = c :: r ∧ letB c = true ∧ r.all wordB = true := by
 intro x hx
 have : keysL.all (fun x => match x with | [] => false | c :: r => letB c && r.all wordB) = true := by decide +kernel
 have := List.all_eq_true.1 this x hx
 cases x with
 | nil => cases this
 | cons c r => exact ⟨c, r, rfl, by simpa using this⟩
theorem one_name {s : Bytes} (h : kindT s = 1) : ∃ c r, s = c :: r ∧ letB c = true ∧ r.all wordB = true := by
 unfold kindT at h
 cases ho : oneS s with
 | none => rw [ho] at h; cases h
 | some t =>
  rw [ho] at h
  obtain ⟨c, r, rfl, h2, h3, h4⟩ := one_next ho
  have h : t.Kind_ = 1 := h
  rw [h] at h3
  unfold nextS at h2 h3
  split at h3
  ·rename_i hc
   rw [if_pos hc] at h2
   exact ⟨c, r, rfl, hc, tw_all _ _ (by simp only at h2; omega)⟩
  ·split at h3
   ·simp at h3
   ·split at h3
    ·simp at h3
    ·split at h3
     ·simp at h3
     ·split at h3 <;> simp at h3
theorem numL_app (p : UInt8) (r z : Bytes) (hr : r.all wordB = true) (hz : Gap z) : numL p (r ++ z) = r.length := by
 induction r generalizing p with
 | nil =>
  rcases hz with rfl | ⟨y, rfl⟩
  ·rfl
  ·have : numOn p 32 = false := by simp [numOn, show wordB 32 = false by decide]
   simp [numL, this]
 | cons c r ih =>
  rw [List.all_cons, Bool.and_eq_true] at hr
  have : numOn p c = true := by simp [numOn, hr.1]
  rw [List.cons_append, numL, if_pos this, ih c hr.2, List.length_cons]
theorem starts_num {c : UInt8} {r : Bytes} (hc : digB c = true) (hr : r.all wordB = true) : Starts (c :: r) 2 := by
 obtain ⟨h1, h2, h3⟩ := dig_blank c hc
 refine ⟨by simp, fun c' r' z e hz => ?_, fun n f sp z hz => skip_keep n f sp c (r ++ z) h1 (fun d r' _ => ⟨fun h => h2 h.1, fun h => h2 h.1⟩)⟩
 cases e
 unfold nextS
 rw [if_neg (by simp [h3]), if_pos (by simp [numB, hc]), numL_app c r z hr hz, List.length_cons, Nat.add_comm]
theorem signs_no32 : ∀ x ∈ signsL, (32 : UInt8) ∉ x ∧ x.length ≤ 3 ∧ 0 < x.length := by decide +kernel
theorem signs_head : ∀ x ∈ signsL, match x with | [] => False | c :: r => blankB c = false ∧ letB c = false ∧ digB c = false ∧ c ≠ 34 ∧ c ≠ 39 ∧ (c = 47 → ∀ d t, r = d :: t → d ≠ 47 ∧ d ≠ 42) ∧ (c = 46 → ∀ d t, r = d :: t → digB d = false) := by
 have h : signsL.all (fun x => match x with | [] => false | c :: r => !blankB c && !letB c && !digB c && c != 34 && c != 39 && (c != 47 || (match r with | [] => true | d :: _ => d != 47 && d != 42)) && (c != 46 || (match r with | [] => true | d :: _ => !digB d))) = true := by decide +kernel
 intro x hx
 have := List.all_eq_true.1 h x hx
 cases x with
 | nil => cases this
 | cons c r =>
  simp only [Bool.and_eq_true, Bool.not_eq_true', bne_iff_ne, Bool.or_eq_true, ne_eq] at this
  obtain ⟨⟨⟨⟨⟨⟨a1, a2⟩, a3⟩, a4⟩, a5⟩, a6⟩, a7⟩ := this
  refine ⟨a1, a2, a3, a4, a5, fun h d t e => ?_, fun h d t e => ?_⟩
  ·subst e
   rcases a6 with a6 | a6
   ·exact absurd h a6
   ·simpa using a6
  ·subst e
   rcases a7 with a7 | a7
   ·exact absurd h a7
   ·simpa using a7
theorem sgL_top (s : Bytes) (k : Nat) (hk : 0 < k) (hm : s.take k ∈ signsL) : ∀ n, k ≤ n → (∀ m, k < m → m ≤ n → s.take m ∉ signsL) → sgL s n = k := by
 intro n
 induction n with
 | zero => intro h; omega
 | succ n ih =>
  intro h hno
  rw [sgL]
  by_cases e : n + 1 = k
  ·rw [if_pos (by rw [e]; exact hm), e]
  ·rw [if_neg (hno (n + 1) (by omega) (Nat.le_refl _))]
   exact ih (by omega) (fun m h1 h2 => hno m h1 (by omega))
theorem starts_sign {x : Bytes} (hx : x ∈ signsL) : Starts x 5 := by
 obtain ⟨g1, g2, g3⟩ := signs_no32 x hx
 have g4 := signs_head x hx
 cases x with
 | nil => simp at g3
 | cons c r =>
  obtain ⟨b1, b2, b3, b4, b5, b6, b7⟩ := g4
  refine ⟨by simp, fun c' r' z e hz => ?_, fun n f sp z hz => ?_⟩
  ·cases e
   have hnum : numB c (r ++ z) = false := by
    unfold numB
    rw [b3, Bool.false_or, Bool.and_eq_false_iff]
    by_cases h46 : c = 46
    ·right
     cases r with
     | nil =>
      rcases hz with rfl | ⟨y, rfl⟩
      ·rfl
      ·rfl
     | cons d t => exact b7 h46 d t rfl
    ·left; simpa using h46
   have hs : signS ((c :: r) ++ z) = (c :: r).length := by
    unfold signS
    refine sgL_top _ _ g3 (by rw [List.take_left']; exact hx; rfl) _ (by simp only [List.length_append]; omega) (fun m h1 h2 hmem => ?_)
    have h3 : (32 : UInt8) ∈ ((c :: r) ++ z).take m := by
     rcases hz with rfl | ⟨y, rfl⟩
     ·simp only [List.append_nil] at h2; omega
     ·rw [List.mem_iff_getElem?]
      refine ⟨(c :: r).length, ?_⟩
      rw [List.getElem?_take, if_pos h1, List.getElem?_append_right (Nat.le_refl _), Nat.sub_self]; rfl
    exact (signs_no32 _ hmem).1 h3
   have hs : signS (c :: (r ++ z)) = (c :: r).length := hs
   unfold nextS
   rw [if_neg (by simp [b2]), if_neg (by simp [hnum]), if_neg b4, if_neg b5, hs, if_neg (by simp)]
  ·refine skip_keep n f sp c (r ++ z) b1 (fun d t e => ?_)
   cases r with
   | nil =>
    rcases hz with rfl | ⟨y, rfl⟩
    ·cases e
    ·cases e; exact ⟨fun h => absurd h.2 (by decide), fun h => absurd h.2 (by decide)⟩
   | cons d' t' =>
    have e1 := (List.cons.inj e).1
    exact ⟨fun h => (b6 h.1 d' t' rfl).1 (e1.trans h.2), fun h => (b6 h.1 d' t' rfl).2 (e1.trans h.2)⟩
theorem oct_facts (c : UInt8) : octD c 64 ≠ 92 ∧ octD c 64 ≠ 39 ∧ octD c 64 ≠ 34 ∧ octD c 8 ≠ 92 ∧ octD c 8 ≠ 39 ∧ octD c 8 ≠ 34 ∧ octD c 1 ≠ 92 ∧ octD c 1 ≠ 39 ∧ octD c 1 ≠ 34 := by
 revert c; refine all8 ?_; decide +kernel
theorem quo_end (q : UInt8) (hq : q ≠ 92) (z : Bytes) : quoL q (q :: z) = some 1 := by
 cases z with
 | nil => simp [quoL, hq]
 | cons d z => simp [quoL, hq]
theorem quo_oct (q : UInt8) (hq : q = 39 ∨ q = 34) (c : UInt8) (s : Bytes) (hs : s ≠ []) : quoL q (octS c ++ s) = (quoL q s).map (· + 4) := by
 obtain ⟨_, _, _, a1, a2, a3, a4, a5, a6⟩ := oct_facts c
 have b1 : octD c 8 ≠ q := by rcases hq with rfl | rfl <;> assumption
 have b2 : octD c 1 ≠ q := by rcases hq with rfl | rfl <;> assumption
 cases s with
 | nil => exact absurd rfl hs
 | cons d s =>
  have e : octS c ++ d :: s = 92 :: octD c 64 :: octD c 8 :: octD c 1 :: d :: s := rfl
  rw [e, quoL, if_pos rfl, quoL, if_neg a1, if_neg b1, quoL, if_neg a4, if_neg b2]
  cases quoL q (d :: s) <;> rfl
theorem quo_flat (z : Bytes) : ∀ s : Bytes, quoL 34 (s.flatMap octS ++ 34 :: z) = some (4 * s.length + 1)
 | [] => quo_end 34 (by decide) z
 | c :: s => by
  rw [List.flatMap_cons, List.append_assoc, quo_oct 34 (.inr rfl) c _ (by simp), quo_flat z s]
  simp only [Option.map_some, List.length_cons]
  exact congrArg some (by omega)
theorem starts_text (s : Bytes) : Starts (34 :: (s.flatMap octS ++ [34])) 4 := by
 refine ⟨by simp, fun c' r' z e hz => ?_, fun n f sp z hz => skip_keep n f sp 34 _ (by decide) (fun d t _ => ⟨fun h => absurd h.1 (by decide), fun h => absurd h.1 (by decide)⟩)⟩
 cases e
 have h := quo_flat z s
 have e : s.flatMap octS ++ [34] ++ z = s.flatMap octS ++ 34 :: z := by simp
 unfold nextS
 rw [if_neg (by decide), if_neg (by simp [numB, show digB 34 = false by decide]), if_pos rfl, e]
 unfold quoS
 rw [h]
 simp only [List.length_cons, List.length_append, flat_len, List.length_nil]
theorem starts_char (c : UInt8) : Starts (39 :: (octS c ++ [39])) 3 := by
 refine ⟨by simp, fun c' r' z e hz => ?_, fun n f sp z hz => skip_keep n f sp 39 _ (by decide) (fun d t _ => ⟨fun h => absurd h.1 (by decide), fun h => absurd h.1 (by decide)⟩)⟩
 cases e
 have h : quoL 39 (octS c ++ [39] ++ z) = some 5 := by
  rw [List.append_assoc, quo_oct 39 (.inl rfl) c _ (by simp), List.singleton_append, quo_end 39 (by decide) z]; rfl
 unfold nextS
 rw [if_neg (by decide), if_neg (by simp [numB, show digB 39 = false by decide]), if_neg (by decide), if_pos rfl]
 unfold quoS
 rw [h]
 simp [octS]
end Go.Proofs.YtmngkcpobmhnoaaGreatDoor.Sim.Pl
