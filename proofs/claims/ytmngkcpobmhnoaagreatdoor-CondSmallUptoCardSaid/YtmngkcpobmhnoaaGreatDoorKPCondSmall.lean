/- The plain law of CondSmall. -/
import Derived.Test.YtmngkcpobmhnoaaGreatDoorKPEv
import Derived.Test.YtmngkcpobmhnoaaGreatDoorKPl3
set_option linter.all false
namespace Go.Proofs.YtmngkcpobmhnoaaGreatDoor.Sim.Pl
open Go.Proofs
def decL (n : Nat) : Bytes := if h : n < 10 then [UInt8.ofNat (48 + n)] else decL (n / 10) ++ [UInt8.ofNat (48 + n % 10)]
termination_by n
decreasing_by omega
theorem dig_ofNat (d : Nat) (h : d < 10) : digB (UInt8.ofNat (48 + d)) = true ∧ hexv (UInt8.ofNat (48 + d)) = d := by
  rcases d with _|_|_|_|_|_|_|_|_|_|d <;> first | decide | omega
theorem decL_dig (n : Nat) : ∀ c ∈ decL n, digB c = true := by
  induction n using decL.induct with
  | case1 n h =>
    rw [decL, dif_pos h]
    intro c hc
    rw [List.mem_singleton] at hc
    subst hc
    exact (dig_ofNat n h).1
  | case2 n h ih =>
    rw [decL, dif_neg h]
    intro c hc
    rcases List.mem_append.1 hc with hc | hc
    · exact ih c hc
    · rw [List.mem_singleton] at hc
      subst hc
      exact (dig_ofNat (n % 10) (by omega)).1
theorem decL_ne (n : Nat) : decL n ≠ [] := by
  rw [decL]
  split <;> simp
theorem decL_head (n : Nat) (h : 0 < n) : ∃ c r, decL n = c :: r ∧ c ≠ 48 := by
  induction n using decL.induct with
  | case1 n h2 =>
    rw [decL, dif_pos h2]
    refine ⟨_, [], rfl, ?_⟩
    intro e
    have := (dig_ofNat n h2).2
    rw [e] at this
    have h48 : hexv 48 = 0 := by decide
    omega
  | case2 n h2 ih =>
    obtain ⟨c, r, e, hc⟩ := ih (by omega)
    rw [decL, dif_neg h2, e]
    exact ⟨c, r ++ _, rfl, hc⟩
theorem val_app (b v : Nat) (l : Bytes) (c : UInt8) : val b v (l ++ [c]) = val b v l * b + hexv c := by
  induction l generalizing v with
  | nil => rfl
  | cons d r ih => exact ih _
theorem decL_val (n : Nat) : val 10 0 (decL n) = n := by
  induction n using decL.induct with
  | case1 n h =>
    rw [decL, dif_pos h]
    show 0 * 10 + hexv _ = n
    rw [(dig_ofNat n h).2]; omega
  | case2 n h ih =>
    rw [decL, dif_neg h, val_app, ih, (dig_ofNat (n % 10) (by omega)).2]
    omega
theorem dig_isDig (c : UInt8) : digB c = isDig 10 c := by
  revert c; refine all8 ?_; decide +kernel
theorem takeWhile_all {T : Type} (p : T → Bool) (l : List T) (h : ∀ c ∈ l, p c = true) : l.takeWhile p = l := by
  induction l with
  | nil => rfl
  | cons c r ih => rw [List.takeWhile_cons, if_pos (h c List.mem_cons_self), ih (fun d hd => h d (List.mem_cons_of_mem _ hd))]
theorem decL_num (n : Nat) (hn : n < 9223372036854775808) : numS (decL n) = some (n, false) := by
  by_cases h0 : n = 0
  · subst h0
    have : decL 0 = [48] := by rw [decL]; rfl
    rw [this]
    decide
  · obtain ⟨c, r, e, hc⟩ := decL_head n (by omega)
    have hd := decL_dig n
    have hv := decL_val n
    have hb : baseS (decL n) = (10, decL n) := by
      rw [e]
      unfold baseS
      split <;> simp_all
    have htw : (decL n).takeWhile (isDig 10) = decL n := takeWhile_all _ _ (fun c hc => by rw [← dig_isDig]; exact hd c hc)
    have hg : numGo 10 0 (decL n) = some (n, (decL n).length) := by
      rw [numGo_pu, htw, pu_val 10 _ 0 (by omega) (by omega), hv, if_pos (by omega)]
      rfl
    unfold numS
    rw [if_neg (decL_ne n), hb]
    simp only [hg]
    have hl : ¬ (decL n).length = 0 := fun h => decL_ne n (List.length_eq_zero_iff.1 h)
    rw [if_neg hl, List.drop_length]
    rfl
theorem decL_len (n : Nat) (k : Nat) (h : n < 10 ^ (k + 1)) : (decL n).length ≤ k + 1 := by
  induction n using decL.induct generalizing k with
  | case1 n h2 => rw [decL, dif_pos h2]; simp
  | case2 n h2 ih =>
    rw [decL, dif_neg h2]
    cases k with
    | zero => simp at h; omega
    | succ k =>
      have := ih k (by rw [Nat.pow_succ] at h; omega)
      simp; omega
theorem digits_step (n : Nat) (hn : n ≤ 1048576) (s : Bytes) (hs : s.length ≤ 9000000) (h : s = [] ∨ 0 < n) : G_burinlaw05_digits_L1 ((n : Int), s) = some (Sum.inl (((n / 10 : Nat) : Int), UInt8.ofNat (48 + n % 10) :: s)) := by
  have e1 : rem (n : Int) 10 = some ((n % 10 : Nat) : Int) := by
    simp only [rem]
    rw [if_neg (by omega)]
    rfl
  have e2 : quo .i64 (n : Int) 10 = some ((n / 10 : Nat) : Int) := by
    simp only [quo]
    rw [if_neg (by omega)]
    have : (n : Int).tdiv 10 = ((n / 10 : Nat) : Int) := rfl
    rw [this, wi (by omega) (by omega)]
  have e3 : b8 (IntKind.wrap .u8 (IntKind.wrap .i64 ((48 : Int) + ((n % 10 : Nat) : Int)))) = some (UInt8.ofNat (48 + n % 10)) := by
    have : (48 : Int) + ((n % 10 : Nat) : Int) = ((48 + n % 10 : Nat) : Int) := by omega
    rw [this, wi (by omega) (by omega), w8 (by omega) (by omega)]
    unfold b8
    rw [if_pos (by omega)]
    rfl
  have e4 : cat ([UInt8.ofNat (48 + n % 10)] : List UInt8) s = some (UInt8.ofNat (48 + n % 10) :: s) := by
    unfold cat
    rw [if_pos (by simp; omega)]; rfl
  by_cases hs0 : s = []
  · subst hs0
    have e0 : (([] : Bytes) == ([] : Bytes)) = true := rfl
    simp only [G_burinlaw05_digits_L1, e0, if_true, e1, bind_some', e2, e3, e4]
  · have e0 : (s == ([] : Bytes)) = false := by simpa using hs0
    have hn0 : decide ((0 : Int) < (n : Int)) = true := by
      rcases h with h | h
      · exact absurd h hs0
      · simp; omega
    simp only [G_burinlaw05_digits_L1, e0, hn0, if_true, Bool.false_eq_true, if_false, e1, bind_some', e2, e3, e4]
theorem digits_loop (n : Nat) : n ≤ 1048576 → ∀ s : Bytes, s.length + n ≤ 4000000 → (s = [] ∨ 0 < n) → loopO G_burinlaw05_digits_L1 ((n : Int), s) = some (decL n ++ s) := by
  have fin : ∀ s : Bytes, s ≠ [] → loopO G_burinlaw05_digits_L1 ((0 : Int), s) = some s := by
    intro s hs
    refine loopO_inr ?_
    have e0 : (s == ([] : Bytes)) = false := by simpa using hs
    simp only [G_burinlaw05_digits_L1, e0]
    rfl
  induction n using decL.induct with
  | case1 n h =>
    intro hn s hs h2
    rw [loopO_inl (digits_step n hn s (by omega) h2)]
    have : n / 10 = 0 := by omega
    rw [this, show ((0 : Nat) : Int) = 0 from rfl, fin _ (by simp), decL, dif_pos h]
    have : n % 10 = n := by omega
    rw [this]; rfl
  | case2 n h ih =>
    intro hn s hs h2
    rw [loopO_inl (digits_step n hn s (by omega) h2)]
    rw [ih (by omega) _ (by simp; omega) (.inr (by omega))]
    conv => rhs; rw [decL, dif_neg h]
    simp
theorem G_digits (n : Nat) (hn : n ≤ 1048576) : G_burinlaw05_digits (n : Int) = some (decL n) := by
  unfold G_burinlaw05_digits
  rw [digits_loop n hn [] (by simp; omega) (.inl rfl), bind_some', List.append_nil]

structure Piece where
  b : Bytes
  kind : Nat
  sp : Bool
def strP (ps : List Piece) : Bytes := ps.flatMap fun p => (if p.sp then [32] else []) ++ p.b
def toksP : List Piece → Bool → Bool → List T_api_Tok
  | [], _, _ => []
  | p :: ps, sp, fi => ⟨(p.kind : Int), p.b, [], 1, sp || p.sp, fi⟩ :: toksP ps false false
def GoodP : List Piece → Prop
  | [] => True
  | p :: ps => (∃ c r, p.b = c :: r ∧ blankB c = false ∧ c ≠ 47 ∧ nextS c (r ++ strP ps) = (p.kind, p.b.length)) ∧ GoodP ps
theorem skip_no (n : Int) (f : Int) (sp : Bool) (c : UInt8) (t : Bytes) (hb : blankB c = false) (h : c ≠ 47) : skipS n false f sp (c :: t) = (c :: t, false, f, sp) := by
  cases t with
  | nil => rw [skipS, hb]; rfl
  | cons d r =>
    rw [skipS, hb]
    simp only [Bool.false_eq_true, if_false]
    rw [if_neg (fun h2 => h h2.1), if_neg (fun h2 => h h2.1)]
theorem skip_32 (n : Int) (f : Int) (sp : Bool) (c : UInt8) (t : Bytes) (hb : blankB c = false) (h : c ≠ 47) : skipS n false f sp (32 :: c :: t) = (c :: t, false, f, true) := by
  rw [skipS, show blankB 32 = true by decide]
  simp only [if_true]
  exact skip_no n f true c t hb h
theorem lex_pieces : ∀ (ps : List Piece) (k : Nat) (out : List T_api_Tok) (f : Int) (sp fi : Bool), ps.length ≤ k → out.length + ps.length ≤ 20000 → GoodP ps →
    ∃ sp' fi', lexL 1 k false f sp fi out (strP ps) = .ok (out ++ toksP ps sp fi) false f sp' fi' := by
  intro ps
  induction ps with
  | nil =>
    intro k out f sp fi _ _ _
    cases k with
    | zero => exact ⟨sp, fi, by simp [lexL, toksP]⟩
    | succ k => exact ⟨sp, fi, by simp [lexL, toksP, strP, skipS_nil]⟩
  | cons p ps ih =>
    intro k out f sp fi hk ho hg
    obtain ⟨⟨c, r, hb, h1, h2, h3⟩, hg⟩ := hg
    cases k with
    | zero => simp at hk
    | succ k =>
      simp only [List.length_cons] at hk ho
      have hstr : strP (p :: ps) = (if p.sp then [32] else []) ++ (c :: (r ++ strP ps)) := by
        simp [strP, hb]
      have hsk : skipS 1 false f sp (strP (p :: ps)) = (c :: (r ++ strP ps), false, f, sp || p.sp) := by
        rw [hstr]
        cases p.sp with
        | true => rw [Bool.or_true]; exact skip_32 1 f sp c _ h1 h2
        | false => rw [Bool.or_false]; exact skip_no 1 f sp c _ h1 h2
      have hl : p.b.length = r.length + 1 := by rw [hb]; rfl
      have htk : (c :: (r ++ strP ps)).take p.b.length = p.b := by
        rw [hb, ← List.cons_append]; exact List.take_left' rfl
      have hdr : (c :: (r ++ strP ps)).drop p.b.length = strP ps := by
        rw [hb, ← List.cons_append]; exact List.drop_left' rfl
      obtain ⟨sp', fi', h4⟩ := ih k (out ++ [⟨(p.kind : Int), p.b, [], 1, sp || p.sp, fi⟩]) f false false (by omega) (by simp; omega) hg
      refine ⟨sp', fi', ?_⟩
      simp only [lexL, hsk, h3]
      rw [if_neg (by omega), if_neg (by omega), htk, hdr, h4]
      simp [toksP]
theorem lex_strP (ps : List Piece) (hl : ps.length ≤ 20000) (hg : GoodP ps) : lex1 (strP ps) = .inl (toksP ps false true) := by
  have hlen : ps.length ≤ (strP ps).length := by
    clear hl
    induction ps with
    | nil => simp
    | cons p ps ih =>
      obtain ⟨⟨c, r, hb, _⟩, hg⟩ := hg
      have := ih hg
      have e : (strP (p :: ps)).length = ((if p.sp then [32] else ([] : Bytes)) ++ p.b).length + (strP ps).length := by simp [strP, Nat.add_assoc]
      rw [e, List.length_append, hb]
      simp only [List.length_cons]
      omega
  obtain ⟨sp', fi', h⟩ := lex_pieces ps ((strP ps).length + 1) [] 0 false true (by omega) (by simpa using hl) hg
  unfold lex1
  simp only [lexLs]
  have h : lexL 1 ((strP ps).length + 1) false 0 (if false = true then false else false) (if false = true then false else true) [] (strP ps) = _ := h
  rw [h]
  rfl
def endB (d : UInt8) : Bool := !wordB d && d != 46
theorem numL_dig (p : UInt8) (r t : Bytes) (hp : digB p = true) (hr : ∀ c ∈ r, digB c = true) (ht : ∀ d t', t = d :: t' → endB d = true) : numL p (r ++ t) = r.length := by
  induction r generalizing p with
  | nil =>
    cases t with
    | nil => rfl
    | cons d t =>
      have h := ht d t rfl
      have he : expB p = false := by
        have k : ∀ p : UInt8, digB p = true → expB p = false := by
          refine all8 ?_
          decide +kernel
        exact k p hp
      simp only [endB, Bool.and_eq_true, Bool.not_eq_true', bne_iff_ne, ne_eq] at h
      have h46 : (d == 46) = false := by simpa using h.2
      simp [numL, numOn, h.1, h46, he]
  | cons c r ih =>
    have hc := hr c List.mem_cons_self
    have : numOn p c = true := by simp [numOn, wordB, hc]
    simp only [List.cons_append, numL, this, if_true, ih c hc (fun d hd => hr d (List.mem_cons_of_mem _ hd)), List.length_cons]
theorem good_num (x : Bytes) (hx : x ≠ []) (hd : ∀ c ∈ x, digB c = true) (t : Bytes) (ht : ∀ d t', t = d :: t' → endB d = true) : ∃ c r, x = c :: r ∧ blankB c = false ∧ c ≠ 47 ∧ nextS c (r ++ t) = (2, x.length) := by
  cases x with
  | nil => exact absurd rfl hx
  | cons c r =>
    have hc := hd c List.mem_cons_self
    have k : ∀ c : UInt8, digB c = true → blankB c = false ∧ c ≠ 47 ∧ letB c = false := by
      refine all8 ?_
      decide +kernel
    obtain ⟨k1, k2, k3⟩ := k c hc
    refine ⟨c, r, rfl, k1, k2, ?_⟩
    have hn : numB c (r ++ t) = true := by simp [numB, hc]
    unfold nextS
    rw [k3, hn, numL_dig c r t hc (fun d hd' => hd d (List.mem_cons_of_mem _ hd')) ht]
    simp only [Bool.false_eq_true, if_false, if_true, List.length_cons]
    rw [Nat.add_comm]
def oneL : List UInt8 := [43, 60, 42, 45, 37, 40, 41]
theorem sign_one (c : UInt8) (hc : c ∈ oneL) (t : Bytes) (ht : ∀ d t', t = d :: t' → digB d = true ∨ d = 32 ∨ d = 40) : signS (c :: t) = 1 := by
  have k : ∀ s ∈ signsL, ∀ d ∈ s.tail, digB d = false ∧ d ≠ 32 ∧ d ≠ 40 := by decide
  have k1 : [c] ∈ signsL := by
    have : ∀ c ∈ oneL, [c] ∈ signsL := by decide
    exact this c hc
  cases t with
  | nil =>
    show sgL [c] 1 = 1
    simp [sgL, k1]
  | cons d t =>
    have hd := ht d t rfl
    have no : ∀ m, (c :: d :: t).take (m + 2) ∉ signsL := by
      intro m hm
      obtain ⟨a1, a2, a3⟩ := k _ hm d (by simp)
      rcases hd with h | h | h
      · rw [a1] at h; cases h
      · exact a2 h
      · exact a3 h
    cases t with
    | nil =>
      show sgL [c, d] 2 = 1
      have := no 0
      simp [sgL, k1] at this ⊢
      intro h
      exact absurd h this
    | cons e t =>
      have e1 : min 3 (c :: d :: e :: t).length = 3 := by simp <;> omega
      unfold signS
      rw [e1]
      have n1 := no 1
      have n0 := no 0
      simp [sgL, k1] at n1 n0 ⊢
      simp [n1, n0]
theorem good_sign (c : UInt8) (hc : c ∈ oneL) (t : Bytes) (ht : ∀ d t', t = d :: t' → digB d = true ∨ d = 32 ∨ d = 40) : ∃ c' r, [c] = c' :: r ∧ blankB c' = false ∧ c' ≠ 47 ∧ nextS c' (r ++ t) = (5, [c].length) := by
  have k : ∀ c ∈ oneL, blankB c = false ∧ c ≠ 47 ∧ letB c = false ∧ digB c = false ∧ c ≠ 46 ∧ c ≠ 34 ∧ c ≠ 39 := by decide
  obtain ⟨k1, k2, k3, k4, k5, k6, k7⟩ := k c hc
  refine ⟨c, [], rfl, k1, k2, ?_⟩
  have h46 : (c == 46) = false := by simpa using k5
  have hn : numB c t = false := by simp [numB, k4, h46]
  unfold nextS
  rw [List.nil_append, k3, hn, sign_one c hc t ht]
  simp [k6, k7]

theorem band_20 (a : Int) : ∃ m : Nat, m < 1048576 ∧ band .i64 a 1048575 = (m : Int) := by
  unfold band
  refine ⟨(BitVec.ofInt (IntKind.bits .i64) a &&& BitVec.ofInt (IntKind.bits .i64) 1048575).toNat, ?_, ?_⟩
  · rw [BitVec.toNat_and]
    have : (BitVec.ofInt (IntKind.bits .i64) 1048575).toNat = 1048575 := by decide
    rw [this]
    exact Nat.lt_succ_of_le Nat.and_le_right
  · have h : (BitVec.ofInt (IntKind.bits .i64) a &&& BitVec.ofInt (IntKind.bits .i64) 1048575).toNat ≤ 1048575 := by
      rw [BitVec.toNat_and]
      have : (BitVec.ofInt (IntKind.bits .i64) 1048575).toNat = 1048575 := by decide
      rw [this]
      exact Nat.and_le_right
    rw [wi (by omega) (by omega)]
section
variable {L : List T_api_Tok} {j : Nat} {c : Bool} {m : Nat} {k : Nat}
def IsNum (t : T_api_Tok) (m : Nat) : Prop := t.Kind_ = 2 ∧ t.S_.length ≤ 16777216 ∧ numS t.S_ = some (m, false) ∧ m < 9223372036854775808
theorem ev_num {t : T_api_Tok} (h : L[j]? = some t) (ht : IsNum t m) (hk : 2 ≤ k) : (Rec_cond_eval_choice.lvl k).cond_eval_unary ⟨L.drop j, false⟩ c = some (⟨(m : Int), false⟩, ⟨L.drop (j + 1), false⟩) := by
  obtain ⟨k, rfl⟩ : ∃ k', k = k' + 2 := ⟨k - 2, by omega⟩
  have h0 := sgn_n h (by have := ht.1; omega)
  exact ev_unary (by rw [h0]; simp) (by rw [h0]; simp) (by rw [h0]; simp) (by rw [h0]; simp) (ev_atom_num (k := k) h ht.1 ht.2.1 ht.2.2.1 ht.2.2.2)
theorem ev_leaf {t : T_api_Tok} {n : Nat} (h : L[j]? = some t) (ht : IsNum t m) (hk : 3 ≤ k) (hs : lev (sgn L (j + 1) false) = 0 ∨ lev (sgn L (j + 1) false) < n) :
    (Rec_cond_eval_choice.lvl k).cond_eval_chain ⟨L.drop j, false⟩ ((n : Nat) : Int) c = some (⟨(m : Int), false⟩, ⟨L.drop (j + 1), false⟩) := by
  obtain ⟨k, rfl⟩ : ∃ k', k = k' + 1 := ⟨k - 1, by omega⟩
  exact ev_chain (ev_num h ht (by omega)) (ev_stop hs)
end
section
variable {l : List T_api_Tok} {c : Bool} {a b : Int}
theorem b_add : G_cond_eval_binary ⟨l, false⟩ [43] ⟨a, false⟩ ⟨b, false⟩ c = some (⟨IntKind.wrap .u64 (a + b), false⟩, ⟨l, false⟩) := rfl
theorem b_mul : G_cond_eval_binary ⟨l, false⟩ [42] ⟨a, false⟩ ⟨b, false⟩ c = some (⟨IntKind.wrap .u64 (a * b), false⟩, ⟨l, false⟩) := rfl
theorem b_sub : G_cond_eval_binary ⟨l, false⟩ [45] ⟨a, false⟩ ⟨b, false⟩ c = some (⟨IntKind.wrap .u64 (a - b), false⟩, ⟨l, false⟩) := rfl
theorem b_lt (ha : U64 a) (hb : U64 b) : G_cond_eval_binary ⟨l, false⟩ [60] ⟨a, false⟩ ⟨b, false⟩ c = some (⟨if decide (IntKind.wrap .i64 a < IntKind.wrap .i64 b) then 1 else 0, false⟩, ⟨l, false⟩) := by
  have h := cmp_prog (va := a) (vb := b) (ua := false) (ub := false) [60] (by decide) _ _ rfl
  rw [lt_signed ha hb] at h
  have e : ∀ x y, cmpS [60] x y = x := fun x y => rfl
  rw [e] at h
  simp only [G_cond_eval_binary, if_u, bind_some']
  rw [show G_cond_compared _ _ _ = _ from h]
  rfl
theorem b_mod (a b : Nat) (ha : a < 9223372036854775808) (hb : b < 9223372036854775808) (h0 : b ≠ 0) : G_cond_eval_binary ⟨l, false⟩ [37] ⟨(a : Int), false⟩ ⟨(b : Int), false⟩ c = some (⟨((a % b : Nat) : Int), false⟩, ⟨l, false⟩) := by
  have e0 : ((b : Int) == 0) = false := by simp; omega
  have e1 : (IntKind.wrap .i64 (b : Int) == -1) = false := by rw [wi (by omega) (by omega)]; simp <;> omega
  have w1 : IntKind.wrap .i64 (a : Int) = a := wi (by omega) (by omega)
  have w2 : IntKind.wrap .i64 (b : Int) = b := wi (by omega) (by omega)
  have r : rem (a : Int) (b : Int) = some ((a % b : Nat) : Int) := by
    simp only [rem]
    rw [if_neg (by omega)]
    rfl
  have q : ∃ x, quo .i64 (a : Int) (b : Int) = some x := ⟨_, by simp only [quo]; rw [if_neg (by omega)]⟩
  obtain ⟨x, q⟩ := q
  have hm : a % b < b := Nat.mod_lt _ (by omega)
  have w3 : IntKind.wrap .u64 ((a % b : Nat) : Int) = ((a % b : Nat) : Int) := wu (by omega) (by omega)
  rw [w2] at e1
  have e37 : (([37] : Bytes) == ([37] : Bytes)) = true := rfl
  simp only [G_cond_eval_binary, G_cond_eval_divided, w1, w2, e0, e1, r, q, bind_some', Bool.false_eq_true, if_false, w3]
  rfl
end
theorem num_tok (n : Nat) (hn : n < 1048577) (sp fi : Bool) : IsNum ⟨2, decL n, [], 1, sp, fi⟩ n := by
  refine ⟨rfl, ?_, decL_num n (by omega), by omega⟩
  have := decL_len n 6 (by omega)
  show (decL n).length ≤ _
  omega

theorem small_sum (A B : Nat) (hA : A < 1048576) (hB : B < 1048576) (op : UInt8) (hop : op = 43 ∨ op = 60) :
    lex1 (decL A ++ [op] ++ decL B) = .inl (toksP [⟨decL A, 2, false⟩, ⟨[op], 5, false⟩, ⟨decL B, 2, false⟩] false true) := by
  have hs : decL A ++ [op] ++ decL B = strP [⟨decL A, 2, false⟩, ⟨[op], 5, false⟩, ⟨decL B, 2, false⟩] := by simp [strP]
  rw [hs]
  refine lex_strP _ (by simp) ⟨good_num _ (decL_ne A) (decL_dig A) _ ?_, good_sign op (by rcases hop with rfl | rfl <;> decide) _ ?_, good_num _ (decL_ne B) (decL_dig B) _ ?_, trivial⟩
  · intro d t' h
    simp [strP] at h
    rw [← h.1]
    rcases hop with rfl | rfl <;> decide
  · intro d t' h
    have hne := decL_ne B
    cases hb : decL B with
    | nil => exact absurd hb hne
    | cons c r =>
      simp [strP, hb] at h
      left
      rw [← h.1]
      exact decL_dig B c (by rw [hb]; simp)
  · intro d t' h
    simp [strP] at h
theorem eval_two (A B : Nat) (hA : A < 1048576) (hB : B < 1048576) (op : UInt8) (hop : op = 43 ∨ op = 60) (x : Int)
    (hb : ∀ l c, G_cond_eval_binary ⟨l, false⟩ [op] ⟨(A : Int), false⟩ ⟨(B : Int), false⟩ c = some (⟨x, false⟩, ⟨l, false⟩)) :
    G_cond_Eval 60 (toksP [⟨decL A, 2, false⟩, ⟨[op], 5, false⟩, ⟨decL B, 2, false⟩] false true) = some (x, false, 0) := by
  refine ev_Eval (ev_choice (k := 59) (ev_chain (k := 58) (r := (_, false, x, false)) (ev_num (j := 0) rfl (num_tok A (by omega) _ _) (by omega)) ?_) (by rw [sgn_e (by simp [toksP])]; simp))
  have hs1 : sgn (toksP [⟨decL A, 2, false⟩, ⟨[op], 5, false⟩, ⟨decL B, 2, false⟩] false true) 1 false = [op] := rfl
  have hl : lev [op] ≠ 0 := by rcases hop with rfl | rfl <;> decide
  rw [ev_op (j := 1) (j2 := 3) hs1 (by simp) hl (by omega) (by simp) (by simp) (ev_leaf (j := 2) rfl (num_tok B (by omega) _ _) (by omega) (.inl (by rw [sgn_e (by simp [toksP])]; rfl))) (hb _ _)]
  exact ev_stop (.inl (by rw [sgn_e (by simp [toksP])]; rfl))

def pcs3 (A B : Nat) : List Piece := [⟨decL A, 2, false⟩, ⟨[42], 5, false⟩, ⟨decL B, 2, false⟩, ⟨[45], 5, false⟩, ⟨decL B, 2, false⟩, ⟨[42], 5, false⟩, ⟨decL A, 2, false⟩, ⟨[43], 5, false⟩, ⟨decL B, 2, true⟩, ⟨[37], 5, false⟩, ⟨[40], 5, false⟩, ⟨decL A, 2, false⟩, ⟨[43], 5, false⟩, ⟨[49], 2, false⟩, ⟨[41], 5, false⟩]
theorem end_dec (A : Nat) (x : Bytes) (d : UInt8) (t' : Bytes) (h : decL A ++ x = d :: t') : digB d = true := by
  have hne := decL_ne A
  cases hb : decL A with
  | nil => exact absurd hb hne
  | cons c r =>
    rw [hb, List.cons_append] at h
    have h1 : c = d := (List.cons.inj h).1
    rw [← h1]
    exact decL_dig A c (by rw [hb]; simp)
theorem pcs3_good (A B : Nat) : GoodP (pcs3 A B) := by
  have ne : ∀ c : UInt8, ∀ x : Bytes, endB c = true → ∀ d t', c :: x = d :: t' → endB d = true := by
    intro c x hc d t' h
    rw [← (List.cons.inj h).1]; exact hc
  have nd : ∀ A x d t', strP (⟨decL A, 2, false⟩ :: x) = d :: t' → digB d = true ∨ d = 32 ∨ d = 40 := by
    intro A x d t' h
    have e : strP (⟨decL A, 2, false⟩ :: x) = decL A ++ strP x := by simp [strP]
    rw [e] at h
    exact .inl (end_dec A _ d t' h)
  have n32 : ∀ (c : UInt8) (x : Bytes) d t', (c = 32 ∨ c = 40 ∨ c = 49) → c :: x = d :: t' → digB d = true ∨ d = 32 ∨ d = 40 := by
    intro c x d t' hc h
    rw [← (List.cons.inj h).1]
    rcases hc with rfl | rfl | rfl
    · exact .inr (.inl rfl)
    · exact .inr (.inr rfl)
    · exact .inl rfl
  refine ⟨good_num _ (decL_ne A) (decL_dig A) _ (ne 42 _ rfl), good_sign 42 (by decide) _ (nd B _), good_num _ (decL_ne B) (decL_dig B) _ (ne 45 _ rfl), good_sign 45 (by decide) _ (nd B _),
    good_num _ (decL_ne B) (decL_dig B) _ (ne 42 _ rfl), good_sign 42 (by decide) _ (nd A _), good_num _ (decL_ne A) (decL_dig A) _ (ne 43 _ rfl), good_sign 43 (by decide) _ (fun d t' h => n32 32 _ d t' (by simp) h),
    good_num _ (decL_ne B) (decL_dig B) _ (ne 37 _ rfl), good_sign 37 (by decide) _ (fun d t' h => n32 40 _ d t' (by simp) h), good_sign 40 (by decide) _ (nd A _), good_num _ (decL_ne A) (decL_dig A) _ (ne 43 _ rfl),
    good_sign 43 (by decide) _ (fun d t' h => n32 49 _ d t' (by simp) h), good_num [49] (by simp) (by decide) _ (ne 41 _ rfl), good_sign 41 (by decide) _ (fun d t' h => by cases h), trivial⟩
theorem one_num : numS [49] = some (1, false) := by decide
theorem one_tok (sp fi : Bool) : IsNum ⟨2, [49], [], 1, sp, fi⟩ 1 := ⟨rfl, by simp, one_num, by omega⟩
theorem wrap_sub (a : Int) : IntKind.wrap .u64 (a - a) = 0 := by rw [Int.sub_self]; rfl
structure T3 (A B : Nat) (L : List T_api_Tok) : Prop where
  t0 : ∃ sp fi, L[0]? = some ⟨2, decL A, [], 1, sp, fi⟩
  t2 : ∃ sp fi, L[2]? = some ⟨2, decL B, [], 1, sp, fi⟩
  t4 : ∃ sp fi, L[4]? = some ⟨2, decL B, [], 1, sp, fi⟩
  t6 : ∃ sp fi, L[6]? = some ⟨2, decL A, [], 1, sp, fi⟩
  t8 : ∃ sp fi, L[8]? = some ⟨2, decL B, [], 1, sp, fi⟩
  t11 : ∃ sp fi, L[11]? = some ⟨2, decL A, [], 1, sp, fi⟩
  t13 : ∃ sp fi, L[13]? = some ⟨2, [49], [], 1, sp, fi⟩
  s1 : sgn L 1 false = [42]
  s3 : sgn L 3 false = [45]
  s5 : sgn L 5 false = [42]
  s7 : sgn L 7 false = [43]
  s9 : sgn L 9 false = [37]
  s10 : sgn L 10 false = [40]
  s12 : sgn L 12 false = [43]
  s14 : sgn L 14 false = [41]
  s15 : sgn L 15 false = []
  hlen : L.length = 15
theorem t3_ok (A B : Nat) : T3 A B (toksP (pcs3 A B) false true) :=
  ⟨⟨_, _, rfl⟩, ⟨_, _, rfl⟩, ⟨_, _, rfl⟩, ⟨_, _, rfl⟩, ⟨_, _, rfl⟩, ⟨_, _, rfl⟩, ⟨_, _, rfl⟩, rfl, rfl, rfl, rfl, rfl, rfl, rfl, rfl, rfl, rfl⟩
structure M3 (A B : Nat) : Prop where
  m1 : ∀ l c, G_cond_eval_binary ⟨l, false⟩ [42] ⟨(A : Int), false⟩ ⟨(B : Int), false⟩ c = some (⟨((A * B : Nat) : Int), false⟩, ⟨l, false⟩)
  m2 : ∀ l c, G_cond_eval_binary ⟨l, false⟩ [42] ⟨(B : Int), false⟩ ⟨(A : Int), false⟩ c = some (⟨((A * B : Nat) : Int), false⟩, ⟨l, false⟩)
  m3 : ∀ l c, G_cond_eval_binary ⟨l, false⟩ [45] ⟨((A * B : Nat) : Int), false⟩ ⟨((A * B : Nat) : Int), false⟩ c = some (⟨((0 : Nat) : Int), false⟩, ⟨l, false⟩)
  m4 : ∀ l c, G_cond_eval_binary ⟨l, false⟩ [43] ⟨(A : Int), false⟩ ⟨((1 : Nat) : Int), false⟩ c = some (⟨((A + 1 : Nat) : Int), false⟩, ⟨l, false⟩)
  m5 : ∀ l c, G_cond_eval_binary ⟨l, false⟩ [37] ⟨(B : Int), false⟩ ⟨((A + 1 : Nat) : Int), false⟩ c = some (⟨((B % (A + 1) : Nat) : Int), false⟩, ⟨l, false⟩)
  m6 : ∀ l c, G_cond_eval_binary ⟨l, false⟩ [43] ⟨((0 : Nat) : Int), false⟩ ⟨((B % (A + 1) : Nat) : Int), false⟩ c = some (⟨((B % (A + 1) : Nat) : Int), false⟩, ⟨l, false⟩)
theorem m3_ok (A B : Nat) (hA : A < 1048576) (hB : B < 1048576) : M3 A B := by
  have hAB : A * B < 1048576 * 1048576 := Nat.mul_lt_mul'' hA hB
  have hBA : B * A = A * B := Nat.mul_comm B A
  have hmod : B % (A + 1) ≤ B := Nat.mod_le _ _
  have m1 : ∀ l c, G_cond_eval_binary ⟨l, false⟩ [42] ⟨(A : Int), false⟩ ⟨(B : Int), false⟩ c = some (⟨((A * B : Nat) : Int), false⟩, ⟨l, false⟩) := by
    intro l c
    rw [b_mul, ← Int.natCast_mul, wu (by omega) (by omega)]
  have m2 : ∀ l c, G_cond_eval_binary ⟨l, false⟩ [42] ⟨(B : Int), false⟩ ⟨(A : Int), false⟩ c = some (⟨((A * B : Nat) : Int), false⟩, ⟨l, false⟩) := by
    intro l c
    rw [b_mul, ← Int.natCast_mul, hBA, wu (by omega) (by omega)]
  have m3 : ∀ l c, G_cond_eval_binary ⟨l, false⟩ [45] ⟨((A * B : Nat) : Int), false⟩ ⟨((A * B : Nat) : Int), false⟩ c = some (⟨((0 : Nat) : Int), false⟩, ⟨l, false⟩) := by
    intro l c
    rw [b_sub, wrap_sub]; rfl
  have m4 : ∀ l c, G_cond_eval_binary ⟨l, false⟩ [43] ⟨(A : Int), false⟩ ⟨((1 : Nat) : Int), false⟩ c = some (⟨((A + 1 : Nat) : Int), false⟩, ⟨l, false⟩) := by
    intro l c
    rw [b_add, ← Int.natCast_add, wu (by omega) (by omega)]
  have m5 : ∀ l c, G_cond_eval_binary ⟨l, false⟩ [37] ⟨(B : Int), false⟩ ⟨((A + 1 : Nat) : Int), false⟩ c = some (⟨((B % (A + 1) : Nat) : Int), false⟩, ⟨l, false⟩) := by
    intro l c
    exact b_mod B (A + 1) (by omega) (by omega) (by omega)
  have m6 : ∀ l c, G_cond_eval_binary ⟨l, false⟩ [43] ⟨((0 : Nat) : Int), false⟩ ⟨((B % (A + 1) : Nat) : Int), false⟩ c = some (⟨((B % (A + 1) : Nat) : Int), false⟩, ⟨l, false⟩) := by
    intro l c
    rw [b_add, ← Int.natCast_add, wu (by omega) (by omega), Nat.zero_add]
  exact ⟨m1, m2, m3, m4, m5, m6⟩
theorem eval_three (A B : Nat) (hA : A < 1048576) (hB : B < 1048576) :
    G_cond_Eval 60 (toksP (pcs3 A B) false true) = some (((B % (A + 1) : Nat) : Int), false, 0) := by
  obtain ⟨m1, m2, m3, m4, m5, m6⟩ := m3_ok A B hA hB
  obtain ⟨t0, t2, t4, t6, t8, t11, t13, s1, s3, s5, s7, s9, s10, s12, s14, s15, hlen⟩ := t3_ok A B
  generalize toksP (pcs3 A B) false true = L at *
  obtain ⟨_, _, t0⟩ := t0
  obtain ⟨_, _, t2⟩ := t2
  obtain ⟨_, _, t4⟩ := t4
  obtain ⟨_, _, t6⟩ := t6
  obtain ⟨_, _, t8⟩ := t8
  obtain ⟨_, _, t11⟩ := t11
  obtain ⟨_, _, t13⟩ := t13
  have nA : ∀ sp fi, IsNum ⟨2, decL A, [], 1, sp, fi⟩ A := num_tok A (by omega)
  have nB : ∀ sp fi, IsNum ⟨2, decL B, [], 1, sp, fi⟩ B := num_tok B (by omega)
  have l42 : lev [42] = 10 := by decide
  have l37 : lev [37] = 10 := by decide
  have l43 : lev [43] = 9 := by decide
  have l45 : lev [45] = 9 := by decide
  have l41 : lev [41] = 0 := by decide
  have l0 : lev [] = 0 := by decide
  -- x + 1
  have i1 : ∀ c, (Rec_cond_eval_choice.lvl 54).cond_eval_choice ⟨L.drop 11, false⟩ c = some (⟨((A + 1 : Nat) : Int), false⟩, ⟨L.drop 14, false⟩) := by
    intro c
    refine ev_choice (k := 53) (ev_chain (k := 52) (r := (L.drop 14, false, ((A + 1 : Nat) : Int), false)) (ev_num t11 (nA _ _) (by omega)) ?_) (by rw [s14]; simp)
    rw [ev_op (j := 12) (j2 := 14) s12 (by simp) (by rw [l43]; simp) (by rw [l43]; omega) (by simp) (by simp) (ev_leaf (j := 13) (n := lev [43] + 1) t13 (one_tok _ _) (by omega) (.inl (by rw [s14]; exact l41))) (m4 _ _)]
    exact ev_stop (.inl (by rw [s14]; exact l41))
  -- ( x + 1 ), at level 11
  have i2 : ∀ c, (Rec_cond_eval_choice.lvl 57).cond_eval_chain ⟨L.drop 10, false⟩ ((lev [37] + 1 : Nat) : Int) c = some (⟨((A + 1 : Nat) : Int), false⟩, ⟨L.drop 15, false⟩) := by
    intro c
    refine ev_chain (k := 56) (r := (L.drop 15, false, ((A + 1 : Nat) : Int), false)) (ev_unary (k := 55) (by rw [s10]; simp) (by rw [s10]; simp) (by rw [s10]; simp) (by rw [s10]; simp) (ev_atom_br (k := 54) s10 (i1 c) s14)) (ev_stop (.inl (by rw [s15]; exact l0)))
  -- y % ( x + 1 ), at level 10
  have i3 : ∀ c, (Rec_cond_eval_choice.lvl 58).cond_eval_chain ⟨L.drop 8, false⟩ ((lev [43] + 1 : Nat) : Int) c = some (⟨((B % (A + 1) : Nat) : Int), false⟩, ⟨L.drop 15, false⟩) := by
    intro c
    refine ev_chain (k := 57) (r := (L.drop 15, false, ((B % (A + 1) : Nat) : Int), false)) (ev_num t8 (nB _ _) (by omega)) ?_
    rw [ev_op (j := 9) (j2 := 15) s9 (by simp) (by rw [l37]; simp) (by rw [l37, l43]; omega) (by simp) (by simp) (i2 _) (m5 _ _)]
    exact ev_stop (.inl (by rw [s15]; exact l0))
  -- y * x, at level 10
  have i4 : ∀ c, (Rec_cond_eval_choice.lvl 58).cond_eval_chain ⟨L.drop 4, false⟩ ((lev [45] + 1 : Nat) : Int) c = some (⟨((A * B : Nat) : Int), false⟩, ⟨L.drop 7, false⟩) := by
    intro c
    refine ev_chain (k := 57) (r := (L.drop 7, false, ((A * B : Nat) : Int), false)) (ev_num t4 (nB _ _) (by omega)) ?_
    rw [ev_op (j := 5) (j2 := 7) s5 (by simp) (by rw [l42]; simp) (by rw [l42, l45]; omega) (by simp) (by simp) (ev_leaf (j := 6) (n := lev [42] + 1) t6 (nA _ _) (by omega) (.inr (by rw [s7, l43, l42]; omega))) (m2 _ _)]
    exact ev_stop (.inr (by rw [s7, l43, l45]; omega))
  have i5 : ∀ c, (Rec_cond_eval_choice.lvl 60).cond_eval_choice ⟨L.drop 0, false⟩ c = some (⟨((B % (A + 1) : Nat) : Int), false⟩, ⟨L.drop 15, false⟩) := by
    intro c
    refine ev_choice (k := 59) (ev_chain (k := 58) (r := (L.drop 15, false, ((B % (A + 1) : Nat) : Int), false)) (ev_num t0 (nA _ _) (by omega)) ?_) (by rw [s15]; simp)
    rw [ev_op (j := 1) (j2 := 3) s1 (by simp) (by rw [l42]; simp) (by rw [l42]; omega) (by simp) (by simp) (ev_leaf (j := 2) (n := lev [42] + 1) t2 (nB _ _) (by omega) (.inr (by rw [s3, l45, l42]; omega))) (m1 _ _)]
    rw [ev_op (j := 3) (j2 := 7) s3 (by simp) (by rw [l45]; simp) (by rw [l45]; omega) (by simp) (by simp) (i4 _) (m3 _ _)]
    rw [ev_op (j := 7) (j2 := 15) s7 (by simp) (by rw [l43]; simp) (by rw [l43]; omega) (by simp) (by simp) (i3 _) (m6 _ _)]
    exact ev_stop (.inl (by rw [s15]; exact l0))
  have := ev_Eval (L := L) (k := 60) (v := ((B % (A + 1) : Nat) : Int)) (u := false) (by rw [hlen]; exact i5 true)
  exact this
theorem small_three (A B : Nat) : lex1 (decL A ++ [42] ++ decL B ++ [45] ++ decL B ++ [42] ++ decL A ++ [43, 32] ++ decL B ++ [37, 40] ++ decL A ++ [43, 49, 41]) = .inl (toksP (pcs3 A B) false true) := by
  have hs : decL A ++ [42] ++ decL B ++ [45] ++ decL B ++ [42] ++ decL A ++ [43, 32] ++ decL B ++ [37, 40] ++ decL A ++ [43, 49, 41] = strP (pcs3 A B) := by simp [strP, pcs3]
  rw [hs]
  exact lex_strP _ (by simp [pcs3]) (pcs3_good A B)
theorem cat_some {s u : Bytes} (h : s.length + u.length ≤ 1000) : cat s u = some (s ++ u) := by
  unfold cat
  rw [if_pos (by omega)]
theorem lexed_of {s : Bytes} {l : List T_api_Tok} (hs : s.length ≤ 1000) (h : lex1 s = .inl l) : G_burinlaw05_lexed s = some l := by
  unfold G_burinlaw05_lexed
  have e : G_token_Lex ([(T_api_Line.mk (1 : Int) s)] : List T_api_Line) = _ := G_Lex1 s (by omega)
  rw [e, h, bind_some']
  rfl
theorem condSmall_true (a : Int) (_h1 : IntKind.min .i64 ≤ a) (_h2 : a ≤ IntKind.max .i64) (b : Int) (_h3 : IntKind.min .i64 ≤ b) (_h4 : b ≤ IntKind.max .i64) : ∃ k : Nat, G_burinlaw05_CondSmall k a b = some true := by
  obtain ⟨A, hA, eA⟩ := band_20 a
  obtain ⟨B, hB, eB⟩ := band_20 b
  have lA := decL_len A 6 (by omega)
  have lB := decL_len B 6 (by omega)
  have dA := G_digits A (by omega)
  have dB := G_digits B (by omega)
  have x1 := lexed_of (by simp; omega) (small_sum A B hA hB 43 (.inl rfl))
  have x2 := lexed_of (by simp; omega) (small_sum A B hA hB 60 (.inr rfl))
  have x3 := lexed_of (by simp; omega) (small_three A B)
  have wA : IntKind.wrap .i64 (A : Int) = A := wi (by omega) (by omega)
  have wB : IntKind.wrap .i64 (B : Int) = B := wi (by omega) (by omega)
  have v1 := eval_two A B hA hB 43 (.inl rfl) ((A + B : Nat) : Int) (fun l c => by rw [b_add, ← Int.natCast_add, wu (by omega) (by omega)])
  have v2 := eval_two A B hA hB 60 (.inr rfl) (if decide ((A : Int) < B) then 1 else 0) (fun l c => by rw [b_lt (by constructor <;> omega) (by constructor <;> omega), wA, wB])
  have v3 := eval_three A B hA hB
  have w1 : IntKind.wrap .u64 (IntKind.wrap .i64 ((A : Int) + B)) = ((A + B : Nat) : Int) := by
    rw [← Int.natCast_add, wi (by omega) (by omega), wu (by omega) (by omega)]
  have w2 : rem (B : Int) (IntKind.wrap .i64 ((A : Int) + 1)) = some ((B % (A + 1) : Nat) : Int) := by
    have e : (A : Int) + 1 = ((A + 1 : Nat) : Int) := by omega
    rw [e, wi (by omega) (by omega)]
    simp only [rem]
    rw [if_neg (by omega)]
    rfl
  have hm : B % (A + 1) ≤ B := Nat.mod_le _ _
  have w3 : IntKind.wrap .u64 ((B % (A + 1) : Nat) : Int) = ((B % (A + 1) : Nat) : Int) := wu (by omega) (by omega)
  refine ⟨60, ?_⟩
  unfold G_burinlaw05_CondSmall
  rw [show G_burinlaw05_shown = some true from rfl, bind_some', eA, eB, dA, bind_some', dB, bind_some']
  rw [cat_some (by simp; omega), bind_some', cat_some (by simp; omega), bind_some', x1, bind_some', v1, bind_some']
  dsimp only
  rw [cat_some (by simp; omega), bind_some', cat_some (by simp; omega), bind_some', x2, bind_some', v2, bind_some']
  dsimp only
  rw [cat_some (by simp; omega), bind_some', cat_some (by simp; omega), bind_some', cat_some (by simp; omega), bind_some', cat_some (by simp; omega), bind_some', cat_some (by simp; omega), bind_some', cat_some (by simp; omega), bind_some', cat_some (by simp; omega), bind_some', cat_some (by simp; omega), bind_some', cat_some (by simp; omega), bind_some', cat_some (by simp; omega), bind_some', cat_some (by simp; omega), bind_some', x3, bind_some', v3, bind_some']
  dsimp only
  simp only [w1, w2, w3, bind_some', beq_self_eq_true, if_true]
  by_cases h : (A : Int) < B
  · simp only [h, decide_true, if_true, bind_some', beq_self_eq_true]
  · simp only [h, decide_false, Bool.false_eq_true, if_false, bind_some', beq_self_eq_true, if_true]
end Go.Proofs.YtmngkcpobmhnoaaGreatDoor.Sim.Pl
