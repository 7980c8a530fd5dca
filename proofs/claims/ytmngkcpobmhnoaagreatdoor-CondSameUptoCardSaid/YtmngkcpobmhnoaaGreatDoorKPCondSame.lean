/- The plain law of CondSame. -/
import Derived.Test.YtmngkcpobmhnoaaGreatDoorKPl1
set_option linter.all false
namespace Go.Proofs.YtmngkcpobmhnoaaGreatDoor.Sim.Pl
open Go.Proofs
def digN (a : Nat) (dg : Bytes) (b : Nat) (n : Nat) : Nat → Bytes
  | 0 => []
  | m + 1 => dg[(n / 2 ^ (a * m)) % b]?.toList ++ digN a dg b n m
theorem shr_nat (n i : Nat) (hi : i < 64) : shr .u64 (n : Int) (i : Int) = some ((n / 2 ^ i : Nat) : Int) := by
  unfold shr
  rw [if_neg (by omega)]
  have e1 : min (Int.toNat (i : Int)) (IntKind.bits .u64) = i := by
    have : IntKind.bits .u64 = 64 := rfl
    rw [this]; simp; omega
  rw [e1]
  congr 1
  have : ((2 : Int) ^ i) = ((2 ^ i : Nat) : Int) := by simp
  rw [this]
  exact (Int.ofNat_fdiv n (2 ^ i)).symm
theorem band_nat (x m : Nat) (hx : x ≤ 18446744073709551615) (hm : m ≤ 18446744073709551615) : band .u64 (x : Int) (m : Int) = ((x &&& m : Nat) : Int) := by
  unfold band
  have e : (BitVec.ofInt (IntKind.bits .u64) (x : Int) &&& BitVec.ofInt (IntKind.bits .u64) (m : Int)).toNat = x &&& m := by
    rw [BitVec.toNat_and]
    have e1 : ∀ y : Nat, y ≤ 18446744073709551615 → (BitVec.ofInt (IntKind.bits .u64) (y : Int)).toNat = y := by
      intro y hy
      show (BitVec.ofInt 64 (y : Int)).toNat = y
      rw [BitVec.toNat_ofInt]; omega
    rw [e1 x hx, e1 m hm]
  rw [e]
  have : x &&& m ≤ x := Nat.and_le_left
  exact wu (by omega) (by omega)
theorem band_15 (x : Nat) (hx : x ≤ 18446744073709551615) : band .u64 (x : Int) 15 = ((x % 16 : Nat) : Int) := by
  have := band_nat x 15 hx (by omega)
  rw [show ((15 : Nat) : Int) = 15 from rfl] at this
  rw [this]
  congr 1
  exact Nat.and_two_pow_sub_one_eq_mod x 4
theorem band_7 (x : Nat) (hx : x ≤ 18446744073709551615) : band .u64 (x : Int) 7 = ((x % 8 : Nat) : Int) := by
  have := band_nat x 7 hx (by omega)
  rw [show ((7 : Nat) : Int) = 7 from rfl] at this
  rw [this]
  congr 1
  exact Nat.and_two_pow_sub_one_eq_mod x 3
theorem sub_one (dg : Bytes) (d : Nat) (hd : d < dg.length) (h16 : dg.length ≤ 16) : subB dg (d : Int) (IntKind.wrap .u64 ((d : Int) + 1)) = some (dg[d]?.toList) := by
  rw [wu (by omega) (by omega)]
  have := subB_nat (L := dg) (m := d) (n := d + 1) (by omega) hd
  rw [show (d : Int) + 1 = ((d + 1 : Nat) : Int) from rfl, this, List.drop_take, List.drop_eq_getElem_cons hd, List.getElem?_eq_getElem hd, show d + 1 - d = 1 by omega]
  rfl
def smallD : Bytes := [48, 49, 50, 51, 52, 53, 54, 55, 56, 57, 97, 98, 99, 100, 101, 102]
def greatD : Bytes := [48, 49, 50, 51, 52, 53, 54, 55, 56, 57, 65, 66, 67, 68, 69, 70]
theorem cat_some {s u : Bytes} (h : s.length + u.length ≤ 1000) : cat s u = some (s ++ u) := by
  unfold cat; rw [if_pos (by omega)]
theorem digN_len (a : Nat) (dg : Bytes) (b n : Nat) (hb : b ≤ dg.length) (h0 : 0 < b) : ∀ m, (digN a dg b n m).length = m := by
  intro m
  induction m with
  | zero => rfl
  | succ m ih =>
    have : (n / 2 ^ (a * m)) % b < dg.length := Nat.lt_of_lt_of_le (Nat.mod_lt _ h0) hb
    simp only [digN, List.length_append, ih, List.getElem?_eq_getElem this]
    simp; omega
theorem same_L1 (n : Nat) (hn : n ≤ 18446744073709551615) : ∀ m, m ≤ 16 → ∀ h g : Bytes, h.length + m ≤ 100 → g.length + m ≤ 100 → loopO (G_burinlaw05_CondSame_L1 (n : Int) smallD greatD) (h, g, 4 * (m : Int) - 4) = some (h ++ digN 4 smallD 16 n m, g ++ digN 4 greatD 16 n m) := by
  intro m
  induction m with
  | zero =>
    intro _ h g _ _
    rw [loopO_inr (x := (h, g))]
    · simp [digN]
    · rfl
  | succ m ih =>
    intro hm h g hh hg
    have e1 : 4 * ((m + 1 : Nat) : Int) - 4 = ((4 * m : Nat) : Int) := by omega
    have hlt : decide ((0 : Int) ≤ ((4 * m : Nat) : Int)) = true := by simp only [decide_eq_true_eq]; omega
    have hx : n / 2 ^ (4 * m) ≤ 18446744073709551615 := Nat.le_trans (Nat.div_le_self _ _) hn
    have hd : (n / 2 ^ (4 * m)) % 16 < 16 := Nat.mod_lt _ (by omega)
    have s1 := sub_one smallD ((n / 2 ^ (4 * m)) % 16) hd (by decide)
    have s2 := sub_one greatD ((n / 2 ^ (4 * m)) % 16) hd (by decide)
    have l1 : ∀ dg : Bytes, dg[(n / 2 ^ (4 * m)) % 16]?.toList.length ≤ 1 := fun dg => by cases dg[(n / 2 ^ (4 * m)) % 16]? <;> simp
    have hw : IntKind.wrap .i64 (((4 * m : Nat) : Int) - 4) = 4 * (m : Int) - 4 := by rw [wi (by omega) (by omega)]; omega
    rw [e1, loopO_inl (s' := (h ++ smallD[(n / 2 ^ (4 * m)) % 16]?.toList, g ++ greatD[(n / 2 ^ (4 * m)) % 16]?.toList, 4 * (m : Int) - 4))]
    · rw [ih (by omega) _ _ (by rw [List.length_append]; have := l1 smallD; omega) (by rw [List.length_append]; have := l1 greatD; omega)]
      simp only [digN, List.append_assoc]
    · simp only [G_burinlaw05_CondSame_L1, hlt, if_true, shr_nat n (4 * m) (by omega), bind_some', band_15 _ hx, s1, s2]
      rw [cat_some (by have := l1 smallD; omega), bind_some', cat_some (by have := l1 greatD; omega), bind_some', hw]
theorem same_L2 (n : Nat) (hn : n ≤ 18446744073709551615) : ∀ m, m ≤ 22 → ∀ h : Bytes, h.length + m ≤ 100 → loopO (G_burinlaw05_CondSame_L2 (n : Int) smallD) (h, 3 * (m : Int) - 3) = some (h ++ digN 3 smallD 8 n m) := by
  intro m
  induction m with
  | zero =>
    intro _ h _
    rw [loopO_inr (x := h)]
    · simp [digN]
    · rfl
  | succ m ih =>
    intro hm h hh
    have e1 : 3 * ((m + 1 : Nat) : Int) - 3 = ((3 * m : Nat) : Int) := by omega
    have hlt : decide ((0 : Int) ≤ ((3 * m : Nat) : Int)) = true := by simp only [decide_eq_true_eq]; omega
    have hx : n / 2 ^ (3 * m) ≤ 18446744073709551615 := Nat.le_trans (Nat.div_le_self _ _) hn
    have hd : (n / 2 ^ (3 * m)) % 8 < 8 := Nat.mod_lt _ (by omega)
    have s1 := sub_one smallD ((n / 2 ^ (3 * m)) % 8) (by show _ < 16; omega) (by decide)
    have l1 : ∀ dg : Bytes, dg[(n / 2 ^ (3 * m)) % 8]?.toList.length ≤ 1 := fun dg => by cases dg[(n / 2 ^ (3 * m)) % 8]? <;> simp
    have hw : IntKind.wrap .i64 (((3 * m : Nat) : Int) - 3) = 3 * (m : Int) - 3 := by rw [wi (by omega) (by omega)]; omega
    rw [e1, loopO_inl (s' := (h ++ smallD[(n / 2 ^ (3 * m)) % 8]?.toList, 3 * (m : Int) - 3))]
    · rw [ih (by omega) _ (by rw [List.length_append]; have := l1 smallD; omega)]
      simp only [digN, List.append_assoc]
    · simp only [G_burinlaw05_CondSame_L2, hlt, if_true, shr_nat n (3 * m) (by omega), bind_some', band_7 _ hx, s1]
      rw [cat_some (by have := l1 smallD; omega), bind_some', hw]

theorem digN_num (a : Nat) (ha : a = 3 ∨ a = 4) (dg : Bytes) (hdg : ∀ d, d < 2 ^ a → ∃ c, dg[d]? = some c ∧ hexv c = d) (n : Nat) (rest : Bytes) :
    ∀ m v, v * 2 ^ (a * m) + n % 2 ^ (a * m) ≤ 18446744073709551615 → numGo (2 ^ a) v (digN a dg (2 ^ a) n m ++ rest) = (numGo (2 ^ a) (v * 2 ^ (a * m) + n % 2 ^ (a * m)) rest).map fun p => (p.1, p.2 + m) := by
  intro m
  induction m with
  | zero =>
    intro v hv
    have : v * 2 ^ (a * 0) + n % 2 ^ (a * 0) = v := by simp [Nat.mod_one]
    rw [this]
    simp [digN]
  | succ m ih =>
    intro v hv
    have hp : (2 : Nat) ^ (a * (m + 1)) = 2 ^ (a * m) * 2 ^ a := by rw [Nat.mul_succ, Nat.pow_add]
    have hd : (n / 2 ^ (a * m)) % 2 ^ a < 2 ^ a := Nat.mod_lt _ (Nat.two_pow_pos a)
    obtain ⟨c, hc, hh⟩ := hdg _ hd
    have key : v * 2 ^ (a * (m + 1)) + n % 2 ^ (a * (m + 1)) = (v * 2 ^ a + (n / 2 ^ (a * m)) % 2 ^ a) * 2 ^ (a * m) + n % 2 ^ (a * m) := by
      rw [hp, Nat.mod_mul, Nat.add_mul, Nat.mul_assoc, Nat.mul_comm (2 ^ a) (2 ^ (a * m)), Nat.mul_comm ((n / 2 ^ (a * m)) % 2 ^ a)]
      omega
    rw [key] at hv ⊢
    have hpos := Nat.two_pow_pos (a * m)
    have hle : v * 2 ^ a + (n / 2 ^ (a * m)) % 2 ^ a ≤ 18446744073709551615 := by
      have : (v * 2 ^ a + (n / 2 ^ (a * m)) % 2 ^ a) * 1 ≤ (v * 2 ^ a + (n / 2 ^ (a * m)) % 2 ^ a) * 2 ^ (a * m) := Nat.mul_le_mul_left _ hpos
      omega
    have e : digN a dg (2 ^ a) n (m + 1) ++ rest = c :: (digN a dg (2 ^ a) n m ++ rest) := by
      simp only [digN, hc, Option.toList_some, List.cons_append, List.nil_append]
    rw [e]
    simp only [numGo]
    rw [hh, if_pos hd, if_neg (by omega), ih _ hv]
    cases numGo (2 ^ a) ((v * 2 ^ a + n / 2 ^ (a * m) % 2 ^ a) * 2 ^ (a * m) + n % 2 ^ (a * m)) rest with
    | none => rfl
    | some p => simp only [Option.map_some]; rw [Nat.add_assoc]
theorem tmod6 (k : Int) (h1 : IntKind.min .i64 ≤ k) (h2 : k ≤ IntKind.max .i64) : ∃ m : Nat, m < 6 ∧ rem k 6 = some (k.tmod 6) ∧ rem (IntKind.wrap .i64 (k.tmod 6 + 6)) 6 = some (m : Int) := by
  have e1 : rem k 6 = some (k.tmod 6) := by simp [rem]
  have hb : -6 < k.tmod 6 ∧ k.tmod 6 < 6 := by
    constructor
    · have := Int.lt_tmod_of_pos k (show (0 : Int) < 6 by omega); omega
    · exact Int.tmod_lt_of_pos k (by omega)
  refine ⟨((k.tmod 6 + 6).tmod 6).toNat, ?_, e1, ?_⟩
  · have h3 := Int.tmod_lt_of_pos (k.tmod 6 + 6) (show (0 : Int) < 6 by omega)
    have h4 := Int.tmod_nonneg 6 (show 0 ≤ k.tmod 6 + 6 by omega)
    omega
  · rw [wi (by omega) (by omega)]
    have h4 := Int.tmod_nonneg 6 (show 0 ≤ k.tmod 6 + 6 by omega)
    simp [rem]
    omega
def endsL : List Bytes := [[], [117], [108], [85, 76, 76], [108, 108, 85], [76, 117]]
theorem numGo_end (b v : Nat) (e : Bytes) (he : e ∈ endsL) (hb : b = 8 ∨ b = 16) : numGo b v e = some (v, 0) := by
  have k : ∀ e ∈ endsL, e ≠ [] → hexv (e.headD 0) = 16 := by decide
  cases e with
  | nil => rfl
  | cons c r =>
    have : hexv c = 16 := k _ he (by simp)
    simp only [numGo]
    rw [if_neg (by omega)]
theorem small_hex : ∀ d, d < 2 ^ 4 → ∃ c, smallD[d]? = some c ∧ hexv c = d := by
  intro d hd
  rcases d with _|_|_|_|_|_|_|_|_|_|_|_|_|_|_|_|d <;> first | exact ⟨_, rfl, by decide⟩ | (simp at hd; omega)
theorem great_hex : ∀ d, d < 2 ^ 4 → ∃ c, greatD[d]? = some c ∧ hexv c = d := by
  intro d hd
  rcases d with _|_|_|_|_|_|_|_|_|_|_|_|_|_|_|_|d <;> first | exact ⟨_, rfl, by decide⟩ | (simp at hd; omega)
theorem small_oct : ∀ d, d < 2 ^ 3 → ∃ c, smallD[d]? = some c ∧ hexv c = d := by
  intro d hd
  exact small_hex d (by simp at hd ⊢; omega)

theorem num_hex (dg : Bytes) (hdg : ∀ d, d < 2 ^ 4 → ∃ c, dg[d]? = some c ∧ hexv c = d) (hl : dg.length = 16) (x : UInt8) (hx : x = 120 ∨ x = 88) (n : Nat) (hn : n ≤ 18446744073709551615) (e : Bytes) (he : e ∈ endsL) :
    numS (48 :: x :: (digN 4 dg 16 n 16 ++ e)) = (sufS e).map fun u => (n, u || decide (9223372036854775808 ≤ n)) := by
  have hb : baseS (48 :: x :: (digN 4 dg 16 n 16 ++ e)) = (16, digN 4 dg 16 n 16 ++ e) := by rcases hx with rfl | rfl <;> rfl
  have hmod : n % 2 ^ (4 * 16) = n := Nat.mod_eq_of_lt (by have : (2 : Nat) ^ (4 * 16) = 18446744073709551616 := by decide
                                                           omega)
  have hg := digN_num 4 (by omega) dg hdg n e 16 0 (by rw [hmod]; omega)
  have hg : numGo 16 0 (digN 4 dg 16 n 16 ++ e) = _ := hg
  rw [hmod, Nat.zero_mul, Nat.zero_add, numGo_end (2 ^ 4) n e he (by decide)] at hg
  unfold numS
  rw [if_neg (by simp), hb]
  simp only [hg, Option.map_some]
  have hlen := digN_len 4 dg 16 n (by omega) (by omega) 16
  have hdrop : (digN 4 dg 16 n 16 ++ e).drop (0 + 16) = e := List.drop_left' (by omega)
  rw [if_neg (by omega), hdrop]
  cases sufS e <;> rfl
theorem num_oct (n : Nat) (hn : n ≤ 18446744073709551615) (e : Bytes) (he : e ∈ endsL) :
    numS (48 :: (digN 3 smallD 8 n 22 ++ e)) = (sufS e).map fun u => (n, u || decide (9223372036854775808 ≤ n)) := by
  have hlen := digN_len 3 smallD 8 n (by decide) (by omega) 22
  have hb : baseS (48 :: (digN 3 smallD 8 n 22 ++ e)) = (8, 48 :: (digN 3 smallD 8 n 22 ++ e)) := by
    have h0 : digN 3 smallD 8 n 22 = smallD[(n / 2 ^ (3 * 21)) % 8]?.toList ++ digN 3 smallD 8 n 21 := rfl
    obtain ⟨c, hc, hh⟩ := small_oct ((n / 2 ^ (3 * 21)) % 8) (Nat.mod_lt _ (by decide))
    rw [h0, hc]
    have hc1 : c ≠ 120 := by rintro rfl; have : hexv 120 = 16 := by decide
                             rw [this] at hh
                             have := Nat.mod_lt (n / 2 ^ (3 * 21)) (show 0 < 8 by decide)
                             omega
    have hc2 : c ≠ 88 := by rintro rfl; have : hexv 88 = 16 := by decide
                            rw [this] at hh
                            have := Nat.mod_lt (n / 2 ^ (3 * 21)) (show 0 < 8 by decide)
                            omega
    simp only [Option.toList_some, List.cons_append, List.nil_append]
    unfold baseS
    split <;> simp_all
  have hmod : n % 2 ^ (3 * 22) = n := Nat.mod_eq_of_lt (by have : (2 : Nat) ^ (3 * 22) = 73786976294838206464 := by decide
                                                           omega)
  have hg := digN_num 3 (by omega) smallD small_oct n e 22 0 (by rw [hmod]; omega)
  have hg : numGo 8 0 (digN 3 smallD 8 n 22 ++ e) = _ := hg
  rw [hmod, Nat.zero_mul, Nat.zero_add, numGo_end (2 ^ 3) n e he (by decide)] at hg
  have hg0 : numGo 8 0 (48 :: (digN 3 smallD 8 n 22 ++ e)) = some (n, 23) := by
    simp only [numGo]
    have : hexv 48 = 0 := by decide
    rw [this, if_pos (by omega), if_neg (by omega), hg]
    rfl
  unfold numS
  rw [if_neg (by simp), hb]
  simp only [hg0]
  have hdrop : (48 :: (digN 3 smallD 8 n 22 ++ e)).drop 23 = e := by
    rw [List.drop_succ_cons]
    exact List.drop_left' (by omega)
  rw [if_neg (by omega), hdrop]
  cases sufS e <;> rfl
theorem condSame_true (n : Int) (h1 : IntKind.min .u64 ≤ n) (h2 : n ≤ IntKind.max .u64) (k : Int) (h3 : IntKind.min .i64 ≤ k) (h4 : k ≤ IntKind.max .i64) : ∃ _kf : Nat, G_burinlaw05_CondSame n k = some true := by
  obtain ⟨n, rfl⟩ := Int.eq_ofNat_of_zero_le (show 0 ≤ n from h1)
  have hn : n ≤ 18446744073709551615 := by
    have : IntKind.max .u64 = 18446744073709551615 := by decide
    omega
  obtain ⟨m, hm, r1, r2⟩ := tmod6 k h3 h4
  have l1 := same_L1 n hn 16 (by omega) [] [] (by simp) (by simp)
  have l2 := same_L2 n hn 22 (by omega) [] (by simp)
  have l1 : loopO (G_burinlaw05_CondSame_L1 (n : Int) ([48, 49, 50, 51, 52, 53, 54, 55, 56, 57, 97, 98, 99, 100, 101, 102] : Bytes) ([48, 49, 50, 51, 52, 53, 54, 55, 56, 57, 65, 66, 67, 68, 69, 70] : Bytes)) (([] : Bytes), ([] : Bytes), (60 : Int)) = _ := l1
  have l2 : loopO (G_burinlaw05_CondSame_L2 (n : Int) ([48, 49, 50, 51, 52, 53, 54, 55, 56, 57, 97, 98, 99, 100, 101, 102] : Bytes)) (([] : Bytes), (63 : Int)) = _ := l2
  obtain ⟨e, he, hx⟩ : ∃ e, e ∈ endsL ∧ idx ([([] : Bytes), ([117] : Bytes), ([108] : Bytes), ([85, 76, 76] : Bytes), ([108, 108, 85] : Bytes), ([76, 117] : Bytes)] : List Bytes) (m : Int) = some e ∧ sufS e = some (decide (m ≠ 0 ∧ m ≠ 2)) ∧ e.length ≤ 3 := by
    rcases m with _|_|_|_|_|_|m
    · exact ⟨[], by decide, rfl, by decide, by decide⟩
    · exact ⟨[117], by decide, rfl, by decide, by decide⟩
    · exact ⟨[108], by decide, rfl, by decide, by decide⟩
    · exact ⟨[85, 76, 76], by decide, rfl, by decide, by decide⟩
    · exact ⟨[108, 108, 85], by decide, rfl, by decide, by decide⟩
    · exact ⟨[76, 117], by decide, rfl, by decide, by decide⟩
    · omega
  obtain ⟨hx, hs, hel⟩ := hx
  have d1 := digN_len 4 smallD 16 n (by decide) (by omega) 16
  have d2 := digN_len 4 greatD 16 n (by decide) (by omega) 16
  have d3 := digN_len 3 smallD 8 n (by decide) (by omega) 22
  have n1 := num_hex smallD small_hex rfl 120 (.inl rfl) n hn e he
  have n2 := num_hex greatD great_hex rfl 88 (.inr rfl) n hn e he
  have n3 := num_oct n hn e he
  rw [hs] at n1 n2 n3
  have g1 := G_Number (48 :: 120 :: (digN 4 smallD 16 n 16 ++ e)) (by simp; omega)
  have g2 := G_Number (48 :: 88 :: (digN 4 greatD 16 n 16 ++ e)) (by simp; omega)
  have g3 := G_Number (48 :: (digN 3 smallD 8 n 22 ++ e)) (by simp; omega)
  rw [n1] at g1
  rw [n2] at g2
  rw [n3] at g3
  have c1 : cat ([48, 120] : Bytes) (digN 4 smallD 16 n 16) = some (48 :: 120 :: digN 4 smallD 16 n 16) := cat_some (by simp; omega)
  have c2 : cat ([48, 88] : Bytes) (digN 4 greatD 16 n 16) = some (48 :: 88 :: digN 4 greatD 16 n 16) := cat_some (by simp; omega)
  have c3 : cat ([48] : Bytes) (digN 3 smallD 8 n 22) = some (48 :: digN 3 smallD 8 n 22) := cat_some (by simp; omega)
  have c4 : cat (48 :: 120 :: digN 4 smallD 16 n 16) e = some (48 :: 120 :: (digN 4 smallD 16 n 16 ++ e)) := cat_some (by simp; omega)
  have c5 : cat (48 :: 88 :: digN 4 greatD 16 n 16) e = some (48 :: 88 :: (digN 4 greatD 16 n 16 ++ e)) := cat_some (by simp; omega)
  have c6 : cat (48 :: digN 3 smallD 8 n 22) e = some (48 :: (digN 3 smallD 8 n 22 ++ e)) := cat_some (by simp; omega)
  refine ⟨0, ?_⟩
  unfold G_burinlaw05_CondSame
  rw [show G_burinlaw05_shown = some true from rfl, bind_some', l1, bind_some']
  simp only [List.nil_append]
  rw [l2, bind_some']
  simp only [List.nil_append, r1, bind_some', r2, hx, c1, c2, c3, c4, c5, c6, g1, g2, g3, Option.map_some, numR, if_true, beq_self_eq_true]
  have e0 : ((m : Int) == 0) = decide (m = 0) := by rw [Bool.eq_iff_iff]; simp <;> omega
  have e2 : ((m : Int) == 2) = decide (m = 2) := by rw [Bool.eq_iff_iff]; simp <;> omega
  have e9 : decide ((9223372036854775808 : Int) ≤ (n : Int)) = decide (9223372036854775808 ≤ n) := by rw [Bool.eq_iff_iff]; simp <;> omega
  rw [e0, e2, e9]
  by_cases m0 : m = 0
  · subst m0; simp
  · by_cases m2 : m = 2
    · subst m2; simp
    · simp [m0, m2]
end Go.Proofs.YtmngkcpobmhnoaaGreatDoor.Sim.Pl
