/- Plain laws: what is shown, lexed, comes to the same words. -/
import Derived.Test.YtmngkcpobmhnoaaGreatDoorKPBack2
set_option linter.all false
namespace Go.Proofs.YtmngkcpobmhnoaaGreatDoor.Sim.Pl
open Go.Proofs

def kT (w : T_api_Word) : Nat := if w.Kind_ = 4 then 4 else if w.Kind_ = 3 then (if w.T_ = 5 ∧ w.V_ < 0 then 3 else 2) else if w.Kind_ = 5 then 5 else 1
theorem right_bare {w : T_api_Word} (hr : rightS w = true) (k3 : w.Kind_ ≠ 3) : w.V_ = 0 ∧ w.T_ = 0 ∧ (w.Kind_ = 4 ∧ w.S_.length ≤ 4096 ∨ w.Kind_ = 1 ∧ w.S_ ∈ keysL ∨ w.Kind_ = 2 ∧ kindT w.S_ = 1 ∧ w.S_ ∉ keysL ∨ w.Kind_ = 5 ∧ kindT w.S_ = 5 ∧ ¬ (w.S_ = [35] ∨ w.S_ = [35, 35])) := by
 unfold rightS at hr
 rw [if_neg k3] at hr
 by_cases hb : w.V_ = 0 ∧ w.T_ = 0
 ·rw [if_neg (not_not_intro hb)] at hr
  refine ⟨hb.1, hb.2, ?_⟩
  by_cases k4 : w.Kind_ = 4
  ·rw [if_pos k4] at hr; exact .inl ⟨k4, by simpa using hr⟩
  ·rw [if_neg k4] at hr
   by_cases k1 : w.Kind_ = 1
   ·rw [if_pos k1] at hr; exact .inr (.inl ⟨k1, by simpa using hr⟩)
   ·rw [if_neg k1] at hr
    by_cases k2 : w.Kind_ = 2
    ·rw [if_pos k2] at hr
     simp only [Bool.and_eq_true, decide_eq_true_eq, Bool.not_eq_true', decide_eq_false_iff_not] at hr
     exact .inr (.inr (.inl ⟨k2, hr.1, hr.2⟩))
    ·rw [if_neg k2] at hr
     by_cases k5 : w.Kind_ = 5
     ·rw [if_pos k5] at hr
      simp only [Bool.and_eq_true, decide_eq_true_eq, Bool.not_eq_true', decide_eq_false_iff_not] at hr
      exact .inr (.inr (.inr ⟨k5, hr.1, hr.2⟩))
     ·rw [if_neg k5] at hr; cases hr
 ·rw [if_pos hb] at hr; cases hr
theorem kind5_mem {s : Bytes} (h : kindT s = 5) : s ∈ signsL := by
 unfold kindT at h
 cases ho : oneS s with
 | none => rw [ho] at h; cases h
 | some t => rw [ho] at h; exact one_punct ho h
theorem starts_word {w : T_api_Word} (hr : rightS w = true) : Starts (showW w) (kT w) := by
 unfold showW kT
 by_cases k4 : w.Kind_ = 4
 ·rw [if_pos k4, if_pos k4]; exact starts_text w.S_
 ·rw [if_neg k4, if_neg k4]
  by_cases k3 : w.Kind_ = 3
  ·rw [if_neg (not_not_intro k3), if_pos k3]
   by_cases hc : w.T_ = 5 ∧ w.V_ < 0
   ·rw [if_pos hc, if_pos hc]; exact starts_char _
   ·rw [if_neg hc, if_neg hc]
    obtain ⟨c, r, e, _⟩ := dec_head (u64c w.V_)
    have hd := dec_digits (u64c w.V_)
    rw [e, List.all_cons, Bool.and_eq_true] at hd
    rw [e, List.cons_append]
    exact starts_num hd.1 (by rw [List.all_append, all_word hd.2, suf_word]; rfl)
  ·rw [if_pos k3, if_neg k3]
   obtain ⟨_, _, h⟩ := right_bare hr k3
   rcases h with h | h | h | h
   ·exact absurd h.1 k4
   ·rw [if_neg (by omega)]
    obtain ⟨c, r, e, h1, h2⟩ := keys_names _ h.2
    rw [e]; exact starts_name h1 h2
   ·rw [if_neg (by omega)]
    obtain ⟨c, r, e, h1, h2⟩ := one_name h.2.1
    rw [e]; exact starts_name h1 h2
   ·rw [if_pos h.1]; exact starts_sign (kind5_mem h.2.1)

theorem lex_step {x : Bytes} {kk : Nat} (hx : Starts x kk) (n : Int) (k : Nat) (f : Int) (sp fi : Bool) (out : List T_api_Tok) (z : Bytes) (hz : Gap z) (ho : out.length < 20000) :
  lexL n (k + 1) false f sp fi out (x ++ z) = lexL n k false f false false (out ++ [⟨(kk : Int), x, [], n, sp, fi⟩]) z := by
 simp only [lexL]
 rw [hx.skip n f sp z hz]
 have hne := hx.ne
 cases hc : x with
 | nil => exact absurd hc hne
 | cons c r =>
  have hn := hx.next c r z hc hz
  rw [hc] at hn
  have e : (c :: r) ++ z = c :: (r ++ z) := rfl
  rw [e]
  simp only [hn]
  rw [if_neg (by simp), if_neg (by omega), ← e, List.take_left', List.drop_left']
  ·rfl
  ·rfl
theorem gap_step {x : Bytes} {kk : Nat} (hx : Starts x kk) (n : Int) (k : Nat) (f : Int) (sp fi : Bool) (out : List T_api_Tok) (z : Bytes) (hz : Gap z) (ho : out.length < 20000) :
  lexL n (k + 1) false f sp fi out (32 :: (x ++ z)) = lexL n k false f false false (out ++ [⟨(kk : Int), x, [], n, true, fi⟩]) z := by
 rw [← lex_step hx n k f true fi out z hz ho]
 simp only [lexL]
 have : skipS n false f sp (32 :: (x ++ z)) = skipS n false f true (x ++ z) := by
  cases hc : x ++ z with
  | nil => have := hx.ne; simp at hc; exact absurd hc.1 this
  | cons d r => rw [skipS, if_pos (by decide)]
 rw [this]
theorem one_starts {x : Bytes} {kk : Nat} (hx : Starts x kk) : ∃ t, oneS x = some t ∧ t.Kind_ = (kk : Int) := by
 have hl : 0 < x.length := List.length_pos_iff.2 hx.ne
 have h := lex_step hx 1 x.length 0 false true [] [] (.inl rfl) (by simp)
 rw [List.append_nil] at h
 have h2 : lexL 1 x.length false 0 false false ([] ++ [⟨(kk : Int), x, [], 1, false, true⟩]) [] = .ok [⟨(kk : Int), x, [], 1, false, true⟩] false 0 false false := by
  obtain ⟨m, hm⟩ : ∃ m, x.length = m + 1 := ⟨x.length - 1, by omega⟩
  rw [hm]
  simp only [lexL, skipS_nil, List.nil_append]
 refine ⟨⟨(kk : Int), x, [], 1, false, true⟩, ?_, rfl⟩
 unfold oneS
 have h3 : lexLs false 0 false false [] [⟨1, x⟩] = .inl [⟨(kk : Int), x, [], 1, false, true⟩] := by
  simp only [lexLs, Bool.false_eq_true, if_false]
  rw [h, h2]
  rfl
 rw [h3]
 simp
def tokOf (w : T_api_Word) (sp fi : Bool) : T_api_Tok := ⟨(kT w : Int), showW w, [], 1, sp, fi⟩
def toksB : Bool → List T_api_Word → List T_api_Tok
 | _, [] => []
 | b, w :: r => tokOf w (!b) b :: toksB false r
theorem showF_gap {p : T_api_Word} {ws : List T_api_Word} {s : Bytes} (h : showF (some p) ws = some s) : Gap s := by
 cases ws with
 | nil => simp only [showF] at h; cases h; exact .inl rfl
 | cons w r =>
  simp only [showF] at h
  split at h
  ·obtain ⟨s', _, rfl⟩ := Option.map_eq_some_iff.1 h
   exact .inr ⟨showW w ++ s', by simp⟩
  ·cases h
theorem lex_words : ∀ (ws : List T_api_Word) (p : T_api_Word) (s : Bytes), showF (some p) ws = some s → ∀ (k : Nat) (f : Int) (out : List T_api_Tok), s.length < k → out.length + ws.length ≤ 20000 →
  lexL 1 k false f false false out s = .ok (out ++ toksB false ws) false f false false := by
 intro ws
 induction ws with
 | nil =>
  intro p s h k f out hk ho
  simp only [showF] at h
  cases h
  obtain ⟨m, rfl⟩ : ∃ m, k = m + 1 := ⟨k - 1, by omega⟩
  simp only [lexL, skipS_nil, toksB, List.append_nil]
 | cons w r ih =>
  intro p s h k f out hk ho
  simp only [showF] at h
  split at h
  ·rename_i hc
   obtain ⟨s', hs', rfl⟩ := Option.map_eq_some_iff.1 h
   have hx := starts_word hc.1
   have hg := showF_gap hs'
   have hlx : 0 < (showW w).length := List.length_pos_iff.2 hx.ne
   simp only [Option.isSome_some, if_true, List.length_append, List.length_cons] at hk ⊢
   simp only [List.length_cons] at ho
   obtain ⟨m, rfl⟩ : ∃ m, k = m + 1 := ⟨k - 1, by omega⟩
   have e : 32 :: showW w ++ s' = 32 :: (showW w ++ s') := rfl
   rw [e, gap_step hx 1 m f false false out s' hg (by omega), ih w s' hs' m f _ (by omega) (by simp; omega), List.append_assoc]
   rfl
  ·cases h
theorem lex_show {ws : List T_api_Word} {s : Bytes} (h : showF none ws = some s) (hl : ws.length ≤ 20000) : lex1 s = .inl (toksB true ws) := by
 unfold lex1
 simp only [lexLs, Bool.false_eq_true, if_false]
 cases ws with
 | nil =>
  simp only [showF] at h
  cases h
  simp only [List.length_nil, lexL, skipS_nil, toksB]; rfl
 | cons w r =>
  simp only [showF] at h
  split at h
  ·rename_i hc
   obtain ⟨s', hs', rfl⟩ := Option.map_eq_some_iff.1 h
   have hx := starts_word hc.1
   have hg := showF_gap hs'
   have hlx : 0 < (showW w).length := List.length_pos_iff.2 hx.ne
   simp only [Option.isSome_none, Bool.false_eq_true, if_false]
   simp only [List.length_cons] at hl
   rw [lex_step hx 1 _ 0 false true [] s' hg (by simp), lex_words r w s' hs' _ 0 _ (by simp only [List.length_append]; omega) (by simp; omega)]
   rfl
  ·cases h

def baseW (w : T_api_Word) : T_api_Word := ⟨w.Kind_, w.S_, w.V_, w.T_, [], 1⟩
theorem charV_back (v : Int) (h1 : -128 ≤ v) (h2 : v < 0) : charV (u8c v) = v := by
 unfold charV
 rw [u8c_eq, wrap8_mod]
 have e8 : IntKind.wrap .i8 (v % 256) = v := by
  have : IntKind.wrap .i8 (v % 256) = (v % 256 + 128) % 256 - 128 := by simp [IntKind.wrap, IntKind.bits, IntKind.signed]; split <;> omega
  rw [this]; omega
 rw [e8, wi (by omega) (by omega)]
theorem oct_esc (c : UInt8) : escL.lookup (octD c 64) = none ∧ octD c 64 ≠ 120 ∧ isDig 8 (octD c 64) = true ∧ isDig 8 (octD c 8) = true ∧ isDig 8 (octD c 1) = true ∧ pu 8 255 0 [octD c 64, octD c 8, octD c 1] = some c.toNat := by
 revert c; refine all8 ?_; decide +kernel
theorem escS_oct (c : UInt8) (z : Bytes) : escS (octD c 64 :: octD c 8 :: octD c 1 :: z) = some (c.toNat, 3) := by
 obtain ⟨a1, a2, a3, a4, a5, a6⟩ := oct_esc c
 have e : ((octD c 64 :: octD c 8 :: octD c 1 :: z).take 3).takeWhile (isDig 8) = [octD c 64, octD c 8, octD c 1] := by
  rw [show (octD c 64 :: octD c 8 :: octD c 1 :: z).take 3 = [octD c 64, octD c 8, octD c 1] from rfl, List.takeWhile_cons, if_pos a3, List.takeWhile_cons, if_pos a4, List.takeWhile_cons, if_pos a5]; rfl
 simp only [escS, a1, if_neg a2, e, a6]
 rfl
theorem bytes_flat : ∀ s : Bytes, bytesS (s.flatMap octS) = some s
 | [] => bytesS_0
 | c :: s => by
  have e : (c :: s).flatMap octS = 92 :: octD c 64 :: octD c 8 :: octD c 1 :: s.flatMap octS := rfl
  rw [e, bytesS, if_pos rfl, escS_oct]
  simp only [List.drop_succ_cons, List.drop_zero, bytes_flat s, Option.map_some]
  simp
theorem text_back {w : T_api_Word} (hr : rightS w = true) (k4 : w.Kind_ = 4) : textS (showW w) = some w.S_ := by
 obtain ⟨t, h1, h2⟩ := one_starts (starts_word hr)
 have hk : (kT w : Int) = 4 := by unfold kT; rw [if_pos k4]; rfl
 unfold textS
 rw [h1]
 simp only
 rw [if_pos (by rw [h2, hk])]
 have e : ((showW w).take ((showW w).length - 1)).drop 1 = w.S_.flatMap octS := by
  unfold showW
  rw [if_pos k4]
  simp
 rw [e, bytes_flat]
theorem char_back (v : Int) : charS (39 :: (octS (u8c v) ++ [39])) = some (u8c v) := by
 have h := charS_wrap (octS (u8c v)) (by simp [octS])
 have e : ([39] ++ octS (u8c v)) ++ [39] = 39 :: (octS (u8c v) ++ [39]) := rfl
 rw [← e, h]
 have h2 := charT_esc [octD (u8c v) 64, octD (u8c v) 8, octD (u8c v) 1]
 have h3 : escLen [octD (u8c v) 64, octD (u8c v) 8, octD (u8c v) 1] = 3 := by
  obtain ⟨a1, a2, a3, a4, a5, a6⟩ := oct_esc (u8c v)
  simp only [escLen, a3, if_true]
  rw [show ([octD (u8c v) 64, octD (u8c v) 8, octD (u8c v) 1] : Bytes).take 3 = [octD (u8c v) 64, octD (u8c v) 8, octD (u8c v) 1] from rfl, List.takeWhile_cons, if_pos a3, List.takeWhile_cons, if_pos a4, List.takeWhile_cons, if_pos a5]; rfl
 rw [h3] at h2
 have h4 : (92 :: ([octD (u8c v) 64, octD (u8c v) 8, octD (u8c v) 1] : Bytes).take 3) = octS (u8c v) := rfl
 rw [h4, escS_oct] at h2
 rw [h2]
 simp
theorem word_back {w : T_api_Word} (hr : rightS w = true) (k4 : w.Kind_ ≠ 4) (hV1 : -9223372036854775808 ≤ w.V_) (hV2 : w.V_ ≤ 9223372036854775807) (sp fi : Bool) : wordS (tokOf w sp fi) = some (baseW w) := by
 obtain ⟨t, h1, h2⟩ := one_starts (starts_word hr)
 unfold wordS
 have hS : (tokOf w sp fi).S_ = showW w := rfl
 have hK : (tokOf w sp fi).Kind_ = (kT w : Int) := rfl
 rw [hS, h1]
 simp only
 rw [hK, if_pos h2]
 by_cases k3 : w.Kind_ = 3
 ·obtain ⟨hSn, hl⟩ := right_3 k3 hr
  by_cases hc : w.T_ = 5 ∧ w.V_ < 0
  ·have hk : kT w = 3 := by unfold kT; rw [if_neg k4, if_pos k3, if_pos hc]
   have hsh : showW w = 39 :: (octS (u8c w.V_) ++ [39]) := by unfold showW; rw [if_neg k4, if_neg (not_not_intro k3), if_pos hc]
   rw [hk, if_neg (by decide), if_neg (by decide), if_pos (by decide), hsh, char_back]
   have h128 : -128 ≤ w.V_ := by
    unfold liesS at hl; rw [if_pos hc.1] at hl; simp at hl; exact hl.1
   rw [Option.map_some, charV_back w.V_ h128 hc.2]
   unfold baseW
   rw [k3, hSn, hc.1]; rfl
  ·have hk : kT w = 2 := by unfold kT; rw [if_neg k4, if_pos k3, if_neg hc]
   have hsh : showW w = Lib.decDigits (u64c w.V_) ++ sufW w.T_ := by unfold showW; rw [if_neg k4, if_neg (not_not_intro k3), if_neg hc]
   have hn := num_back hl hV1 hV2 hc
   have hT := lies_T hl
   rw [hk, if_neg (by decide), if_pos (by decide), hsh, hn]
   simp only
   rw [if_neg (by omega)]
   unfold baseW
   rw [k3, hSn]; rfl
 ·obtain ⟨hV, hT, h⟩ := right_bare hr k3
  have hsh : showW w = w.S_ := by unfold showW; rw [if_neg k4, if_pos k3]
  rw [hsh]
  rcases h with h | h | h | h
  ·exact absurd h.1 k4
  ·have hk : kT w = 1 := by unfold kT; rw [if_neg k4, if_neg k3, if_neg (by omega)]
   rw [hk, if_pos (by decide), if_pos h.2]
   unfold baseW
   rw [h.1, hV, hT]; rfl
  ·have hk : kT w = 1 := by unfold kT; rw [if_neg k4, if_neg k3, if_neg (by omega)]
   rw [hk, if_pos (by decide), if_neg h.2.2]
   unfold baseW
   rw [h.1, hV, hT]; rfl
  ·have hk : kT w = 5 := by unfold kT; rw [if_neg k4, if_neg k3, if_pos h.1]
   rw [hk, if_neg (by decide), if_neg (by decide), if_neg (by decide), if_pos (by decide), if_neg h.2.2]
   unfold baseW
   rw [h.1, hV, hT]; rfl
def VB (w : T_api_Word) : Prop := -9223372036854775808 ≤ w.V_ ∧ w.V_ ≤ 9223372036854775807
theorem kT_4 (w : T_api_Word) (h : w.Kind_ ≠ 4) : (kT w : Int) ≠ 4 := by
 unfold kT
 rw [if_neg h]
 split
 ·split <;> decide
 ·split <;> decide
theorem words_back : ∀ (ws : List T_api_Word) (p : Option T_api_Word) (b : Bool) (s : Bytes), showF p ws = some s → (∀ w ∈ ws, VB w) → ∀ k, ws.length ≤ k → wordsK k (toksB b ws) = .inl (ws.map baseW) := by
 intro ws
 induction ws with
 | nil => intro p b s h _ k _; cases k <;> rfl
 | cons w r ih =>
  intro p b s h hV k hk
  simp only [List.length_cons] at hk
  obtain ⟨m, rfl⟩ : ∃ m, k = m + 1 := ⟨k - 1, by omega⟩
  simp only [showF] at h
  split at h
  ·rename_i hc
   obtain ⟨s', hs', rfl⟩ := Option.map_eq_some_iff.1 h
   have hr := hc.1
   have hi := ih (some w) false s' hs' (fun x hx => hV x (by simp [hx])) m (by omega)
   simp only [toksB, wordsK]
   by_cases k4 : w.Kind_ = 4
   ·have hk4 : (tokOf w (!b) b).Kind_ = 4 := by show (kT w : Int) = 4; unfold kT; rw [if_pos k4]; rfl
    rw [if_pos hk4]
    have hlen : w.S_.length ≤ 4096 := by
     obtain ⟨_, _, h⟩ := right_bare hr (by omega)
     rcases h with h | h | h | h
     ·exact h.2
     ·omega
     ·omega
     ·omega
    have hrun : runS [] (tokOf w (!b) b :: toksB false r) = .inl (w.S_, toksB false r) := by
     simp only [runS]
     rw [if_pos hk4, show (tokOf w (!b) b).S_ = showW w from rfl, text_back hr k4]
     simp only [List.nil_append]
     cases r with
     | nil => rfl
     | cons x r' =>
      simp only [showF] at hs'
      split at hs'
      ·rename_i hc2
       have hx4 : x.Kind_ ≠ 4 := fun h => hc2.2 ⟨h, by simp [k4]⟩
       simp only [toksB, runS]
       rw [if_neg (by show ¬ (kT x : Int) = 4; exact kT_4 x hx4)]
      ·cases hs'
    rw [hrun]
    dsimp only
    rw [if_neg (by omega), hi]
    have hb : baseW w = ⟨4, w.S_, 0, 0, (tokOf w (!b) b).File_, (tokOf w (!b) b).Line_⟩ := by
     obtain ⟨h1, h2, _⟩ := right_bare hr (by omega)
     unfold baseW tokOf
     rw [k4, h1, h2]
    rw [← hb]; rfl
   ·rw [if_neg (by show ¬ (kT w : Int) = 4; exact kT_4 w k4), word_back hr k4 (hV w (by simp)).1 (hV w (by simp)).2]
    dsimp only
    rw [hi]; rfl
  ·cases h
theorem toksB_len (b : Bool) (ws : List T_api_Word) : (toksB b ws).length = ws.length := by
 induction ws generalizing b with
 | nil => rfl
 | cons w r ih => simp only [toksB, List.length_cons, ih]
theorem toksB_mem {b : Bool} {ws : List T_api_Word} {t : T_api_Tok} (h : t ∈ toksB b ws) : ∃ w ∈ ws, t.S_ = showW w := by
 induction ws generalizing b with
 | nil => cases h
 | cons w r ih =>
  simp only [toksB] at h
  rcases List.mem_cons.1 h with rfl | h
  ·exact ⟨w, by simp, rfl⟩
  ·obtain ⟨x, h1, h2⟩ := ih h
   exact ⟨x, by simp [h1], h2⟩
theorem showF_right {p : Option T_api_Word} {ws : List T_api_Word} {s : Bytes} (h : showF p ws = some s) : ∀ w ∈ ws, rightS w = true := by
 induction ws generalizing p s with
 | nil => intro w hw; cases hw
 | cons x r ih =>
  simp only [showF] at h
  split at h
  ·rename_i hc
   obtain ⟨s', hs', _⟩ := Option.map_eq_some_iff.1 h
   intro w hw
   rcases List.mem_cons.1 hw with rfl | hw
   ·exact hc.1
   ·exact ih hs' w hw
  ·cases h
end Go.Proofs.YtmngkcpobmhnoaaGreatDoor.Sim.Pl
