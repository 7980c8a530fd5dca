/- What the compiler gives. Printed by a program. -/
import Derived.Test.YtmngkcpobmhnoaaGreatDoorProg
import Derived.Test.YtmngkcpobmhnoaaGreatDoorKEnv
set_option linter.all false
namespace Go.Proofs.YtmngkcpobmhnoaaGreatDoor.Sim
open Go.Proofs
set_option maxRecDepth 100000
theorem comp_burinlaw07_LexBack : compile Tryz.prog C 13 = some R_burinlaw07_LexBack := by kernel_rfl
theorem comp_burinlaw07_shown : compile Tryz.prog C 14 = some R_burinlaw07_shown := by kernel_rfl
theorem comp_lex_Words : compile Tryz.prog C 15 = some R_lex_Words := by kernel_rfl
theorem comp_burinlaw07_lexed : compile Tryz.prog C 18 = some R_burinlaw07_lexed := by kernel_rfl
theorem comp_lex_IsKey : compile Tryz.prog C 19 = some R_lex_IsKey := by kernel_rfl
theorem comp_token_Lex : compile Tryz.prog C 24 = some R_token_Lex := by kernel_rfl
theorem comp_cond_Number : compile Tryz.prog C 29 = some R_cond_Number := by kernel_rfl
theorem comp_lex_Right : compile Tryz.prog C 31 = some R_lex_Right := by kernel_rfl
theorem comp_lex_Show : compile Tryz.prog C 33 = some R_lex_Show := by kernel_rfl
theorem comp_lex_words : compile Tryz.prog C 35 = some R_lex_words := by kernel_rfl
theorem comp_token_scan_toks : compile Tryz.prog C 40 = some R_token_scan_toks := by kernel_rfl
theorem comp_cond_isSuffix : compile Tryz.prog C 43 = some R_cond_isSuffix := by kernel_rfl
theorem comp_strconv_ParseUint : compile Tryz.prog C 44 = some R_strconv_ParseUint := by kernel_rfl
theorem comp_lex_lies : compile Tryz.prog C 46 = some R_lex_lies := by kernel_rfl
theorem comp_token_One : compile Tryz.prog C 47 = some R_token_One := by kernel_rfl
theorem comp_strings_Builder_WriteByte : compile Tryz.prog C 50 = some R_strings_Builder_WriteByte := by kernel_rfl
theorem comp_lex_show : compile Tryz.prog C 51 = some R_lex_show := by kernel_rfl
theorem comp_lex_words_1 : compile Tryz.prog C 54 = some R_lex_words_1 := by kernel_rfl
theorem comp_lex_wordOf : compile Tryz.prog C 55 = some R_lex_wordOf := by kernel_rfl
theorem comp_lex_bytesOf : compile Tryz.prog C 56 = some R_lex_bytesOf := by kernel_rfl
theorem comp_token_scan_toks_1 : compile Tryz.prog C 65 = some R_token_scan_toks_1 := by kernel_rfl
theorem comp_token_scan_skip : compile Tryz.prog C 66 = some R_token_scan_skip := by kernel_rfl
theorem comp_token_next : compile Tryz.prog C 67 = some R_token_next := by kernel_rfl
theorem comp_internal_strconv_ParseUint : compile Tryz.prog C 71 = some R_internal_strconv_ParseUint := by kernel_rfl
theorem comp_strconv_toError : compile Tryz.prog C 72 = some R_strconv_toError := by kernel_rfl
theorem comp_lex_escaped : compile Tryz.prog C 75 = some R_lex_escaped := by kernel_rfl
theorem comp_strings_Builder_WriteString : compile Tryz.prog C 76 = some R_strings_Builder_WriteString := by kernel_rfl
theorem comp_lex_number : compile Tryz.prog C 80 = some R_lex_number := by kernel_rfl
theorem comp_cond_Char : compile Tryz.prog C 81 = some R_cond_Char := by kernel_rfl
theorem comp_token_isLetter : compile Tryz.prog C 97 = some R_token_isLetter := by kernel_rfl
theorem comp_token_many : compile Tryz.prog C 98 = some R_token_many := by kernel_rfl
theorem comp_token_next_1 : compile Tryz.prog C 99 = some R_token_next_1 := by kernel_rfl
theorem comp_token_isWord : compile Tryz.prog C 100 = some R_token_isWord := by kernel_rfl
theorem comp_token_isDigit : compile Tryz.prog C 101 = some R_token_isDigit := by kernel_rfl
theorem comp_token_numeric : compile Tryz.prog C 102 = some R_token_numeric := by kernel_rfl
theorem comp_token_quoted : compile Tryz.prog C 103 = some R_token_quoted := by kernel_rfl
theorem comp_internal_strconv_lower : compile Tryz.prog C 108 = some R_internal_strconv_lower := by kernel_rfl
theorem comp_internal_strconv_underscoreOK : compile Tryz.prog C 109 = some R_internal_strconv_underscoreOK := by kernel_rfl
theorem comp_strconv_syntaxError : compile Tryz.prog C 110 = some R_strconv_syntaxError := by kernel_rfl
theorem comp_strconv_rangeError : compile Tryz.prog C 111 = some R_strconv_rangeError := by kernel_rfl
theorem comp_cond_escape : compile Tryz.prog C 120 = some R_cond_escape := by kernel_rfl
theorem comp_token_numeric_1 : compile Tryz.prog C 134 = some R_token_numeric_1 := by kernel_rfl
theorem comp_cond_digitsOf : compile Tryz.prog C 154 = some R_cond_digitsOf := by kernel_rfl
theorem comp_all : ∀ g R, fnOf g = some R → compile Tryz.prog C g = some R := by
 intro g R h
 have key : ∀ (l : List (Nat × RFunc)), (∀ p ∈ l, compile Tryz.prog C p.1 = some p.2) → l.lookup g = some R → compile Tryz.prog C g = some R := by
  intro l
  induction l with
  | nil => intro _ h; cases h
  | cons p ps ih =>
   intro hp h
   obtain ⟨a, b⟩ := p
   rw [List.lookup_cons] at h
   split at h
   ·rename_i e
    have e' : g = a := by simpa using e
    cases h; rw [e']; exact hp (a, R) List.mem_cons_self
   ·exact ih (fun q hq => hp q (by simp [hq])) h
 refine key fns ?_ h
 unfold fns
 exact List.forall_mem_cons.2 ⟨comp_burinlaw07_LexBack, List.forall_mem_cons.2 ⟨comp_burinlaw07_shown, List.forall_mem_cons.2 ⟨comp_lex_Words, List.forall_mem_cons.2 ⟨comp_burinlaw07_lexed, List.forall_mem_cons.2 ⟨comp_lex_IsKey, List.forall_mem_cons.2 ⟨comp_token_Lex, List.forall_mem_cons.2 ⟨comp_cond_Number, List.forall_mem_cons.2 ⟨comp_lex_Right, List.forall_mem_cons.2 ⟨comp_lex_Show, List.forall_mem_cons.2 ⟨comp_lex_words, List.forall_mem_cons.2 ⟨comp_token_scan_toks, List.forall_mem_cons.2 ⟨comp_cond_isSuffix, List.forall_mem_cons.2 ⟨comp_strconv_ParseUint, List.forall_mem_cons.2 ⟨comp_lex_lies, List.forall_mem_cons.2 ⟨comp_token_One, List.forall_mem_cons.2 ⟨comp_strings_Builder_WriteByte, List.forall_mem_cons.2 ⟨comp_lex_show, List.forall_mem_cons.2 ⟨comp_lex_words_1, List.forall_mem_cons.2 ⟨comp_lex_wordOf, List.forall_mem_cons.2 ⟨comp_lex_bytesOf, List.forall_mem_cons.2 ⟨comp_token_scan_toks_1, List.forall_mem_cons.2 ⟨comp_token_scan_skip, List.forall_mem_cons.2 ⟨comp_token_next, List.forall_mem_cons.2 ⟨comp_internal_strconv_ParseUint, List.forall_mem_cons.2 ⟨comp_strconv_toError, List.forall_mem_cons.2 ⟨comp_lex_escaped, List.forall_mem_cons.2 ⟨comp_strings_Builder_WriteString, List.forall_mem_cons.2 ⟨comp_lex_number, List.forall_mem_cons.2 ⟨comp_cond_Char, List.forall_mem_cons.2 ⟨comp_token_isLetter, List.forall_mem_cons.2 ⟨comp_token_many, List.forall_mem_cons.2 ⟨comp_token_next_1, List.forall_mem_cons.2 ⟨comp_token_isWord, List.forall_mem_cons.2 ⟨comp_token_isDigit, List.forall_mem_cons.2 ⟨comp_token_numeric, List.forall_mem_cons.2 ⟨comp_token_quoted, List.forall_mem_cons.2 ⟨comp_internal_strconv_lower, List.forall_mem_cons.2 ⟨comp_internal_strconv_underscoreOK, List.forall_mem_cons.2 ⟨comp_strconv_syntaxError, List.forall_mem_cons.2 ⟨comp_strconv_rangeError, List.forall_mem_cons.2 ⟨comp_cond_escape, List.forall_mem_cons.2 ⟨comp_token_numeric_1, List.forall_mem_cons.2 ⟨comp_cond_digitsOf, (fun _ h => by cases h)⟩⟩⟩⟩⟩⟩⟩⟩⟩⟩⟩⟩⟩⟩⟩⟩⟩⟩⟩⟩⟩⟩⟩⟩⟩⟩⟩⟩⟩⟩⟩⟩⟩⟩⟩⟩⟩⟩⟩⟩⟩⟩⟩
end Go.Proofs.YtmngkcpobmhnoaaGreatDoor.Sim
