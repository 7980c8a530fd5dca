/- The table of the compiled functions. Printed by a program. -/
import Derived.Test.YtmngkcpobmhnoaaGreatDoorKCode1
set_option linter.all false
namespace Go.Proofs.YtmngkcpobmhnoaaGreatDoor.Sim
def fns : List (Nat × RFunc) := [(13, R_burinlaw07_LexBack), (14, R_burinlaw07_shown), (15, R_lex_Words), (18, R_burinlaw07_lexed), (19, R_lex_IsKey), (24, R_token_Lex), (29, R_cond_Number), (31, R_lex_Right), (33, R_lex_Show), (35, R_lex_words), (40, R_token_scan_toks), (43, R_cond_isSuffix), (44, R_strconv_ParseUint), (46, R_lex_lies), (47, R_token_One), (50, R_strings_Builder_WriteByte), (51, R_lex_show), (54, R_lex_words_1), (55, R_lex_wordOf), (56, R_lex_bytesOf), (65, R_token_scan_toks_1), (66, R_token_scan_skip), (67, R_token_next), (71, R_internal_strconv_ParseUint), (72, R_strconv_toError), (75, R_lex_escaped), (76, R_strings_Builder_WriteString), (80, R_lex_number), (81, R_cond_Char), (97, R_token_isLetter), (98, R_token_many), (99, R_token_next_1), (100, R_token_isWord), (101, R_token_isDigit), (102, R_token_numeric), (103, R_token_quoted), (108, R_internal_strconv_lower), (109, R_internal_strconv_underscoreOK), (110, R_strconv_syntaxError), (111, R_strconv_rangeError), (120, R_cond_escape), (134, R_token_numeric_1), (154, R_cond_digitsOf)]
def fnOf (g : FuncId) : Option RFunc := fns.lookup g
theorem fn_burinlaw07_LexBack : fnOf 13 = some R_burinlaw07_LexBack := by kernel_rfl
theorem fn_lex_Words : fnOf 15 = some R_lex_Words := by kernel_rfl
theorem fn_burinlaw07_lexed : fnOf 18 = some R_burinlaw07_lexed := by kernel_rfl
theorem fn_lex_IsKey : fnOf 19 = some R_lex_IsKey := by kernel_rfl
theorem fn_token_Lex : fnOf 24 = some R_token_Lex := by kernel_rfl
theorem fn_cond_Number : fnOf 29 = some R_cond_Number := by kernel_rfl
theorem fn_lex_Right : fnOf 31 = some R_lex_Right := by kernel_rfl
theorem fn_lex_Show : fnOf 33 = some R_lex_Show := by kernel_rfl
theorem fn_lex_words : fnOf 35 = some R_lex_words := by kernel_rfl
theorem fn_token_scan_toks : fnOf 40 = some R_token_scan_toks := by kernel_rfl
theorem fn_cond_isSuffix : fnOf 43 = some R_cond_isSuffix := by kernel_rfl
theorem fn_strconv_ParseUint : fnOf 44 = some R_strconv_ParseUint := by kernel_rfl
theorem fn_lex_lies : fnOf 46 = some R_lex_lies := by kernel_rfl
theorem fn_token_One : fnOf 47 = some R_token_One := by kernel_rfl
theorem fn_strings_Builder_WriteByte : fnOf 50 = some R_strings_Builder_WriteByte := by kernel_rfl
theorem fn_lex_show : fnOf 51 = some R_lex_show := by kernel_rfl
theorem fn_lex_words_1 : fnOf 54 = some R_lex_words_1 := by kernel_rfl
theorem fn_lex_wordOf : fnOf 55 = some R_lex_wordOf := by kernel_rfl
theorem fn_lex_bytesOf : fnOf 56 = some R_lex_bytesOf := by kernel_rfl
theorem fn_token_scan_toks_1 : fnOf 65 = some R_token_scan_toks_1 := by kernel_rfl
theorem fn_token_scan_skip : fnOf 66 = some R_token_scan_skip := by kernel_rfl
theorem fn_token_next : fnOf 67 = some R_token_next := by kernel_rfl
theorem fn_internal_strconv_ParseUint : fnOf 71 = some R_internal_strconv_ParseUint := by kernel_rfl
theorem fn_strconv_toError : fnOf 72 = some R_strconv_toError := by kernel_rfl
theorem fn_lex_escaped : fnOf 75 = some R_lex_escaped := by kernel_rfl
theorem fn_strings_Builder_WriteString : fnOf 76 = some R_strings_Builder_WriteString := by kernel_rfl
theorem fn_lex_number : fnOf 80 = some R_lex_number := by kernel_rfl
theorem fn_cond_Char : fnOf 81 = some R_cond_Char := by kernel_rfl
theorem fn_token_isLetter : fnOf 97 = some R_token_isLetter := by kernel_rfl
theorem fn_token_many : fnOf 98 = some R_token_many := by kernel_rfl
theorem fn_token_next_1 : fnOf 99 = some R_token_next_1 := by kernel_rfl
theorem fn_token_isWord : fnOf 100 = some R_token_isWord := by kernel_rfl
theorem fn_token_isDigit : fnOf 101 = some R_token_isDigit := by kernel_rfl
theorem fn_token_numeric : fnOf 102 = some R_token_numeric := by kernel_rfl
theorem fn_token_quoted : fnOf 103 = some R_token_quoted := by kernel_rfl
theorem fn_internal_strconv_lower : fnOf 108 = some R_internal_strconv_lower := by kernel_rfl
theorem fn_internal_strconv_underscoreOK : fnOf 109 = some R_internal_strconv_underscoreOK := by kernel_rfl
theorem fn_strconv_syntaxError : fnOf 110 = some R_strconv_syntaxError := by kernel_rfl
theorem fn_strconv_rangeError : fnOf 111 = some R_strconv_rangeError := by kernel_rfl
theorem fn_cond_escape : fnOf 120 = some R_cond_escape := by kernel_rfl
theorem fn_token_numeric_1 : fnOf 134 = some R_token_numeric_1 := by kernel_rfl
theorem fn_cond_digitsOf : fnOf 154 = some R_cond_digitsOf := by kernel_rfl
end Go.Proofs.YtmngkcpobmhnoaaGreatDoor.Sim
