/- The table of the compiled functions. Printed by a program. -/
import Derived.Test.YtmngkcpobmhnoaaGreatDoorKCode1
set_option linter.all false
namespace Go.Proofs.YtmngkcpobmhnoaaGreatDoor.Sim
def fns : List (Nat × RFunc) := [(12, R_burinlaw07_LexShows), (14, R_burinlaw07_shown), (15, R_lex_Words), (18, R_burinlaw07_lexed), (19, R_lex_IsKey), (20, R_burinref07_IsKey), (24, R_token_Lex), (29, R_cond_Number), (31, R_lex_Right), (32, R_burinref07_Right), (33, R_lex_Show), (34, R_burinref07_Show), (35, R_lex_words), (40, R_token_scan_toks), (43, R_cond_isSuffix), (44, R_strconv_ParseUint), (46, R_lex_lies), (47, R_token_One), (48, R_burinref02_One), (49, R_burinref07_lies), (50, R_strings_Builder_WriteByte), (51, R_lex_show), (53, R_burinref07_show), (54, R_lex_words_1), (55, R_lex_wordOf), (56, R_lex_bytesOf), (65, R_token_scan_toks_1), (66, R_token_scan_skip), (67, R_token_next), (71, R_internal_strconv_ParseUint), (72, R_strconv_toError), (73, R_burinref02_Lex), (75, R_lex_escaped), (76, R_strings_Builder_WriteString), (78, R_burinref07_octal), (79, R_burinref07_digits), (80, R_lex_number), (81, R_cond_Char), (97, R_token_isLetter), (98, R_token_many), (99, R_token_next_1), (100, R_token_isWord), (101, R_token_isDigit), (102, R_token_numeric), (103, R_token_quoted), (108, R_internal_strconv_lower), (109, R_internal_strconv_underscoreOK), (110, R_strconv_syntaxError), (111, R_strconv_rangeError), (114, R_burinref02_lexer_line), (120, R_cond_escape), (134, R_token_numeric_1), (145, R_burinref02_blank), (146, R_burinref02_first), (154, R_cond_digitsOf), (165, R_burinref02_name), (166, R_burinref02_number), (167, R_burinref02_quote), (168, R_burinref02_sign), (186, R_burinref02_letter), (187, R_burinref02_digit), (188, R_burinref02_Punct)]
def fnOf (g : FuncId) : Option RFunc := fns.lookup g
theorem fn_burinlaw07_LexShows : fnOf 12 = some R_burinlaw07_LexShows := by kernel_rfl
theorem fn_lex_IsKey : fnOf 19 = some R_lex_IsKey := by kernel_rfl
theorem fn_burinref07_IsKey : fnOf 20 = some R_burinref07_IsKey := by kernel_rfl
theorem fn_token_Lex : fnOf 24 = some R_token_Lex := by kernel_rfl
theorem fn_lex_Right : fnOf 31 = some R_lex_Right := by kernel_rfl
theorem fn_burinref07_Right : fnOf 32 = some R_burinref07_Right := by kernel_rfl
theorem fn_lex_Show : fnOf 33 = some R_lex_Show := by kernel_rfl
theorem fn_burinref07_Show : fnOf 34 = some R_burinref07_Show := by kernel_rfl
theorem fn_token_scan_toks : fnOf 40 = some R_token_scan_toks := by kernel_rfl
theorem fn_lex_lies : fnOf 46 = some R_lex_lies := by kernel_rfl
theorem fn_token_One : fnOf 47 = some R_token_One := by kernel_rfl
theorem fn_burinref02_One : fnOf 48 = some R_burinref02_One := by kernel_rfl
theorem fn_burinref07_lies : fnOf 49 = some R_burinref07_lies := by kernel_rfl
theorem fn_strings_Builder_WriteByte : fnOf 50 = some R_strings_Builder_WriteByte := by kernel_rfl
theorem fn_lex_show : fnOf 51 = some R_lex_show := by kernel_rfl
theorem fn_burinref07_show : fnOf 53 = some R_burinref07_show := by kernel_rfl
theorem fn_token_scan_toks_1 : fnOf 65 = some R_token_scan_toks_1 := by kernel_rfl
theorem fn_token_scan_skip : fnOf 66 = some R_token_scan_skip := by kernel_rfl
theorem fn_token_next : fnOf 67 = some R_token_next := by kernel_rfl
theorem fn_burinref02_Lex : fnOf 73 = some R_burinref02_Lex := by kernel_rfl
theorem fn_lex_escaped : fnOf 75 = some R_lex_escaped := by kernel_rfl
theorem fn_strings_Builder_WriteString : fnOf 76 = some R_strings_Builder_WriteString := by kernel_rfl
theorem fn_burinref07_octal : fnOf 78 = some R_burinref07_octal := by kernel_rfl
theorem fn_burinref07_digits : fnOf 79 = some R_burinref07_digits := by kernel_rfl
theorem fn_token_isLetter : fnOf 97 = some R_token_isLetter := by kernel_rfl
theorem fn_token_many : fnOf 98 = some R_token_many := by kernel_rfl
theorem fn_token_next_1 : fnOf 99 = some R_token_next_1 := by kernel_rfl
theorem fn_token_isWord : fnOf 100 = some R_token_isWord := by kernel_rfl
theorem fn_token_isDigit : fnOf 101 = some R_token_isDigit := by kernel_rfl
theorem fn_token_numeric : fnOf 102 = some R_token_numeric := by kernel_rfl
theorem fn_token_quoted : fnOf 103 = some R_token_quoted := by kernel_rfl
theorem fn_burinref02_lexer_line : fnOf 114 = some R_burinref02_lexer_line := by kernel_rfl
theorem fn_token_numeric_1 : fnOf 134 = some R_token_numeric_1 := by kernel_rfl
theorem fn_burinref02_blank : fnOf 145 = some R_burinref02_blank := by kernel_rfl
theorem fn_burinref02_first : fnOf 146 = some R_burinref02_first := by kernel_rfl
theorem fn_burinref02_name : fnOf 165 = some R_burinref02_name := by kernel_rfl
theorem fn_burinref02_number : fnOf 166 = some R_burinref02_number := by kernel_rfl
theorem fn_burinref02_quote : fnOf 167 = some R_burinref02_quote := by kernel_rfl
theorem fn_burinref02_sign : fnOf 168 = some R_burinref02_sign := by kernel_rfl
theorem fn_burinref02_letter : fnOf 186 = some R_burinref02_letter := by kernel_rfl
theorem fn_burinref02_digit : fnOf 187 = some R_burinref02_digit := by kernel_rfl
theorem fn_burinref02_Punct : fnOf 188 = some R_burinref02_Punct := by kernel_rfl
end Go.Proofs.YtmngkcpobmhnoaaGreatDoor.Sim
