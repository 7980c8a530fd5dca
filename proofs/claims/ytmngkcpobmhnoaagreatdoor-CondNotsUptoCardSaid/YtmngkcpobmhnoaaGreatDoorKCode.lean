/- The table of the compiled functions. Printed by a program. -/
import Derived.Test.YtmngkcpobmhnoaaGreatDoorKCode1
set_option linter.all false
namespace Go.Proofs.YtmngkcpobmhnoaaGreatDoor.Sim
def fns : List (Nat × RFunc) := [(10, R_burinlaw05_CondNots), (21, R_burinlaw05_shown), (22, R_cond_Eval), (24, R_token_Lex), (25, R_burinlaw05_lexed), (26, R_burinlaw05_closed), (27, R_burinlaw05_sign), (29, R_cond_Number), (30, R_burinlaw05_said), (38, R_cond_eval_choice), (40, R_token_scan_toks), (43, R_cond_isSuffix), (44, R_strconv_ParseUint), (60, R_cond_eval_chain), (61, R_cond_eval_take), (62, R_cond_eval_fails), (65, R_token_scan_toks_1), (66, R_token_scan_skip), (67, R_token_next), (71, R_internal_strconv_ParseUint), (72, R_strconv_toError), (81, R_cond_Char), (86, R_cond_eval_unary), (87, R_cond_eval_sign), (88, R_cond_levelOf), (89, R_cond_truth), (90, R_cond_eval_binary), (93, R_burinref05_truth), (94, R_burinref05_parser_apply), (97, R_token_isLetter), (98, R_token_many), (99, R_token_next_1), (100, R_token_isWord), (101, R_token_isDigit), (102, R_token_numeric), (103, R_token_quoted), (108, R_internal_strconv_lower), (109, R_internal_strconv_underscoreOK), (110, R_strconv_syntaxError), (111, R_strconv_rangeError), (120, R_cond_escape), (125, R_cond_eval_atom), (126, R_cond_eval_divided), (127, R_cond_eval_shifted), (128, R_cond_compared), (130, R_burinref05_parser_divide), (131, R_burinref05_parser_shift), (132, R_burinref05_compare), (134, R_token_numeric_1), (154, R_cond_digitsOf)]
def fnOf (g : FuncId) : Option RFunc := fns.lookup g
theorem fn_burinlaw05_CondNots : fnOf 10 = some R_burinlaw05_CondNots := by kernel_rfl
theorem fn_cond_Eval : fnOf 22 = some R_cond_Eval := by kernel_rfl
theorem fn_token_Lex : fnOf 24 = some R_token_Lex := by kernel_rfl
theorem fn_burinlaw05_lexed : fnOf 25 = some R_burinlaw05_lexed := by kernel_rfl
theorem fn_burinlaw05_closed : fnOf 26 = some R_burinlaw05_closed := by kernel_rfl
theorem fn_burinlaw05_sign : fnOf 27 = some R_burinlaw05_sign := by kernel_rfl
theorem fn_cond_Number : fnOf 29 = some R_cond_Number := by kernel_rfl
theorem fn_burinlaw05_said : fnOf 30 = some R_burinlaw05_said := by kernel_rfl
theorem fn_cond_eval_choice : fnOf 38 = some R_cond_eval_choice := by kernel_rfl
theorem fn_token_scan_toks : fnOf 40 = some R_token_scan_toks := by kernel_rfl
theorem fn_cond_isSuffix : fnOf 43 = some R_cond_isSuffix := by kernel_rfl
theorem fn_strconv_ParseUint : fnOf 44 = some R_strconv_ParseUint := by kernel_rfl
theorem fn_cond_eval_chain : fnOf 60 = some R_cond_eval_chain := by kernel_rfl
theorem fn_cond_eval_take : fnOf 61 = some R_cond_eval_take := by kernel_rfl
theorem fn_cond_eval_fails : fnOf 62 = some R_cond_eval_fails := by kernel_rfl
theorem fn_token_scan_toks_1 : fnOf 65 = some R_token_scan_toks_1 := by kernel_rfl
theorem fn_token_scan_skip : fnOf 66 = some R_token_scan_skip := by kernel_rfl
theorem fn_token_next : fnOf 67 = some R_token_next := by kernel_rfl
theorem fn_internal_strconv_ParseUint : fnOf 71 = some R_internal_strconv_ParseUint := by kernel_rfl
theorem fn_strconv_toError : fnOf 72 = some R_strconv_toError := by kernel_rfl
theorem fn_cond_Char : fnOf 81 = some R_cond_Char := by kernel_rfl
theorem fn_cond_eval_unary : fnOf 86 = some R_cond_eval_unary := by kernel_rfl
theorem fn_cond_eval_sign : fnOf 87 = some R_cond_eval_sign := by kernel_rfl
theorem fn_cond_levelOf : fnOf 88 = some R_cond_levelOf := by kernel_rfl
theorem fn_cond_truth : fnOf 89 = some R_cond_truth := by kernel_rfl
theorem fn_cond_eval_binary : fnOf 90 = some R_cond_eval_binary := by kernel_rfl
theorem fn_token_isLetter : fnOf 97 = some R_token_isLetter := by kernel_rfl
theorem fn_token_many : fnOf 98 = some R_token_many := by kernel_rfl
theorem fn_token_next_1 : fnOf 99 = some R_token_next_1 := by kernel_rfl
theorem fn_token_isWord : fnOf 100 = some R_token_isWord := by kernel_rfl
theorem fn_token_isDigit : fnOf 101 = some R_token_isDigit := by kernel_rfl
theorem fn_token_numeric : fnOf 102 = some R_token_numeric := by kernel_rfl
theorem fn_token_quoted : fnOf 103 = some R_token_quoted := by kernel_rfl
theorem fn_internal_strconv_lower : fnOf 108 = some R_internal_strconv_lower := by kernel_rfl
theorem fn_internal_strconv_underscoreOK : fnOf 109 = some R_internal_strconv_underscoreOK := by kernel_rfl
theorem fn_strconv_syntaxError : fnOf 110 = some R_strconv_syntaxError := by kernel_rfl
theorem fn_strconv_rangeError : fnOf 111 = some R_strconv_rangeError := by kernel_rfl
theorem fn_cond_escape : fnOf 120 = some R_cond_escape := by kernel_rfl
theorem fn_cond_eval_atom : fnOf 125 = some R_cond_eval_atom := by kernel_rfl
theorem fn_cond_eval_divided : fnOf 126 = some R_cond_eval_divided := by kernel_rfl
theorem fn_cond_eval_shifted : fnOf 127 = some R_cond_eval_shifted := by kernel_rfl
theorem fn_cond_compared : fnOf 128 = some R_cond_compared := by kernel_rfl
theorem fn_token_numeric_1 : fnOf 134 = some R_token_numeric_1 := by kernel_rfl
theorem fn_cond_digitsOf : fnOf 154 = some R_cond_digitsOf := by kernel_rfl
end Go.Proofs.YtmngkcpobmhnoaaGreatDoor.Sim
