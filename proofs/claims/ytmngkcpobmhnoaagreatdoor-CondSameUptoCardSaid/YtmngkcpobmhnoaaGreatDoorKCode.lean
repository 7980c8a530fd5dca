/- The table of the compiled functions. Printed by a program. -/
import Derived.Test.YtmngkcpobmhnoaaGreatDoorKCode1
set_option linter.all false
namespace Go.Proofs.YtmngkcpobmhnoaaGreatDoor.Sim
def fns : List (Nat × RFunc) := [(9, R_burinlaw05_CondSame), (21, R_burinlaw05_shown), (22, R_cond_Eval), (24, R_token_Lex), (25, R_burinlaw05_lexed), (29, R_cond_Number), (38, R_cond_eval_choice), (40, R_token_scan_toks), (43, R_cond_isSuffix), (44, R_strconv_ParseUint), (60, R_cond_eval_chain), (61, R_cond_eval_take), (62, R_cond_eval_fails), (65, R_token_scan_toks_1), (66, R_token_scan_skip), (67, R_token_next), (71, R_internal_strconv_ParseUint), (72, R_strconv_toError), (81, R_cond_Char), (86, R_cond_eval_unary), (87, R_cond_eval_sign), (88, R_cond_levelOf), (89, R_cond_truth), (90, R_cond_eval_binary), (97, R_token_isLetter), (98, R_token_many), (99, R_token_next_1), (100, R_token_isWord), (101, R_token_isDigit), (102, R_token_numeric), (103, R_token_quoted), (108, R_internal_strconv_lower), (109, R_internal_strconv_underscoreOK), (110, R_strconv_syntaxError), (111, R_strconv_rangeError), (120, R_cond_escape), (125, R_cond_eval_atom), (126, R_cond_eval_divided), (127, R_cond_eval_shifted), (128, R_cond_compared), (134, R_token_numeric_1), (154, R_cond_digitsOf)]
def fnOf (g : FuncId) : Option RFunc := fns.lookup g
theorem fn_burinlaw05_CondSame : fnOf 9 = some R_burinlaw05_CondSame := by kernel_rfl
theorem fn_cond_Number : fnOf 29 = some R_cond_Number := by kernel_rfl
theorem fn_cond_isSuffix : fnOf 43 = some R_cond_isSuffix := by kernel_rfl
theorem fn_strconv_ParseUint : fnOf 44 = some R_strconv_ParseUint := by kernel_rfl
theorem fn_internal_strconv_ParseUint : fnOf 71 = some R_internal_strconv_ParseUint := by kernel_rfl
theorem fn_strconv_toError : fnOf 72 = some R_strconv_toError := by kernel_rfl
theorem fn_internal_strconv_lower : fnOf 108 = some R_internal_strconv_lower := by kernel_rfl
theorem fn_internal_strconv_underscoreOK : fnOf 109 = some R_internal_strconv_underscoreOK := by kernel_rfl
theorem fn_strconv_syntaxError : fnOf 110 = some R_strconv_syntaxError := by kernel_rfl
theorem fn_strconv_rangeError : fnOf 111 = some R_strconv_rangeError := by kernel_rfl
end Go.Proofs.YtmngkcpobmhnoaaGreatDoor.Sim
