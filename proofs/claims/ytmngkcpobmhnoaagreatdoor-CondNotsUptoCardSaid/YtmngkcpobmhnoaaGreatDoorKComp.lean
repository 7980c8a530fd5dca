/- What the compiler gives. Printed by a program. -/
import Derived.Test.YtmngkcpobmhnoaaGreatDoorProg
import Derived.Test.YtmngkcpobmhnoaaGreatDoorKEnv
set_option linter.all false
namespace Go.Proofs.YtmngkcpobmhnoaaGreatDoor.Sim
open Go.Proofs
set_option maxRecDepth 100000
theorem comp_burinlaw05_CondNots : compile Tryz.prog C 10 = some R_burinlaw05_CondNots := by kernel_rfl
theorem comp_burinlaw05_shown : compile Tryz.prog C 21 = some R_burinlaw05_shown := by kernel_rfl
theorem comp_cond_Eval : compile Tryz.prog C 22 = some R_cond_Eval := by kernel_rfl
theorem comp_token_Lex : compile Tryz.prog C 24 = some R_token_Lex := by kernel_rfl
theorem comp_burinlaw05_lexed : compile Tryz.prog C 25 = some R_burinlaw05_lexed := by kernel_rfl
theorem comp_burinlaw05_closed : compile Tryz.prog C 26 = some R_burinlaw05_closed := by kernel_rfl
theorem comp_burinlaw05_sign : compile Tryz.prog C 27 = some R_burinlaw05_sign := by kernel_rfl
theorem comp_cond_Number : compile Tryz.prog C 29 = some R_cond_Number := by kernel_rfl
theorem comp_burinlaw05_said : compile Tryz.prog C 30 = some R_burinlaw05_said := by kernel_rfl
theorem comp_cond_eval_choice : compile Tryz.prog C 38 = some R_cond_eval_choice := by kernel_rfl
theorem comp_token_scan_toks : compile Tryz.prog C 40 = some R_token_scan_toks := by kernel_rfl
theorem comp_cond_isSuffix : compile Tryz.prog C 43 = some R_cond_isSuffix := by kernel_rfl
theorem comp_strconv_ParseUint : compile Tryz.prog C 44 = some R_strconv_ParseUint := by kernel_rfl
theorem comp_cond_eval_chain : compile Tryz.prog C 60 = some R_cond_eval_chain := by kernel_rfl
theorem comp_cond_eval_take : compile Tryz.prog C 61 = some R_cond_eval_take := by kernel_rfl
theorem comp_cond_eval_fails : compile Tryz.prog C 62 = some R_cond_eval_fails := by kernel_rfl
theorem comp_token_scan_toks_1 : compile Tryz.prog C 65 = some R_token_scan_toks_1 := by kernel_rfl
theorem comp_token_scan_skip : compile Tryz.prog C 66 = some R_token_scan_skip := by kernel_rfl
theorem comp_token_next : compile Tryz.prog C 67 = some R_token_next := by kernel_rfl
theorem comp_internal_strconv_ParseUint : compile Tryz.prog C 71 = some R_internal_strconv_ParseUint := by kernel_rfl
theorem comp_strconv_toError : compile Tryz.prog C 72 = some R_strconv_toError := by kernel_rfl
theorem comp_cond_Char : compile Tryz.prog C 81 = some R_cond_Char := by kernel_rfl
theorem comp_cond_eval_unary : compile Tryz.prog C 86 = some R_cond_eval_unary := by kernel_rfl
theorem comp_cond_eval_sign : compile Tryz.prog C 87 = some R_cond_eval_sign := by kernel_rfl
theorem comp_cond_levelOf : compile Tryz.prog C 88 = some R_cond_levelOf := by kernel_rfl
theorem comp_cond_truth : compile Tryz.prog C 89 = some R_cond_truth := by kernel_rfl
theorem comp_cond_eval_binary : compile Tryz.prog C 90 = some R_cond_eval_binary := by kernel_rfl
theorem comp_burinref05_truth : compile Tryz.prog C 93 = some R_burinref05_truth := by kernel_rfl
theorem comp_burinref05_parser_apply : compile Tryz.prog C 94 = some R_burinref05_parser_apply := by kernel_rfl
theorem comp_token_isLetter : compile Tryz.prog C 97 = some R_token_isLetter := by kernel_rfl
theorem comp_token_many : compile Tryz.prog C 98 = some R_token_many := by kernel_rfl
theorem comp_token_next_1 : compile Tryz.prog C 99 = some R_token_next_1 := by kernel_rfl
theorem comp_token_isWord : compile Tryz.prog C 100 = some R_token_isWord := by kernel_rfl
theorem comp_token_isDigit : compile Tryz.prog C 101 = some R_token_isDigit := by kernel_rfl
theorem comp_token_numeric : compile Tryz.prog C 102 = some R_token_numeric := by kernel_rfl
theorem comp_token_quoted : compile Tryz.prog C 103 = some R_token_quoted := by kernel_rfl
theorem comp_internal_strconv_lower : compile Tryz.prog C 108 = some R_internal_strconv_lower := by kernel_rfl
theorem comp_internal_strconv_underscoreOK : compile Tryz.prog C 109 = some R_internal_strconv_underscoreOK := by kernel_rfl
theorem comp_strconv_syntaxError : compile Tryz.prog C 110 = some R_strconv_syntaxError := by kernel_rfl
theorem comp_strconv_rangeError : compile Tryz.prog C 111 = some R_strconv_rangeError := by kernel_rfl
theorem comp_cond_escape : compile Tryz.prog C 120 = some R_cond_escape := by kernel_rfl
theorem comp_cond_eval_atom : compile Tryz.prog C 125 = some R_cond_eval_atom := by kernel_rfl
theorem comp_cond_eval_divided : compile Tryz.prog C 126 = some R_cond_eval_divided := by kernel_rfl
theorem comp_cond_eval_shifted : compile Tryz.prog C 127 = some R_cond_eval_shifted := by kernel_rfl
theorem comp_cond_compared : compile Tryz.prog C 128 = some R_cond_compared := by kernel_rfl
theorem comp_burinref05_parser_divide : compile Tryz.prog C 130 = some R_burinref05_parser_divide := by kernel_rfl
theorem comp_burinref05_parser_shift : compile Tryz.prog C 131 = some R_burinref05_parser_shift := by kernel_rfl
theorem comp_burinref05_compare : compile Tryz.prog C 132 = some R_burinref05_compare := by kernel_rfl
theorem comp_token_numeric_1 : compile Tryz.prog C 134 = some R_token_numeric_1 := by kernel_rfl
theorem comp_cond_digitsOf : compile Tryz.prog C 154 = some R_cond_digitsOf := by kernel_rfl
theorem comp_all : ∀ g R, fnOf g = some R → compile Tryz.prog C g = some R := by
  intro g R h
  have key : ∀ (l : List (Nat × RFunc)), (∀ p ∈ l, compile Tryz.prog C p.1 = some p.2) → l.lookup g = some R → compile Tryz.prog C g = some R := by
    intro l
    induction l with
    | nil => intro _ h; cases h
    | cons p ps ih =>
      intro hp h
      obtain ⟨a, b⟩ := p
      rw [List.lookup_cons] at h
      split at h
      · rename_i e
        have e' : g = a := by simpa using e
        cases h; rw [e']; exact hp (a, R) List.mem_cons_self
      · exact ih (fun q hq => hp q (by simp [hq])) h
  refine key fns ?_ h
  unfold fns
  exact List.forall_mem_cons.2 ⟨comp_burinlaw05_CondNots, List.forall_mem_cons.2 ⟨comp_burinlaw05_shown, List.forall_mem_cons.2 ⟨comp_cond_Eval, List.forall_mem_cons.2 ⟨comp_token_Lex, List.forall_mem_cons.2 ⟨comp_burinlaw05_lexed, List.forall_mem_cons.2 ⟨comp_burinlaw05_closed, List.forall_mem_cons.2 ⟨comp_burinlaw05_sign, List.forall_mem_cons.2 ⟨comp_cond_Number, List.forall_mem_cons.2 ⟨comp_burinlaw05_said, List.forall_mem_cons.2 ⟨comp_cond_eval_choice, List.forall_mem_cons.2 ⟨comp_token_scan_toks, List.forall_mem_cons.2 ⟨comp_cond_isSuffix, List.forall_mem_cons.2 ⟨comp_strconv_ParseUint, List.forall_mem_cons.2 ⟨comp_cond_eval_chain, List.forall_mem_cons.2 ⟨comp_cond_eval_take, List.forall_mem_cons.2 ⟨comp_cond_eval_fails, List.forall_mem_cons.2 ⟨comp_token_scan_toks_1, List.forall_mem_cons.2 ⟨comp_token_scan_skip, List.forall_mem_cons.2 ⟨comp_token_next, List.forall_mem_cons.2 ⟨comp_internal_strconv_ParseUint, List.forall_mem_cons.2 ⟨comp_strconv_toError, List.forall_mem_cons.2 ⟨comp_cond_Char, List.forall_mem_cons.2 ⟨comp_cond_eval_unary, List.forall_mem_cons.2 ⟨comp_cond_eval_sign, List.forall_mem_cons.2 ⟨comp_cond_levelOf, List.forall_mem_cons.2 ⟨comp_cond_truth, List.forall_mem_cons.2 ⟨comp_cond_eval_binary, List.forall_mem_cons.2 ⟨comp_burinref05_truth, List.forall_mem_cons.2 ⟨comp_burinref05_parser_apply, List.forall_mem_cons.2 ⟨comp_token_isLetter, List.forall_mem_cons.2 ⟨comp_token_many, List.forall_mem_cons.2 ⟨comp_token_next_1, List.forall_mem_cons.2 ⟨comp_token_isWord, List.forall_mem_cons.2 ⟨comp_token_isDigit, List.forall_mem_cons.2 ⟨comp_token_numeric, List.forall_mem_cons.2 ⟨comp_token_quoted, List.forall_mem_cons.2 ⟨comp_internal_strconv_lower, List.forall_mem_cons.2 ⟨comp_internal_strconv_underscoreOK, List.forall_mem_cons.2 ⟨comp_strconv_syntaxError, List.forall_mem_cons.2 ⟨comp_strconv_rangeError, List.forall_mem_cons.2 ⟨comp_cond_escape, List.forall_mem_cons.2 ⟨comp_cond_eval_atom, List.forall_mem_cons.2 ⟨comp_cond_eval_divided, List.forall_mem_cons.2 ⟨comp_cond_eval_shifted, List.forall_mem_cons.2 ⟨comp_cond_compared, List.forall_mem_cons.2 ⟨comp_burinref05_parser_divide, List.forall_mem_cons.2 ⟨comp_burinref05_parser_shift, List.forall_mem_cons.2 ⟨comp_burinref05_compare, List.forall_mem_cons.2 ⟨comp_token_numeric_1, List.forall_mem_cons.2 ⟨comp_cond_digitsOf, (fun _ h => by cases h)⟩⟩⟩⟩⟩⟩⟩⟩⟩⟩⟩⟩⟩⟩⟩⟩⟩⟩⟩⟩⟩⟩⟩⟩⟩⟩⟩⟩⟩⟩⟩⟩⟩⟩⟩⟩⟩⟩⟩⟩⟩⟩⟩⟩⟩⟩⟩⟩⟩⟩
end Go.Proofs.YtmngkcpobmhnoaaGreatDoor.Sim
