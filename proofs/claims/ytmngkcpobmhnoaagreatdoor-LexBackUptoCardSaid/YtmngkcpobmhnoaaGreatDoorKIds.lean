/- The numbers of the functions, by name. Printed by a program. -/
import Derived.Test.YtmngkcpobmhnoaaGreatDoorKS1
set_option linter.all false
namespace Go.Proofs.YtmngkcpobmhnoaaGreatDoor.Sim
abbrev F_cond_cutLeft : Nat := 42
abbrev F_internal_stringslite_Clone : Nat := 142
abbrev F_math_bits_Len64 : Nat := 45
abbrev F_strings_Contains : Nat := 70
abbrev F_strings_ContainsAny : Nat := 117
abbrev F_strings_Cut : Nat := 96
abbrev F_strings_CutPrefix : Nat := 118
abbrev F_strings_CutSuffix : Nat := 119
abbrev F_strings_HasPrefix : Nat := 41
abbrev F_strings_Index : Nat := 107
abbrev F_strings_IndexByte : Nat := 82
abbrev F_strings_ToLower : Nat := 69
abbrev F_strings_TrimLeft : Nat := 155
abbrev T_internal_strconv_Error : Nat := 145
abbrev V_internal_bytealg_MaxLen : Nat := 4
abbrev V_internal_strconv_uint64pow10 : Nat := 5
abbrev V_strconv_ErrRange : Nat := 2
abbrev V_strconv_ErrSyntax : Nat := 1
abbrev V_token_signs : Nat := 0
abbrev V_unicode_CaseRanges : Nat := 3
abbrev V_unicode_utf8_acceptRanges : Nat := 7
abbrev V_unicode_utf8_first : Nat := 6
abbrev F_strconv_FormatUint : Nat := 77
abbrev F_strings_Builder_String : Nat := 52
abbrev F_strings_Builder_copyCheck : Nat := 74
abbrev T_strings_Builder : Nat := 98
abbrev F_strings_Builder_WriteByte : Nat := 50
abbrev F_strings_Builder_WriteString : Nat := 76
abbrev F_burinlaw07_shown : Nat := 14
def pmL : List Nat := [3, 4, 5, 6, 7, 8, 9, 10, 11, 12, 13, 14, 15, 16, 17, 18, 19, 20, 21, 22, 23, 24, 25, 26, 27, 28, 29, 30, 31, 32, 33, 34, 36, 37, 43, 44, 46, 47, 48, 49, 53, 55, 56, 57, 58, 59, 67, 68, 71, 72, 73, 78, 79, 80, 81, 83, 84, 85, 88, 89, 92, 93, 97, 100, 101, 102, 103, 106, 108, 109, 112, 113, 116, 120, 121, 122, 123, 124, 128, 132, 133, 136, 137, 140, 141, 143, 144, 145, 146, 147, 148, 150, 151, 152, 153, 154, 156, 157, 158, 159, 160, 161, 162, 163, 164, 165, 166, 167, 168, 169, 170, 171, 172, 173, 174, 175, 177, 178, 179, 180, 181, 182, 183, 184, 185, 186, 187, 188, 189, 190, 191, 192, 224]
def orcL : List Nat := [41, 42, 45, 69, 70, 77, 82, 96, 107, 117, 118, 119, 142, 155]
end Go.Proofs.YtmngkcpobmhnoaaGreatDoor.Sim
