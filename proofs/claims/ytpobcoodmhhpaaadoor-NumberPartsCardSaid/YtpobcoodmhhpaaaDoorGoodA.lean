/- The functions' text is the program's. -/
import Derived.Test.YtpobcoodmhhpaaaDoorIrA
import Derived.Test.YtpobcoodmhhpaaaDoorProg
import Derived.KernelRfl
set_option linter.unusedSimpArgs false
set_option linter.unusedVariables false
namespace Go.IR
open Go.FR Go.Proofs
set_option maxRecDepth 100000
theorem G_glyphiclaw9_NumberParts:GoodF Tryd.prog cfg f_glyphiclaw9_NumberParts F_glyphiclaw9_NumberParts:=good_body Tryd.func9 (by kernel_rfl) (by kernel_rfl) (by kernel_rfl)
theorem G_glyphicworld_Number:GoodF Tryd.prog cfg f_glyphicworld_Number F_glyphicworld_Number:=good_body Tryd.func15 (by kernel_rfl) (by kernel_rfl) (by kernel_rfl)
theorem G_glyphiclaw9_first:GoodF Tryd.prog cfg f_glyphiclaw9_first F_glyphiclaw9_first:=good_body Tryd.func21 (by kernel_rfl) (by kernel_rfl) (by kernel_rfl)
theorem G_number_Parse:GoodF Tryd.prog cfg f_number_Parse F_number_Parse:=good_body Tryd.func22 (by kernel_rfl) (by kernel_rfl) (by kernel_rfl)
theorem G_number_Whole:GoodF Tryd.prog cfg f_number_Whole F_number_Whole:=good_body Tryd.func24 (by kernel_rfl) (by kernel_rfl) (by kernel_rfl)
theorem G_number_Show:GoodF Tryd.prog cfg f_number_Show F_number_Show:=good_body Tryd.func27 (by kernel_rfl) (by kernel_rfl) (by kernel_rfl)
theorem G_glyphiclaw9_places:GoodF Tryd.prog cfg f_glyphiclaw9_places F_glyphiclaw9_places:=good_body Tryd.func29 (by kernel_rfl) (by kernel_rfl) (by kernel_rfl)
theorem G_strings_CutPrefix:GoodF Tryd.prog cfg f_strings_CutPrefix F_strings_CutPrefix:=good_body Tryd.func48 (by kernel_rfl) (by kernel_rfl) (by kernel_rfl)
theorem G_strings_Cut:GoodF Tryd.prog cfg f_strings_Cut F_strings_Cut:=good_body Tryd.func49 (by kernel_rfl) (by kernel_rfl) (by kernel_rfl)
theorem G_number_all:GoodF Tryd.prog cfg f_number_all F_number_all:=good_body Tryd.func50 (by kernel_rfl) (by kernel_rfl) (by kernel_rfl)
theorem G_strings_Repeat:GoodF Tryd.prog cfg f_strings_Repeat F_strings_Repeat:=good_body Tryd.func51 (by kernel_rfl) (by kernel_rfl) (by kernel_rfl)
theorem G_strconv_Atoi:GoodF Tryd.prog cfg f_strconv_Atoi F_strconv_Atoi:=good_body Tryd.func54 (by kernel_rfl) (by kernel_rfl) (by kernel_rfl)
theorem G_strconv_FormatInt:GoodF Tryd.prog cfg f_strconv_FormatInt F_strconv_FormatInt:=good_body Tryd.func56 (by kernel_rfl) (by kernel_rfl) (by kernel_rfl)
theorem G_strings_TrimRight:GoodF Tryd.prog cfg f_strings_TrimRight F_strings_TrimRight:=good_body Tryd.func57 (by kernel_rfl) (by kernel_rfl) (by kernel_rfl)
theorem G_strings_HasPrefix:GoodF Tryd.prog cfg f_strings_HasPrefix F_strings_HasPrefix:=good_body Tryd.func60 (by kernel_rfl) (by kernel_rfl) (by kernel_rfl)
theorem G_internal_stringslite_CutPrefix:GoodF Tryd.prog cfg f_internal_stringslite_CutPrefix F_internal_stringslite_CutPrefix:=good_body Tryd.func77 (by kernel_rfl) (by kernel_rfl) (by kernel_rfl)
theorem G_internal_stringslite_Cut:GoodF Tryd.prog cfg f_internal_stringslite_Cut F_internal_stringslite_Cut:=good_body Tryd.func78 (by kernel_rfl) (by kernel_rfl) (by kernel_rfl)
theorem G_math_bits_Mul:GoodF Tryd.prog cfg f_math_bits_Mul F_math_bits_Mul:=good_body Tryd.func79 (by kernel_rfl) (by kernel_rfl) (by kernel_rfl)
theorem G_strings_Builder_Grow:GoodF Tryd.prog cfg f_strings_Builder_Grow F_strings_Builder_Grow:=good_body Tryd.func80 (by kernel_rfl) (by kernel_rfl) (by kernel_rfl)
theorem G_strings_Builder_WriteString:GoodF Tryd.prog cfg f_strings_Builder_WriteString F_strings_Builder_WriteString:=good_body Tryd.func81 (by kernel_rfl) (by kernel_rfl) (by kernel_rfl)
theorem G_strings_Builder_Len:GoodF Tryd.prog cfg f_strings_Builder_Len F_strings_Builder_Len:=good_body Tryd.func82 (by kernel_rfl) (by kernel_rfl) (by kernel_rfl)
theorem G_strings_Builder_String:GoodF Tryd.prog cfg f_strings_Builder_String F_strings_Builder_String:=good_body Tryd.func83 (by kernel_rfl) (by kernel_rfl) (by kernel_rfl)
theorem G_internal_strconv_Atoi:GoodF Tryd.prog cfg f_internal_strconv_Atoi F_internal_strconv_Atoi:=good_body Tryd.func84 (by kernel_rfl) (by kernel_rfl) (by kernel_rfl)
theorem G_internal_strconv_FormatInt:GoodF Tryd.prog cfg f_internal_strconv_FormatInt F_internal_strconv_FormatInt:=good_body Tryd.func86 (by kernel_rfl) (by kernel_rfl) (by kernel_rfl)
theorem G_strings_trimRightByte:GoodF Tryd.prog cfg f_strings_trimRightByte F_strings_trimRightByte:=good_body Tryd.func87 (by kernel_rfl) (by kernel_rfl) (by kernel_rfl)
theorem G_internal_stringslite_HasPrefix:GoodF Tryd.prog cfg f_internal_stringslite_HasPrefix F_internal_stringslite_HasPrefix:=good_body Tryd.func91 (by kernel_rfl) (by kernel_rfl) (by kernel_rfl)
theorem G_internal_stringslite_IndexByte:GoodF Tryd.prog cfg f_internal_stringslite_IndexByte F_internal_stringslite_IndexByte:=good_body Tryd.func94 (by kernel_rfl) (by kernel_rfl) (by kernel_rfl)
theorem G_internal_stringslite_Index:GoodF Tryd.prog cfg f_internal_stringslite_Index F_internal_stringslite_Index:=good_body Tryd.func101 (by kernel_rfl) (by kernel_rfl) (by kernel_rfl)
theorem G_math_bits_Mul32:GoodF Tryd.prog cfg f_math_bits_Mul32 F_math_bits_Mul32:=good_body Tryd.func102 (by kernel_rfl) (by kernel_rfl) (by kernel_rfl)
theorem G_math_bits_Mul64:GoodF Tryd.prog cfg f_math_bits_Mul64 F_math_bits_Mul64:=good_body Tryd.func103 (by kernel_rfl) (by kernel_rfl) (by kernel_rfl)
theorem G_strings_Builder_copyCheck:GoodF Tryd.prog cfg f_strings_Builder_copyCheck F_strings_Builder_copyCheck:=good_body Tryd.func104 (by kernel_rfl) (by kernel_rfl) (by kernel_rfl)
theorem G_strings_Builder_grow:GoodF Tryd.prog cfg f_strings_Builder_grow F_strings_Builder_grow:=good_body Tryd.func105 (by kernel_rfl) (by kernel_rfl) (by kernel_rfl)
theorem G_internal_strconv_small:GoodF Tryd.prog cfg f_internal_strconv_small F_internal_strconv_small:=good_body Tryd.func111 (by kernel_rfl) (by kernel_rfl) (by kernel_rfl)
theorem G_internal_strconv_numDigits:GoodF Tryd.prog cfg f_internal_strconv_numDigits F_internal_strconv_numDigits:=good_body Tryd.func112 (by kernel_rfl) (by kernel_rfl) (by kernel_rfl)
theorem G_internal_strconv_formatBase10:GoodF Tryd.prog cfg f_internal_strconv_formatBase10 F_internal_strconv_formatBase10:=good_body Tryd.func113 (by kernel_rfl) (by kernel_rfl) (by kernel_rfl)
theorem G_internal_bytealg_IndexByteString:GoodF Tryd.prog cfg f_internal_bytealg_IndexByteString F_internal_bytealg_IndexByteString:=good_prim Tryd.func118 (by kernel_rfl) (by kernel_rfl) (by kernel_rfl) (by kernel_rfl)
theorem G_internal_strconv_log10Pow2:GoodF Tryd.prog cfg f_internal_strconv_log10Pow2 F_internal_strconv_log10Pow2:=good_body Tryd.func128 (by kernel_rfl) (by kernel_rfl) (by kernel_rfl)
theorem G_math_bits_Len64:GoodF Tryd.prog cfg f_math_bits_Len64 F_math_bits_Len64:=good_body Tryd.func129 (by kernel_rfl) (by kernel_rfl) (by kernel_rfl)
theorem G_internal_strconv_bool2__int:GoodF Tryd.prog cfg f_internal_strconv_bool2__int F_internal_strconv_bool2__int:=good_body Tryd.func130 (by kernel_rfl) (by kernel_rfl) (by kernel_rfl)
theorem good:AllGood Tryd.prog cfg envL:=⟨G_glyphiclaw9_NumberParts,G_glyphicworld_Number,G_glyphiclaw9_first,G_number_Parse,G_number_Whole,G_number_Show,G_glyphiclaw9_places,G_strings_CutPrefix,G_strings_Cut,G_number_all,G_strings_Repeat,G_strconv_Atoi,G_strconv_FormatInt,G_strings_TrimRight,G_strings_HasPrefix,G_internal_stringslite_CutPrefix,G_internal_stringslite_Cut,G_math_bits_Mul,G_strings_Builder_Grow,G_strings_Builder_WriteString,G_strings_Builder_Len,G_strings_Builder_String,G_internal_strconv_Atoi,G_internal_strconv_FormatInt,G_strings_trimRightByte,G_internal_stringslite_HasPrefix,G_internal_stringslite_IndexByte,G_internal_stringslite_Index,G_math_bits_Mul32,G_math_bits_Mul64,G_strings_Builder_copyCheck,G_strings_Builder_grow,G_internal_strconv_small,G_internal_strconv_numDigits,G_internal_strconv_formatBase10,G_internal_bytealg_IndexByteString,G_internal_strconv_log10Pow2,G_math_bits_Len64,G_internal_strconv_bool2__int,trivial⟩
end Go.IR
