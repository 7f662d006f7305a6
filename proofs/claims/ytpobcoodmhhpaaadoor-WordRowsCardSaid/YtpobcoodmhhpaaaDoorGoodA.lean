/- The functions' text is the program's. -/
import Derived.Test.YtpobcoodmhhpaaaDoorIrA
import Derived.Test.YtpobcoodmhhpaaaDoorProg
import Derived.KernelRfl
set_option linter.unusedSimpArgs false
set_option linter.unusedVariables false
namespace Go.IR
open Go.FR Go.Proofs
set_option maxRecDepth 100000
theorem G_glyphiclaw8_WordRows:GoodF Tryd.prog cfg f_glyphiclaw8_WordRows F_glyphiclaw8_WordRows:=good_body Tryd.func3 (by kernel_rfl) (by kernel_rfl) (by kernel_rfl)
theorem G_glyphiclaw8_first:GoodF Tryd.prog cfg f_glyphiclaw8_first F_glyphiclaw8_first:=good_body Tryd.func11 (by kernel_rfl) (by kernel_rfl) (by kernel_rfl)
theorem G_word_Split:GoodF Tryd.prog cfg f_word_Split F_word_Split:=good_body Tryd.func12 (by kernel_rfl) (by kernel_rfl) (by kernel_rfl)
theorem G_word_IsName:GoodF Tryd.prog cfg f_word_IsName F_word_IsName:=good_body Tryd.func16 (by kernel_rfl) (by kernel_rfl) (by kernel_rfl)
theorem G_word_gap:GoodF Tryd.prog cfg f_word_gap F_word_gap:=good_body Tryd.func30 (by kernel_rfl) (by kernel_rfl) (by kernel_rfl)
theorem G_word_next:GoodF Tryd.prog cfg f_word_next F_word_next:=good_body Tryd.func31 (by kernel_rfl) (by kernel_rfl) (by kernel_rfl)
theorem G_word_isLow:GoodF Tryd.prog cfg f_word_isLow F_word_isLow:=good_body Tryd.func35 (by kernel_rfl) (by kernel_rfl) (by kernel_rfl)
theorem G_word_name:GoodF Tryd.prog cfg f_word_name F_word_name:=good_body Tryd.func36 (by kernel_rfl) (by kernel_rfl) (by kernel_rfl)
theorem G_word_reserved:GoodF Tryd.prog cfg f_word_reserved F_word_reserved:=good_body Tryd.func37 (by kernel_rfl) (by kernel_rfl) (by kernel_rfl)
theorem G_word_span:GoodF Tryd.prog cfg f_word_span F_word_span:=good_body Tryd.func58 (by kernel_rfl) (by kernel_rfl) (by kernel_rfl)
theorem G_word_isBlank:GoodF Tryd.prog cfg f_word_isBlank F_word_isBlank:=good_body Tryd.func59 (by kernel_rfl) (by kernel_rfl) (by kernel_rfl)
theorem G_strings_HasPrefix:GoodF Tryd.prog cfg f_strings_HasPrefix F_strings_HasPrefix:=good_body Tryd.func60 (by kernel_rfl) (by kernel_rfl) (by kernel_rfl)
theorem G_word_gap_q1:GoodF Tryd.prog cfg f_word_gap_q1 F_word_gap_q1:=good_body Tryd.func61 (by kernel_rfl) (by kernel_rfl) (by kernel_rfl)
theorem G_word_isDigit:GoodF Tryd.prog cfg f_word_isDigit F_word_isDigit:=good_body Tryd.func62 (by kernel_rfl) (by kernel_rfl) (by kernel_rfl)
theorem G_word_number:GoodF Tryd.prog cfg f_word_number F_word_number:=good_body Tryd.func63 (by kernel_rfl) (by kernel_rfl) (by kernel_rfl)
theorem G_word_color:GoodF Tryd.prog cfg f_word_color F_word_color:=good_body Tryd.func64 (by kernel_rfl) (by kernel_rfl) (by kernel_rfl)
theorem G_strings_IndexByte:GoodF Tryd.prog cfg f_strings_IndexByte F_strings_IndexByte:=good_body Tryd.func65 (by kernel_rfl) (by kernel_rfl) (by kernel_rfl)
theorem G_word_inWord:GoodF Tryd.prog cfg f_word_inWord F_word_inWord:=good_body Tryd.func66 (by kernel_rfl) (by kernel_rfl) (by kernel_rfl)
theorem G_word_inName:GoodF Tryd.prog cfg f_word_inName F_word_inName:=good_body Tryd.func68 (by kernel_rfl) (by kernel_rfl) (by kernel_rfl)
theorem G_slices_Contains__string_string:GoodF Tryd.prog cfg f_slices_Contains__string_string F_slices_Contains__string_string:=good_body Tryd.func69 (by kernel_rfl) (by kernel_rfl) (by kernel_rfl)
theorem G_strings_Fields:GoodF Tryd.prog cfg f_strings_Fields F_strings_Fields:=good_body Tryd.func70 (by kernel_rfl) (by kernel_rfl) (by kernel_rfl)
theorem G_internal_stringslite_HasPrefix:GoodF Tryd.prog cfg f_internal_stringslite_HasPrefix F_internal_stringslite_HasPrefix:=good_body Tryd.func91 (by kernel_rfl) (by kernel_rfl) (by kernel_rfl)
theorem G_word_ends:GoodF Tryd.prog cfg f_word_ends F_word_ends:=good_body Tryd.func92 (by kernel_rfl) (by kernel_rfl) (by kernel_rfl)
theorem G_word_isHex:GoodF Tryd.prog cfg f_word_isHex F_word_isHex:=good_body Tryd.func93 (by kernel_rfl) (by kernel_rfl) (by kernel_rfl)
theorem G_internal_stringslite_IndexByte:GoodF Tryd.prog cfg f_internal_stringslite_IndexByte F_internal_stringslite_IndexByte:=good_body Tryd.func94 (by kernel_rfl) (by kernel_rfl) (by kernel_rfl)
theorem G_slices_Index__string_string:GoodF Tryd.prog cfg f_slices_Index__string_string F_slices_Index__string_string:=good_body Tryd.func97 (by kernel_rfl) (by kernel_rfl) (by kernel_rfl)
theorem G_internal_bytealg_IndexByteString:GoodF Tryd.prog cfg f_internal_bytealg_IndexByteString F_internal_bytealg_IndexByteString:=good_prim Tryd.func118 (by kernel_rfl) (by kernel_rfl) (by kernel_rfl) (by kernel_rfl)
theorem good:AllGood Tryd.prog cfg envL:=⟨G_glyphiclaw8_WordRows,G_glyphiclaw8_first,G_word_Split,G_word_IsName,G_word_gap,G_word_next,G_word_isLow,G_word_name,G_word_reserved,G_word_span,G_word_isBlank,G_strings_HasPrefix,G_word_gap_q1,G_word_isDigit,G_word_number,G_word_color,G_strings_IndexByte,G_word_inWord,G_word_inName,G_slices_Contains__string_string,G_strings_Fields,G_internal_stringslite_HasPrefix,G_word_ends,G_word_isHex,G_internal_stringslite_IndexByte,G_slices_Index__string_string,G_internal_bytealg_IndexByteString,trivial⟩
end Go.IR
