/- The functions' text is the program's. -/
import Derived.Test.YthojeoldjhghpabDoorIrA
import Derived.Test.YthojeoldjhghpabDoorProg
import Derived.KernelRfl
namespace Go.IR
open Go.FR Go.Proofs
set_option linter.unusedVariables false
set_option maxRecDepth 100000
theorem G_glyphiclaw3_ColorBack : GoodF Tryd.prog cfg f_glyphiclaw3_ColorBack F_glyphiclaw3_ColorBack := good_body Tryd.func3 (by kernel_rfl) (by kernel_rfl) (by kernel_rfl)
theorem G_glyphiclaw3_first : GoodF Tryd.prog cfg f_glyphiclaw3_first F_glyphiclaw3_first := good_body Tryd.func11 (by kernel_rfl) (by kernel_rfl) (by kernel_rfl)
theorem G_color_Show : GoodF Tryd.prog cfg f_color_Show F_color_Show := good_body Tryd.func12 (by kernel_rfl) (by kernel_rfl) (by kernel_rfl)
theorem G_color_Parse : GoodF Tryd.prog cfg f_color_Parse F_color_Parse := good_body Tryd.func13 (by kernel_rfl) (by kernel_rfl) (by kernel_rfl)
theorem G_glyphicref_SameColor : GoodF Tryd.prog cfg f_glyphicref_SameColor F_glyphicref_SameColor := good_body Tryd.func14 (by kernel_rfl) (by kernel_rfl) (by kernel_rfl)
theorem G_strings_IndexByte : GoodF Tryd.prog cfg f_strings_IndexByte F_strings_IndexByte := good_body Tryd.func38 (by kernel_rfl) (by kernel_rfl) (by kernel_rfl)
theorem G_internal_stringslite_IndexByte : GoodF Tryd.prog cfg f_internal_stringslite_IndexByte F_internal_stringslite_IndexByte := good_body Tryd.func49 (by kernel_rfl) (by kernel_rfl) (by kernel_rfl)
theorem G_internal_bytealg_IndexByteString : GoodF Tryd.prog cfg f_internal_bytealg_IndexByteString F_internal_bytealg_IndexByteString := good_prim Tryd.func52 (by kernel_rfl) (by kernel_rfl) (by kernel_rfl) (by kernel_rfl)
theorem good : AllGood Tryd.prog cfg envL := ⟨G_glyphiclaw3_ColorBack, G_glyphiclaw3_first, G_color_Show, G_color_Parse, G_glyphicref_SameColor, G_strings_IndexByte, G_internal_stringslite_IndexByte, G_internal_bytealg_IndexByteString, trivial⟩
end Go.IR
