/- The functions' text is the program's. -/
import Derived.Test.YthojeoldjhghpabDoorIrA
import Derived.Test.YthojeoldjhghpabDoorProg
import Derived.KernelRfl
namespace Go.IR
open Go.FR Go.Proofs
set_option linter.unusedVariables false
set_option maxRecDepth 100000
theorem G_glyphiclaw3_ColorSays : GoodF Tryd.prog cfg f_glyphiclaw3_ColorSays F_glyphiclaw3_ColorSays := good_body Tryd.func5 (by kernel_rfl) (by kernel_rfl) (by kernel_rfl)
theorem G_glyphiclaw3_first : GoodF Tryd.prog cfg f_glyphiclaw3_first F_glyphiclaw3_first := good_body Tryd.func11 (by kernel_rfl) (by kernel_rfl) (by kernel_rfl)
theorem G_color_Show : GoodF Tryd.prog cfg f_color_Show F_color_Show := good_body Tryd.func12 (by kernel_rfl) (by kernel_rfl) (by kernel_rfl)
theorem G_color_Parse : GoodF Tryd.prog cfg f_color_Parse F_color_Parse := good_body Tryd.func13 (by kernel_rfl) (by kernel_rfl) (by kernel_rfl)
theorem G_glyphicref_SameColor : GoodF Tryd.prog cfg f_glyphicref_SameColor F_glyphicref_SameColor := good_body Tryd.func14 (by kernel_rfl) (by kernel_rfl) (by kernel_rfl)
theorem G_glyphicref1_ParseColor : GoodF Tryd.prog cfg f_glyphicref1_ParseColor F_glyphicref1_ParseColor := good_body Tryd.func15 (by kernel_rfl) (by kernel_rfl) (by kernel_rfl)
theorem G_glyphicref1_ShowColor : GoodF Tryd.prog cfg f_glyphicref1_ShowColor F_glyphicref1_ShowColor := good_body Tryd.func16 (by kernel_rfl) (by kernel_rfl) (by kernel_rfl)
theorem G_glyphicsee_Is : GoodF Tryd.prog cfg f_glyphicsee_Is F_glyphicsee_Is := good_body Tryd.func17 (by kernel_rfl) (by kernel_rfl) (by kernel_rfl)
theorem G_color_Wide : GoodF Tryd.prog cfg f_color_Wide F_color_Wide := good_body Tryd.func18 (by kernel_rfl) (by kernel_rfl) (by kernel_rfl)
theorem G_glyphicref1_Wide : GoodF Tryd.prog cfg f_glyphicref1_Wide F_glyphicref1_Wide := good_body Tryd.func19 (by kernel_rfl) (by kernel_rfl) (by kernel_rfl)
theorem G_glyphicsee_Same : GoodF Tryd.prog cfg f_glyphicsee_Same F_glyphicsee_Same := good_body Tryd.func24 (by kernel_rfl) (by kernel_rfl) (by kernel_rfl)
theorem G_glyphicref_Placed : GoodF Tryd.prog cfg f_glyphicref_Placed F_glyphicref_Placed := good_body Tryd.func25 (by kernel_rfl) (by kernel_rfl) (by kernel_rfl)
theorem G_glyphicref_None : GoodF Tryd.prog cfg f_glyphicref_None F_glyphicref_None := good_body Tryd.func34 (by kernel_rfl) (by kernel_rfl) (by kernel_rfl)
theorem G_glyphicref_SameFault : GoodF Tryd.prog cfg f_glyphicref_SameFault F_glyphicref_SameFault := good_body Tryd.func36 (by kernel_rfl) (by kernel_rfl) (by kernel_rfl)
theorem G_strings_IndexByte : GoodF Tryd.prog cfg f_strings_IndexByte F_strings_IndexByte := good_body Tryd.func38 (by kernel_rfl) (by kernel_rfl) (by kernel_rfl)
theorem G_glyphicref1_digit : GoodF Tryd.prog cfg f_glyphicref1_digit F_glyphicref1_digit := good_body Tryd.func39 (by kernel_rfl) (by kernel_rfl) (by kernel_rfl)
theorem G_glyphicref1_hex : GoodF Tryd.prog cfg f_glyphicref1_hex F_glyphicref1_hex := good_body Tryd.func40 (by kernel_rfl) (by kernel_rfl) (by kernel_rfl)
theorem G_glyphicref_Bare : GoodF Tryd.prog cfg f_glyphicref_Bare F_glyphicref_Bare := good_body Tryd.func41 (by kernel_rfl) (by kernel_rfl) (by kernel_rfl)
theorem G_glyphicsee_Fault : GoodF Tryd.prog cfg f_glyphicsee_Fault F_glyphicsee_Fault := good_body Tryd.func43 (by kernel_rfl) (by kernel_rfl) (by kernel_rfl)
theorem G_internal_stringslite_IndexByte : GoodF Tryd.prog cfg f_internal_stringslite_IndexByte F_internal_stringslite_IndexByte := good_body Tryd.func49 (by kernel_rfl) (by kernel_rfl) (by kernel_rfl)
theorem G_glyphicsee_sentinel : GoodF Tryd.prog cfg f_glyphicsee_sentinel F_glyphicsee_sentinel := good_body Tryd.func50 (by kernel_rfl) (by kernel_rfl) (by kernel_rfl)
theorem G_internal_bytealg_IndexByteString : GoodF Tryd.prog cfg f_internal_bytealg_IndexByteString F_internal_bytealg_IndexByteString := good_prim Tryd.func52 (by kernel_rfl) (by kernel_rfl) (by kernel_rfl) (by kernel_rfl)
theorem G_glyphicsee_sentinels : GoodF Tryd.prog cfg f_glyphicsee_sentinels F_glyphicsee_sentinels := good_body Tryd.func53 (by kernel_rfl) (by kernel_rfl) (by kernel_rfl)
theorem G_glyphicsee_Alike : GoodF Tryd.prog cfg f_glyphicsee_Alike F_glyphicsee_Alike := good_body Tryd.func54 (by kernel_rfl) (by kernel_rfl) (by kernel_rfl)
theorem good : AllGood Tryd.prog cfg envL := ⟨G_glyphiclaw3_ColorSays, G_glyphiclaw3_first, G_color_Show, G_color_Parse, G_glyphicref_SameColor, G_glyphicref1_ParseColor, G_glyphicref1_ShowColor, G_glyphicsee_Is, G_color_Wide, G_glyphicref1_Wide, G_glyphicsee_Same, G_glyphicref_Placed, G_glyphicref_None, G_glyphicref_SameFault, G_strings_IndexByte, G_glyphicref1_digit, G_glyphicref1_hex, G_glyphicref_Bare, G_glyphicsee_Fault, G_internal_stringslite_IndexByte, G_glyphicsee_sentinel, G_internal_bytealg_IndexByteString, G_glyphicsee_sentinels, G_glyphicsee_Alike, trivial⟩
end Go.IR
