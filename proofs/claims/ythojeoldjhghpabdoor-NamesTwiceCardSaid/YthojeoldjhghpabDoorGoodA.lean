/- The functions' text is the program's. -/
import Derived.Test.YthojeoldjhghpabDoorIrA
import Derived.Test.YthojeoldjhghpabDoorProg
import Derived.KernelRfl
namespace Go.IR
open Go.FR Go.Proofs
set_option linter.unusedVariables false
set_option maxRecDepth 100000
theorem G_glyphiclaw12_NamesTwice : GoodF Tryd.prog cfg f_glyphiclaw12_NamesTwice F_glyphiclaw12_NamesTwice := good_body Tryd.func10 (by kernel_rfl) (by kernel_rfl) (by kernel_rfl)
theorem G_color_Show : GoodF Tryd.prog cfg f_color_Show F_color_Show := good_body Tryd.func12 (by kernel_rfl) (by kernel_rfl) (by kernel_rfl)
theorem G_glyphicref_SameColor : GoodF Tryd.prog cfg f_glyphicref_SameColor F_glyphicref_SameColor := good_body Tryd.func14 (by kernel_rfl) (by kernel_rfl) (by kernel_rfl)
theorem G_glyphicsee_Is : GoodF Tryd.prog cfg f_glyphicsee_Is F_glyphicsee_Is := good_body Tryd.func17 (by kernel_rfl) (by kernel_rfl) (by kernel_rfl)
theorem G_color_Wide : GoodF Tryd.prog cfg f_color_Wide F_color_Wide := good_body Tryd.func18 (by kernel_rfl) (by kernel_rfl) (by kernel_rfl)
theorem G_glyphicsee_Same : GoodF Tryd.prog cfg f_glyphicsee_Same F_glyphicsee_Same := good_body Tryd.func24 (by kernel_rfl) (by kernel_rfl) (by kernel_rfl)
theorem G_glyphicref_Placed : GoodF Tryd.prog cfg f_glyphicref_Placed F_glyphicref_Placed := good_body Tryd.func25 (by kernel_rfl) (by kernel_rfl) (by kernel_rfl)
theorem G_glyphiclaw12_first : GoodF Tryd.prog cfg f_glyphiclaw12_first F_glyphiclaw12_first := good_body Tryd.func29 (by kernel_rfl) (by kernel_rfl) (by kernel_rfl)
theorem G_names_New : GoodF Tryd.prog cfg f_names_New F_names_New := good_body Tryd.func30 (by kernel_rfl) (by kernel_rfl) (by kernel_rfl)
theorem G_names_Scope_Val : GoodF Tryd.prog cfg f_names_Scope_Val F_names_Scope_Val := good_body Tryd.func31 (by kernel_rfl) (by kernel_rfl) (by kernel_rfl)
theorem G_names_Scope_Ref : GoodF Tryd.prog cfg f_names_Scope_Ref F_names_Scope_Ref := good_body Tryd.func32 (by kernel_rfl) (by kernel_rfl) (by kernel_rfl)
theorem G_names_Scope_Shape : GoodF Tryd.prog cfg f_names_Scope_Shape F_names_Scope_Shape := good_body Tryd.func33 (by kernel_rfl) (by kernel_rfl) (by kernel_rfl)
theorem G_glyphicref_None : GoodF Tryd.prog cfg f_glyphicref_None F_glyphicref_None := good_body Tryd.func34 (by kernel_rfl) (by kernel_rfl) (by kernel_rfl)
theorem G_glyphicref12_New : GoodF Tryd.prog cfg f_glyphicref12_New F_glyphicref12_New := good_body Tryd.func35 (by kernel_rfl) (by kernel_rfl) (by kernel_rfl)
theorem G_glyphicref_SameFault : GoodF Tryd.prog cfg f_glyphicref_SameFault F_glyphicref_SameFault := good_body Tryd.func36 (by kernel_rfl) (by kernel_rfl) (by kernel_rfl)
theorem G_names_Check : GoodF Tryd.prog cfg f_names_Check F_names_Check := good_body Tryd.func37 (by kernel_rfl) (by kernel_rfl) (by kernel_rfl)
theorem G_glyphicref_Bare : GoodF Tryd.prog cfg f_glyphicref_Bare F_glyphicref_Bare := good_body Tryd.func41 (by kernel_rfl) (by kernel_rfl) (by kernel_rfl)
theorem G_glyphicsee_Fault : GoodF Tryd.prog cfg f_glyphicsee_Fault F_glyphicsee_Fault := good_body Tryd.func43 (by kernel_rfl) (by kernel_rfl) (by kernel_rfl)
theorem G_names_first__int64 : GoodF Tryd.prog cfg f_names_first__int64 F_names_first__int64 := good_body Tryd.func44 (by kernel_rfl) (by kernel_rfl) (by kernel_rfl)
theorem G_names_first__api_Color : GoodF Tryd.prog cfg f_names_first__api_Color F_names_first__api_Color := good_body Tryd.func45 (by kernel_rfl) (by kernel_rfl) (by kernel_rfl)
theorem G_names_first__int : GoodF Tryd.prog cfg f_names_first__int F_names_first__int := good_body Tryd.func46 (by kernel_rfl) (by kernel_rfl) (by kernel_rfl)
theorem G_glyphicsee_sentinel : GoodF Tryd.prog cfg f_glyphicsee_sentinel F_glyphicsee_sentinel := good_body Tryd.func50 (by kernel_rfl) (by kernel_rfl) (by kernel_rfl)
theorem G_glyphicsee_sentinels : GoodF Tryd.prog cfg f_glyphicsee_sentinels F_glyphicsee_sentinels := good_body Tryd.func53 (by kernel_rfl) (by kernel_rfl) (by kernel_rfl)
theorem G_glyphicsee_Alike : GoodF Tryd.prog cfg f_glyphicsee_Alike F_glyphicsee_Alike := good_body Tryd.func54 (by kernel_rfl) (by kernel_rfl) (by kernel_rfl)
theorem good : AllGood Tryd.prog cfg envL := ⟨G_glyphiclaw12_NamesTwice, G_color_Show, G_glyphicref_SameColor, G_glyphicsee_Is, G_color_Wide, G_glyphicsee_Same, G_glyphicref_Placed, G_glyphiclaw12_first, G_names_New, G_names_Scope_Val, G_names_Scope_Ref, G_names_Scope_Shape, G_glyphicref_None, G_glyphicref12_New, G_glyphicref_SameFault, G_names_Check, G_glyphicref_Bare, G_glyphicsee_Fault, G_names_first__int64, G_names_first__api_Color, G_names_first__int, G_glyphicsee_sentinel, G_glyphicsee_sentinels, G_glyphicsee_Alike, trivial⟩
end Go.IR
