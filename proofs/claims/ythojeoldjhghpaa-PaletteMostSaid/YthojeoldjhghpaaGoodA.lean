/- The functions' text is the program's. -/
import Derived.Test.YthojeoldjhghpaaIrA
import Derived.Test.YthojeoldjhghpaaProg
import Derived.KernelRfl
namespace Go.IR
open Go.FR Go.Proofs
set_option linter.unusedVariables false
set_option maxRecDepth 100000
theorem G_glyphiclaw16_PaletteMost : GoodF Try.prog cfg f_glyphiclaw16_PaletteMost F_glyphiclaw16_PaletteMost := good_body Try.func11 (by kernel_rfl) (by kernel_rfl) (by kernel_rfl)
theorem G_color_Wide : GoodF Try.prog cfg f_color_Wide F_color_Wide := good_body Try.func14 (by kernel_rfl) (by kernel_rfl) (by kernel_rfl)
theorem G_color_Show : GoodF Try.prog cfg f_color_Show F_color_Show := good_body Try.func15 (by kernel_rfl) (by kernel_rfl) (by kernel_rfl)
theorem G_glyphicref_SameColor : GoodF Try.prog cfg f_glyphicref_SameColor F_glyphicref_SameColor := good_body Try.func16 (by kernel_rfl) (by kernel_rfl) (by kernel_rfl)
theorem G_glyphiclaw16_first : GoodF Try.prog cfg f_glyphiclaw16_first F_glyphiclaw16_first := good_body Try.func34 (by kernel_rfl) (by kernel_rfl) (by kernel_rfl)
theorem G_palette_Palette_Add : GoodF Try.prog cfg f_palette_Palette_Add F_palette_Palette_Add := good_body Try.func35 (by kernel_rfl) (by kernel_rfl) (by kernel_rfl)
theorem G_palette_Palette_Find : GoodF Try.prog cfg f_palette_Palette_Find F_palette_Palette_Find := good_body Try.func36 (by kernel_rfl) (by kernel_rfl) (by kernel_rfl)
theorem G_palette_Palette_Colors : GoodF Try.prog cfg f_palette_Palette_Colors F_palette_Palette_Colors := good_body Try.func37 (by kernel_rfl) (by kernel_rfl) (by kernel_rfl)
theorem G_slices_Index__api_Color_api_Color : GoodF Try.prog cfg f_slices_Index__api_Color_api_Color F_slices_Index__api_Color_api_Color := good_body Try.func45 (by kernel_rfl) (by kernel_rfl) (by kernel_rfl)
theorem G_slices_Clone__api_Color_api_Color : GoodF Try.prog cfg f_slices_Clone__api_Color_api_Color F_slices_Clone__api_Color_api_Color := good_body Try.func46 (by kernel_rfl) (by kernel_rfl) (by kernel_rfl)
theorem good : AllGood Try.prog cfg envL := ⟨G_glyphiclaw16_PaletteMost, G_color_Wide, G_color_Show, G_glyphicref_SameColor, G_glyphiclaw16_first, G_palette_Palette_Add, G_palette_Palette_Find, G_palette_Palette_Colors, G_slices_Index__api_Color_api_Color, G_slices_Clone__api_Color_api_Color, trivial⟩
end Go.IR
