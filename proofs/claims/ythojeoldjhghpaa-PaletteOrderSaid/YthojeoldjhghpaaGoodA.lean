/- The functions' text is the program's. -/
import Derived.Test.YthojeoldjhghpaaIrA
import Derived.Test.YthojeoldjhghpaaProg
import Derived.KernelRfl
namespace Go.IR
open Go.FR Go.Proofs
set_option linter.unusedVariables false
set_option maxRecDepth 100000
theorem G_glyphiclaw16_PaletteOrder : GoodF Try.prog cfg f_glyphiclaw16_PaletteOrder F_glyphiclaw16_PaletteOrder := good_body Try.func12 (by kernel_rfl) (by kernel_rfl) (by kernel_rfl)
theorem G_color_Wide : GoodF Try.prog cfg f_color_Wide F_color_Wide := good_body Try.func14 (by kernel_rfl) (by kernel_rfl) (by kernel_rfl)
theorem G_color_Show : GoodF Try.prog cfg f_color_Show F_color_Show := good_body Try.func15 (by kernel_rfl) (by kernel_rfl) (by kernel_rfl)
theorem G_glyphicref_SameColor : GoodF Try.prog cfg f_glyphicref_SameColor F_glyphicref_SameColor := good_body Try.func16 (by kernel_rfl) (by kernel_rfl) (by kernel_rfl)
theorem G_glyphicmake_Edges : GoodF Try.prog cfg f_glyphicmake_Edges F_glyphicmake_Edges := good_body Try.func22 (by kernel_rfl) (by kernel_rfl) (by kernel_rfl)
theorem G_glyphicmake_Ring : GoodF Try.prog cfg f_glyphicmake_Ring F_glyphicmake_Ring := good_body Try.func23 (by kernel_rfl) (by kernel_rfl) (by kernel_rfl)
theorem G_glyphicmake_Point : GoodF Try.prog cfg f_glyphicmake_Point F_glyphicmake_Point := good_body Try.func24 (by kernel_rfl) (by kernel_rfl) (by kernel_rfl)
theorem G_wind_One : GoodF Try.prog cfg f_wind_One F_wind_One := good_body Try.func25 (by kernel_rfl) (by kernel_rfl) (by kernel_rfl)
theorem G_glyphicref20_One : GoodF Try.prog cfg f_glyphicref20_One F_glyphicref20_One := good_body Try.func26 (by kernel_rfl) (by kernel_rfl) (by kernel_rfl)
theorem G_wind_Number : GoodF Try.prog cfg f_wind_Number F_wind_Number := good_body Try.func27 (by kernel_rfl) (by kernel_rfl) (by kernel_rfl)
theorem G_glyphicref20_Number : GoodF Try.prog cfg f_glyphicref20_Number F_glyphicref20_Number := good_body Try.func28 (by kernel_rfl) (by kernel_rfl) (by kernel_rfl)
theorem G_wind_Inside : GoodF Try.prog cfg f_wind_Inside F_wind_Inside := good_body Try.func29 (by kernel_rfl) (by kernel_rfl) (by kernel_rfl)
theorem G_glyphicref20_Inside : GoodF Try.prog cfg f_glyphicref20_Inside F_glyphicref20_Inside := good_body Try.func30 (by kernel_rfl) (by kernel_rfl) (by kernel_rfl)
theorem G_glyphiclaw16_first : GoodF Try.prog cfg f_glyphiclaw16_first F_glyphiclaw16_first := good_body Try.func34 (by kernel_rfl) (by kernel_rfl) (by kernel_rfl)
theorem G_palette_Palette_Add : GoodF Try.prog cfg f_palette_Palette_Add F_palette_Palette_Add := good_body Try.func35 (by kernel_rfl) (by kernel_rfl) (by kernel_rfl)
theorem G_palette_Palette_Find : GoodF Try.prog cfg f_palette_Palette_Find F_palette_Palette_Find := good_body Try.func36 (by kernel_rfl) (by kernel_rfl) (by kernel_rfl)
theorem G_palette_Palette_Colors : GoodF Try.prog cfg f_palette_Palette_Colors F_palette_Palette_Colors := good_body Try.func37 (by kernel_rfl) (by kernel_rfl) (by kernel_rfl)
theorem G_glyphicmake_Color : GoodF Try.prog cfg f_glyphicmake_Color F_glyphicmake_Color := good_body Try.func38 (by kernel_rfl) (by kernel_rfl) (by kernel_rfl)
theorem G_glyphicref12_Find : GoodF Try.prog cfg f_glyphicref12_Find F_glyphicref12_Find := good_body Try.func39 (by kernel_rfl) (by kernel_rfl) (by kernel_rfl)
theorem G_glyphicref_SameColors : GoodF Try.prog cfg f_glyphicref_SameColors F_glyphicref_SameColors := good_body Try.func40 (by kernel_rfl) (by kernel_rfl) (by kernel_rfl)
theorem G_glyphicmake_Seq_Next : GoodF Try.prog cfg f_glyphicmake_Seq_Next F_glyphicmake_Seq_Next := good_body Try.func42 (by kernel_rfl) (by kernel_rfl) (by kernel_rfl)
theorem G_plane_Cross : GoodF Try.prog cfg f_plane_Cross F_plane_Cross := good_body Try.func43 (by kernel_rfl) (by kernel_rfl) (by kernel_rfl)
theorem G_glyphicref1_Cross : GoodF Try.prog cfg f_glyphicref1_Cross F_glyphicref1_Cross := good_body Try.func44 (by kernel_rfl) (by kernel_rfl) (by kernel_rfl)
theorem G_slices_Index__api_Color_api_Color : GoodF Try.prog cfg f_slices_Index__api_Color_api_Color F_slices_Index__api_Color_api_Color := good_body Try.func45 (by kernel_rfl) (by kernel_rfl) (by kernel_rfl)
theorem G_slices_Clone__api_Color_api_Color : GoodF Try.prog cfg f_slices_Clone__api_Color_api_Color F_slices_Clone__api_Color_api_Color := good_body Try.func46 (by kernel_rfl) (by kernel_rfl) (by kernel_rfl)
theorem G_glyphicworld_Number : GoodF Try.prog cfg f_glyphicworld_Number F_glyphicworld_Number := good_body Try.func47 (by kernel_rfl) (by kernel_rfl) (by kernel_rfl)
theorem G_plane_Sub : GoodF Try.prog cfg f_plane_Sub F_plane_Sub := good_body Try.func48 (by kernel_rfl) (by kernel_rfl) (by kernel_rfl)
theorem good : AllGood Try.prog cfg envL := ⟨G_glyphiclaw16_PaletteOrder, G_color_Wide, G_color_Show, G_glyphicref_SameColor, G_glyphicmake_Edges, G_glyphicmake_Ring, G_glyphicmake_Point, G_wind_One, G_glyphicref20_One, G_wind_Number, G_glyphicref20_Number, G_wind_Inside, G_glyphicref20_Inside, G_glyphiclaw16_first, G_palette_Palette_Add, G_palette_Palette_Find, G_palette_Palette_Colors, G_glyphicmake_Color, G_glyphicref12_Find, G_glyphicref_SameColors, G_glyphicmake_Seq_Next, G_plane_Cross, G_glyphicref1_Cross, G_slices_Index__api_Color_api_Color, G_slices_Clone__api_Color_api_Color, G_glyphicworld_Number, G_plane_Sub, trivial⟩
end Go.IR
