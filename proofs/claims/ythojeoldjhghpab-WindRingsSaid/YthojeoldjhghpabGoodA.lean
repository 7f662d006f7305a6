/- The functions' text is the program's. -/
import Derived.Test.YthojeoldjhghpabIrA
import Derived.Test.YthojeoldjhghpabProg
import Derived.KernelRfl
namespace Go.IR
open Go.FR Go.Proofs
set_option linter.unusedVariables false
set_option maxRecDepth 100000
theorem G_glyphiclaw22_WindRings : GoodF Try.prog cfg f_glyphiclaw22_WindRings F_glyphiclaw22_WindRings := good_body Try.func3 (by kernel_rfl) (by kernel_rfl) (by kernel_rfl)
theorem G_glyphiclaw22_first : GoodF Try.prog cfg f_glyphiclaw22_first F_glyphiclaw22_first := good_body Try.func4 (by kernel_rfl) (by kernel_rfl) (by kernel_rfl)
theorem G_glyphicmake_Ring : GoodF Try.prog cfg f_glyphicmake_Ring F_glyphicmake_Ring := good_body Try.func5 (by kernel_rfl) (by kernel_rfl) (by kernel_rfl)
theorem G_glyphicref20_Near : GoodF Try.prog cfg f_glyphicref20_Near F_glyphicref20_Near := good_body Try.func6 (by kernel_rfl) (by kernel_rfl) (by kernel_rfl)
theorem G_wind_Number : GoodF Try.prog cfg f_wind_Number F_wind_Number := good_body Try.func7 (by kernel_rfl) (by kernel_rfl) (by kernel_rfl)
theorem G_glyphicref_Edges : GoodF Try.prog cfg f_glyphicref_Edges F_glyphicref_Edges := good_body Try.func8 (by kernel_rfl) (by kernel_rfl) (by kernel_rfl)
theorem G_wind_Inside : GoodF Try.prog cfg f_wind_Inside F_wind_Inside := good_body Try.func9 (by kernel_rfl) (by kernel_rfl) (by kernel_rfl)
theorem G_glyphicmake_Seq_Next : GoodF Try.prog cfg f_glyphicmake_Seq_Next F_glyphicmake_Seq_Next := good_body Try.func10 (by kernel_rfl) (by kernel_rfl) (by kernel_rfl)
theorem G_glyphicmake_Point : GoodF Try.prog cfg f_glyphicmake_Point F_glyphicmake_Point := good_body Try.func11 (by kernel_rfl) (by kernel_rfl) (by kernel_rfl)
theorem G_glyphicref1_Near : GoodF Try.prog cfg f_glyphicref1_Near F_glyphicref1_Near := good_body Try.func12 (by kernel_rfl) (by kernel_rfl) (by kernel_rfl)
theorem G_wind_One : GoodF Try.prog cfg f_wind_One F_wind_One := good_body Try.func13 (by kernel_rfl) (by kernel_rfl) (by kernel_rfl)
theorem G_glyphicworld_Number : GoodF Try.prog cfg f_glyphicworld_Number F_glyphicworld_Number := good_body Try.func14 (by kernel_rfl) (by kernel_rfl) (by kernel_rfl)
theorem G_glyphicref1_Dot : GoodF Try.prog cfg f_glyphicref1_Dot F_glyphicref1_Dot := good_body Try.func15 (by kernel_rfl) (by kernel_rfl) (by kernel_rfl)
theorem G_glyphicref1_Len2 : GoodF Try.prog cfg f_glyphicref1_Len2 F_glyphicref1_Len2 := good_body Try.func16 (by kernel_rfl) (by kernel_rfl) (by kernel_rfl)
theorem G_glyphicref1_size : GoodF Try.prog cfg f_glyphicref1_size F_glyphicref1_size := good_body Try.func17 (by kernel_rfl) (by kernel_rfl) (by kernel_rfl)
theorem G_glyphicref1_Cross : GoodF Try.prog cfg f_glyphicref1_Cross F_glyphicref1_Cross := good_body Try.func18 (by kernel_rfl) (by kernel_rfl) (by kernel_rfl)
theorem G_math_bits_Mul64 : GoodF Try.prog cfg f_math_bits_Mul64 F_math_bits_Mul64 := good_body Try.func19 (by kernel_rfl) (by kernel_rfl) (by kernel_rfl)
theorem G_plane_Cross : GoodF Try.prog cfg f_plane_Cross F_plane_Cross := good_body Try.func20 (by kernel_rfl) (by kernel_rfl) (by kernel_rfl)
theorem G_plane_Sub : GoodF Try.prog cfg f_plane_Sub F_plane_Sub := good_body Try.func21 (by kernel_rfl) (by kernel_rfl) (by kernel_rfl)
theorem good : AllGood Try.prog cfg envL := ⟨G_glyphiclaw22_WindRings, G_glyphiclaw22_first, G_glyphicmake_Ring, G_glyphicref20_Near, G_wind_Number, G_glyphicref_Edges, G_wind_Inside, G_glyphicmake_Seq_Next, G_glyphicmake_Point, G_glyphicref1_Near, G_wind_One, G_glyphicworld_Number, G_glyphicref1_Dot, G_glyphicref1_Len2, G_glyphicref1_size, G_glyphicref1_Cross, G_math_bits_Mul64, G_plane_Cross, G_plane_Sub, trivial⟩
end Go.IR
