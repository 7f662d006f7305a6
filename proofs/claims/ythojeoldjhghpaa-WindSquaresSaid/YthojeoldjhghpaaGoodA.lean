/- The functions' text is the program's. -/
import Derived.Test.YthojeoldjhghpaaIrA
import Derived.Test.YthojeoldjhghpaaProg
import Derived.KernelRfl
namespace Go.IR
open Go.FR Go.Proofs
set_option linter.unusedVariables false
set_option maxRecDepth 100000
theorem G_glyphiclaw22_WindSquares : GoodF Try.prog cfg f_glyphiclaw22_WindSquares F_glyphiclaw22_WindSquares := good_body Try.func6 (by kernel_rfl) (by kernel_rfl) (by kernel_rfl)
theorem G_glyphiclaw22_first : GoodF Try.prog cfg f_glyphiclaw22_first F_glyphiclaw22_first := good_body Try.func21 (by kernel_rfl) (by kernel_rfl) (by kernel_rfl)
theorem G_glyphicmake_Edges : GoodF Try.prog cfg f_glyphicmake_Edges F_glyphicmake_Edges := good_body Try.func22 (by kernel_rfl) (by kernel_rfl) (by kernel_rfl)
theorem G_glyphicmake_Ring : GoodF Try.prog cfg f_glyphicmake_Ring F_glyphicmake_Ring := good_body Try.func23 (by kernel_rfl) (by kernel_rfl) (by kernel_rfl)
theorem G_glyphicmake_Point : GoodF Try.prog cfg f_glyphicmake_Point F_glyphicmake_Point := good_body Try.func24 (by kernel_rfl) (by kernel_rfl) (by kernel_rfl)
theorem G_wind_One : GoodF Try.prog cfg f_wind_One F_wind_One := good_body Try.func25 (by kernel_rfl) (by kernel_rfl) (by kernel_rfl)
theorem G_glyphicref20_One : GoodF Try.prog cfg f_glyphicref20_One F_glyphicref20_One := good_body Try.func26 (by kernel_rfl) (by kernel_rfl) (by kernel_rfl)
theorem G_wind_Number : GoodF Try.prog cfg f_wind_Number F_wind_Number := good_body Try.func27 (by kernel_rfl) (by kernel_rfl) (by kernel_rfl)
theorem G_glyphicref20_Number : GoodF Try.prog cfg f_glyphicref20_Number F_glyphicref20_Number := good_body Try.func28 (by kernel_rfl) (by kernel_rfl) (by kernel_rfl)
theorem G_wind_Inside : GoodF Try.prog cfg f_wind_Inside F_wind_Inside := good_body Try.func29 (by kernel_rfl) (by kernel_rfl) (by kernel_rfl)
theorem G_glyphicref20_Inside : GoodF Try.prog cfg f_glyphicref20_Inside F_glyphicref20_Inside := good_body Try.func30 (by kernel_rfl) (by kernel_rfl) (by kernel_rfl)
theorem G_glyphiclaw22_square : GoodF Try.prog cfg f_glyphiclaw22_square F_glyphiclaw22_square := good_body Try.func31 (by kernel_rfl) (by kernel_rfl) (by kernel_rfl)
theorem G_glyphicref_Edges : GoodF Try.prog cfg f_glyphicref_Edges F_glyphicref_Edges := good_body Try.func32 (by kernel_rfl) (by kernel_rfl) (by kernel_rfl)
theorem G_glyphiclaw22_plus : GoodF Try.prog cfg f_glyphiclaw22_plus F_glyphiclaw22_plus := good_body Try.func33 (by kernel_rfl) (by kernel_rfl) (by kernel_rfl)
theorem G_glyphicmake_Seq_Next : GoodF Try.prog cfg f_glyphicmake_Seq_Next F_glyphicmake_Seq_Next := good_body Try.func42 (by kernel_rfl) (by kernel_rfl) (by kernel_rfl)
theorem G_plane_Cross : GoodF Try.prog cfg f_plane_Cross F_plane_Cross := good_body Try.func43 (by kernel_rfl) (by kernel_rfl) (by kernel_rfl)
theorem G_glyphicref1_Cross : GoodF Try.prog cfg f_glyphicref1_Cross F_glyphicref1_Cross := good_body Try.func44 (by kernel_rfl) (by kernel_rfl) (by kernel_rfl)
theorem G_glyphicworld_Number : GoodF Try.prog cfg f_glyphicworld_Number F_glyphicworld_Number := good_body Try.func47 (by kernel_rfl) (by kernel_rfl) (by kernel_rfl)
theorem G_plane_Sub : GoodF Try.prog cfg f_plane_Sub F_plane_Sub := good_body Try.func48 (by kernel_rfl) (by kernel_rfl) (by kernel_rfl)
theorem good : AllGood Try.prog cfg envL := ⟨G_glyphiclaw22_WindSquares, G_glyphiclaw22_first, G_glyphicmake_Edges, G_glyphicmake_Ring, G_glyphicmake_Point, G_wind_One, G_glyphicref20_One, G_wind_Number, G_glyphicref20_Number, G_wind_Inside, G_glyphicref20_Inside, G_glyphiclaw22_square, G_glyphicref_Edges, G_glyphiclaw22_plus, G_glyphicmake_Seq_Next, G_plane_Cross, G_glyphicref1_Cross, G_glyphicworld_Number, G_plane_Sub, trivial⟩
end Go.IR
