/- The functions' text is the program's. -/
import Derived.Test.YthojeoldjhghpaaIrA
import Derived.Test.YthojeoldjhghpaaProg
import Derived.KernelRfl
namespace Go.IR
open Go.FR Go.Proofs
set_option linter.unusedVariables false
set_option maxRecDepth 100000
theorem G_glyphiclaw3_ColorUnlike : GoodF Try.prog cfg f_glyphiclaw3_ColorUnlike F_glyphiclaw3_ColorUnlike := good_body Try.func3 (by kernel_rfl) (by kernel_rfl) (by kernel_rfl)
theorem G_glyphiclaw3_first : GoodF Try.prog cfg f_glyphiclaw3_first F_glyphiclaw3_first := good_body Try.func13 (by kernel_rfl) (by kernel_rfl) (by kernel_rfl)
theorem G_color_Wide : GoodF Try.prog cfg f_color_Wide F_color_Wide := good_body Try.func14 (by kernel_rfl) (by kernel_rfl) (by kernel_rfl)
theorem G_color_Show : GoodF Try.prog cfg f_color_Show F_color_Show := good_body Try.func15 (by kernel_rfl) (by kernel_rfl) (by kernel_rfl)
theorem G_glyphicref_SameColor : GoodF Try.prog cfg f_glyphicref_SameColor F_glyphicref_SameColor := good_body Try.func16 (by kernel_rfl) (by kernel_rfl) (by kernel_rfl)
theorem good : AllGood Try.prog cfg envL := ⟨G_glyphiclaw3_ColorUnlike, G_glyphiclaw3_first, G_color_Wide, G_color_Show, G_glyphicref_SameColor, trivial⟩
end Go.IR
