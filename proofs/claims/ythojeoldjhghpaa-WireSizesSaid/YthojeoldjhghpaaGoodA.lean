/- The functions' text is the program's. -/
import Derived.Test.YthojeoldjhghpaaIrA
import Derived.Test.YthojeoldjhghpaaProg
import Derived.KernelRfl
namespace Go.IR
open Go.FR Go.Proofs
set_option linter.unusedVariables false
set_option maxRecDepth 100000
theorem G_glyphiclaw2_WireSizes : GoodF Try.prog cfg f_glyphiclaw2_WireSizes F_glyphiclaw2_WireSizes := good_body Try.func4 (by kernel_rfl) (by kernel_rfl) (by kernel_rfl)
theorem G_glyphiclaw2_first : GoodF Try.prog cfg f_glyphiclaw2_first F_glyphiclaw2_first := good_body Try.func17 (by kernel_rfl) (by kernel_rfl) (by kernel_rfl)
theorem G_wire_Size : GoodF Try.prog cfg f_wire_Size F_wire_Size := good_body Try.func18 (by kernel_rfl) (by kernel_rfl) (by kernel_rfl)
theorem G_wire_Zig : GoodF Try.prog cfg f_wire_Zig F_wire_Zig := good_body Try.func19 (by kernel_rfl) (by kernel_rfl) (by kernel_rfl)
theorem G_wire_Put : GoodF Try.prog cfg f_wire_Put F_wire_Put := good_body Try.func20 (by kernel_rfl) (by kernel_rfl) (by kernel_rfl)
theorem G_slices_Clone__byte_byte : GoodF Try.prog cfg f_slices_Clone__byte_byte F_slices_Clone__byte_byte := good_body Try.func41 (by kernel_rfl) (by kernel_rfl) (by kernel_rfl)
theorem good : AllGood Try.prog cfg envL := ⟨G_glyphiclaw2_WireSizes, G_glyphiclaw2_first, G_wire_Size, G_wire_Zig, G_wire_Put, G_slices_Clone__byte_byte, trivial⟩
end Go.IR
