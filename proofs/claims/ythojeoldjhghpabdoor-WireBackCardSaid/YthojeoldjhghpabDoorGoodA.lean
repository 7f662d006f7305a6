/- The functions' text is the program's. -/
import Derived.Test.YthojeoldjhghpabDoorIrA
import Derived.Test.YthojeoldjhghpabDoorProg
import Derived.KernelRfl
namespace Go.IR
open Go.FR Go.Proofs
set_option linter.unusedVariables false
set_option maxRecDepth 100000
theorem G_glyphiclaw2_WireBack : GoodF Tryd.prog cfg f_glyphiclaw2_WireBack F_glyphiclaw2_WireBack := good_body Tryd.func8 (by kernel_rfl) (by kernel_rfl) (by kernel_rfl)
theorem G_glyphicsee_Is : GoodF Tryd.prog cfg f_glyphicsee_Is F_glyphicsee_Is := good_body Tryd.func17 (by kernel_rfl) (by kernel_rfl) (by kernel_rfl)
theorem G_glyphiclaw2_first : GoodF Tryd.prog cfg f_glyphiclaw2_first F_glyphiclaw2_first := good_body Tryd.func20 (by kernel_rfl) (by kernel_rfl) (by kernel_rfl)
theorem G_wire_Get : GoodF Tryd.prog cfg f_wire_Get F_wire_Get := good_body Tryd.func21 (by kernel_rfl) (by kernel_rfl) (by kernel_rfl)
theorem G_glyphicref_SameBytes : GoodF Tryd.prog cfg f_glyphicref_SameBytes F_glyphicref_SameBytes := good_body Tryd.func22 (by kernel_rfl) (by kernel_rfl) (by kernel_rfl)
theorem G_wire_Put : GoodF Tryd.prog cfg f_wire_Put F_wire_Put := good_body Tryd.func23 (by kernel_rfl) (by kernel_rfl) (by kernel_rfl)
theorem G_glyphicsee_Same : GoodF Tryd.prog cfg f_glyphicsee_Same F_glyphicsee_Same := good_body Tryd.func24 (by kernel_rfl) (by kernel_rfl) (by kernel_rfl)
theorem G_glyphicref_Placed : GoodF Tryd.prog cfg f_glyphicref_Placed F_glyphicref_Placed := good_body Tryd.func25 (by kernel_rfl) (by kernel_rfl) (by kernel_rfl)
theorem G_wire_Size : GoodF Tryd.prog cfg f_wire_Size F_wire_Size := good_body Tryd.func26 (by kernel_rfl) (by kernel_rfl) (by kernel_rfl)
theorem G_wire_Zag : GoodF Tryd.prog cfg f_wire_Zag F_wire_Zag := good_body Tryd.func27 (by kernel_rfl) (by kernel_rfl) (by kernel_rfl)
theorem G_wire_Zig : GoodF Tryd.prog cfg f_wire_Zig F_wire_Zig := good_body Tryd.func28 (by kernel_rfl) (by kernel_rfl) (by kernel_rfl)
theorem G_glyphicref_None : GoodF Tryd.prog cfg f_glyphicref_None F_glyphicref_None := good_body Tryd.func34 (by kernel_rfl) (by kernel_rfl) (by kernel_rfl)
theorem G_glyphicref_SameFault : GoodF Tryd.prog cfg f_glyphicref_SameFault F_glyphicref_SameFault := good_body Tryd.func36 (by kernel_rfl) (by kernel_rfl) (by kernel_rfl)
theorem G_glyphicref_Bare : GoodF Tryd.prog cfg f_glyphicref_Bare F_glyphicref_Bare := good_body Tryd.func41 (by kernel_rfl) (by kernel_rfl) (by kernel_rfl)
theorem G_slices_Clone__byte_byte : GoodF Tryd.prog cfg f_slices_Clone__byte_byte F_slices_Clone__byte_byte := good_body Tryd.func42 (by kernel_rfl) (by kernel_rfl) (by kernel_rfl)
theorem G_glyphicsee_Fault : GoodF Tryd.prog cfg f_glyphicsee_Fault F_glyphicsee_Fault := good_body Tryd.func43 (by kernel_rfl) (by kernel_rfl) (by kernel_rfl)
theorem G_glyphicsee_sentinel : GoodF Tryd.prog cfg f_glyphicsee_sentinel F_glyphicsee_sentinel := good_body Tryd.func50 (by kernel_rfl) (by kernel_rfl) (by kernel_rfl)
theorem G_glyphicsee_sentinels : GoodF Tryd.prog cfg f_glyphicsee_sentinels F_glyphicsee_sentinels := good_body Tryd.func53 (by kernel_rfl) (by kernel_rfl) (by kernel_rfl)
theorem G_glyphicsee_Alike : GoodF Tryd.prog cfg f_glyphicsee_Alike F_glyphicsee_Alike := good_body Tryd.func54 (by kernel_rfl) (by kernel_rfl) (by kernel_rfl)
theorem good : AllGood Tryd.prog cfg envL := ⟨G_glyphiclaw2_WireBack, G_glyphicsee_Is, G_glyphiclaw2_first, G_wire_Get, G_glyphicref_SameBytes, G_wire_Put, G_glyphicsee_Same, G_glyphicref_Placed, G_wire_Size, G_wire_Zag, G_wire_Zig, G_glyphicref_None, G_glyphicref_SameFault, G_glyphicref_Bare, G_slices_Clone__byte_byte, G_glyphicsee_Fault, G_glyphicsee_sentinel, G_glyphicsee_sentinels, G_glyphicsee_Alike, trivial⟩
end Go.IR
