/- The functions' text is the program's. -/
import Derived.Test.YtbamfhdgikeneaaDoorIrA
import Derived.Test.YtbamfhdgikeneaaDoorProg
import Derived.KernelRfl
namespace Go.IR
open Go.FR Go.Proofs
set_option linter.unusedVariables false
set_option maxRecDepth 100000
theorem G_glyphiclaw5_IconLimits : GoodF Tryd.prog cfg f_glyphiclaw5_IconLimits F_glyphiclaw5_IconLimits := good_body Tryd.func4 (by kernel_rfl) (by kernel_rfl) (by kernel_rfl)
theorem G_glyphiclaw5_first : GoodF Tryd.prog cfg f_glyphiclaw5_first F_glyphiclaw5_first := good_body Tryd.func15 (by kernel_rfl) (by kernel_rfl) (by kernel_rfl)
theorem G_icon_Greatest : GoodF Tryd.prog cfg f_icon_Greatest F_icon_Greatest := good_body Tryd.func17 (by kernel_rfl) (by kernel_rfl) (by kernel_rfl)
theorem G_icon_Check : GoodF Tryd.prog cfg f_icon_Check F_icon_Check := good_body Tryd.func18 (by kernel_rfl) (by kernel_rfl) (by kernel_rfl)
theorem G_glyphicsee_Is : GoodF Tryd.prog cfg f_glyphicsee_Is F_glyphicsee_Is := good_body Tryd.func19 (by kernel_rfl) (by kernel_rfl) (by kernel_rfl)
theorem G_icon_Points : GoodF Tryd.prog cfg f_icon_Points F_icon_Points := good_body Tryd.func20 (by kernel_rfl) (by kernel_rfl) (by kernel_rfl)
theorem G_glyphicsee_Fault : GoodF Tryd.prog cfg f_glyphicsee_Fault F_glyphicsee_Fault := good_body Tryd.func27 (by kernel_rfl) (by kernel_rfl) (by kernel_rfl)
theorem G_glyphicsee_Same : GoodF Tryd.prog cfg f_glyphicsee_Same F_glyphicsee_Same := good_body Tryd.func41 (by kernel_rfl) (by kernel_rfl) (by kernel_rfl)
theorem G_glyphicworld_Number : GoodF Tryd.prog cfg f_glyphicworld_Number F_glyphicworld_Number := good_body Tryd.func53 (by kernel_rfl) (by kernel_rfl) (by kernel_rfl)
theorem G_glyphicref_Placed : GoodF Tryd.prog cfg f_glyphicref_Placed F_glyphicref_Placed := good_body Tryd.func54 (by kernel_rfl) (by kernel_rfl) (by kernel_rfl)
theorem G_glyphicmake_Seq_Next : GoodF Tryd.prog cfg f_glyphicmake_Seq_Next F_glyphicmake_Seq_Next := good_body Tryd.func57 (by kernel_rfl) (by kernel_rfl) (by kernel_rfl)
theorem G_glyphicmake_Point : GoodF Tryd.prog cfg f_glyphicmake_Point F_glyphicmake_Point := good_body Tryd.func61 (by kernel_rfl) (by kernel_rfl) (by kernel_rfl)
theorem G_glyphicmake_Path : GoodF Tryd.prog cfg f_glyphicmake_Path F_glyphicmake_Path := good_body Tryd.func63 (by kernel_rfl) (by kernel_rfl) (by kernel_rfl)
theorem G_icon_sized : GoodF Tryd.prog cfg f_icon_sized F_icon_sized := good_body Tryd.func64 (by kernel_rfl) (by kernel_rfl) (by kernel_rfl)
theorem G_icon_cmd : GoodF Tryd.prog cfg f_icon_cmd F_icon_cmd := good_body Tryd.func65 (by kernel_rfl) (by kernel_rfl) (by kernel_rfl)
theorem G_icon_used : GoodF Tryd.prog cfg f_icon_used F_icon_used := good_body Tryd.func66 (by kernel_rfl) (by kernel_rfl) (by kernel_rfl)
theorem G_glyphicref_Bare : GoodF Tryd.prog cfg f_glyphicref_Bare F_glyphicref_Bare := good_body Tryd.func67 (by kernel_rfl) (by kernel_rfl) (by kernel_rfl)
theorem G_glyphicref_None : GoodF Tryd.prog cfg f_glyphicref_None F_glyphicref_None := good_body Tryd.func73 (by kernel_rfl) (by kernel_rfl) (by kernel_rfl)
theorem G_glyphicsee_sentinel : GoodF Tryd.prog cfg f_glyphicsee_sentinel F_glyphicsee_sentinel := good_body Tryd.func74 (by kernel_rfl) (by kernel_rfl) (by kernel_rfl)
theorem G_glyphicref_SameFault : GoodF Tryd.prog cfg f_glyphicref_SameFault F_glyphicref_SameFault := good_body Tryd.func88 (by kernel_rfl) (by kernel_rfl) (by kernel_rfl)
theorem G_glyphicmake_inside : GoodF Tryd.prog cfg f_glyphicmake_inside F_glyphicmake_inside := good_body Tryd.func97 (by kernel_rfl) (by kernel_rfl) (by kernel_rfl)
theorem G_icon_in__int : GoodF Tryd.prog cfg f_icon_in__int F_icon_in__int := good_body Tryd.func98 (by kernel_rfl) (by kernel_rfl) (by kernel_rfl)
theorem G_icon_head : GoodF Tryd.prog cfg f_icon_head F_icon_head := good_body Tryd.func99 (by kernel_rfl) (by kernel_rfl) (by kernel_rfl)
theorem G_icon_paint : GoodF Tryd.prog cfg f_icon_paint F_icon_paint := good_body Tryd.func100 (by kernel_rfl) (by kernel_rfl) (by kernel_rfl)
theorem G_icon_path : GoodF Tryd.prog cfg f_icon_path F_icon_path := good_body Tryd.func101 (by kernel_rfl) (by kernel_rfl) (by kernel_rfl)
theorem G_slices_Contains__api_Color_api_Color : GoodF Tryd.prog cfg f_slices_Contains__api_Color_api_Color F_slices_Contains__api_Color_api_Color := good_body Tryd.func102 (by kernel_rfl) (by kernel_rfl) (by kernel_rfl)
theorem G_glyphicsee_sentinels : GoodF Tryd.prog cfg f_glyphicsee_sentinels F_glyphicsee_sentinels := good_body Tryd.func106 (by kernel_rfl) (by kernel_rfl) (by kernel_rfl)
theorem G_glyphicsee_Alike : GoodF Tryd.prog cfg f_glyphicsee_Alike F_glyphicsee_Alike := good_body Tryd.func107 (by kernel_rfl) (by kernel_rfl) (by kernel_rfl)
theorem G_wire_Put : GoodF Tryd.prog cfg f_wire_Put F_wire_Put := good_body Tryd.func108 (by kernel_rfl) (by kernel_rfl) (by kernel_rfl)
theorem G_encode_writer_path : GoodF Tryd.prog cfg f_encode_writer_path F_encode_writer_path := good_body Tryd.func111 (by kernel_rfl) (by kernel_rfl) (by kernel_rfl)
theorem G_icon_in__int64 : GoodF Tryd.prog cfg f_icon_in__int64 F_icon_in__int64 := good_body Tryd.func121 (by kernel_rfl) (by kernel_rfl) (by kernel_rfl)
theorem G_icon_far : GoodF Tryd.prog cfg f_icon_far F_icon_far := good_body Tryd.func122 (by kernel_rfl) (by kernel_rfl) (by kernel_rfl)
theorem G_icon_seg : GoodF Tryd.prog cfg f_icon_seg F_icon_seg := good_body Tryd.func123 (by kernel_rfl) (by kernel_rfl) (by kernel_rfl)
theorem G_slices_Index__api_Color_api_Color : GoodF Tryd.prog cfg f_slices_Index__api_Color_api_Color F_slices_Index__api_Color_api_Color := good_body Tryd.func124 (by kernel_rfl) (by kernel_rfl) (by kernel_rfl)
theorem G_slices_Clone__byte_byte : GoodF Tryd.prog cfg f_slices_Clone__byte_byte F_slices_Clone__byte_byte := good_body Tryd.func130 (by kernel_rfl) (by kernel_rfl) (by kernel_rfl)
theorem G_encode_writer_point : GoodF Tryd.prog cfg f_encode_writer_point F_encode_writer_point := good_body Tryd.func131 (by kernel_rfl) (by kernel_rfl) (by kernel_rfl)
theorem G_plane_Sub : GoodF Tryd.prog cfg f_plane_Sub F_plane_Sub := good_body Tryd.func132 (by kernel_rfl) (by kernel_rfl) (by kernel_rfl)
theorem G_wire_Zig : GoodF Tryd.prog cfg f_wire_Zig F_wire_Zig := good_body Tryd.func144 (by kernel_rfl) (by kernel_rfl) (by kernel_rfl)
theorem good : AllGood Tryd.prog cfg envL := ⟨G_glyphiclaw5_IconLimits, G_glyphiclaw5_first, G_icon_Greatest, G_icon_Check, G_glyphicsee_Is, G_icon_Points, G_glyphicsee_Fault, G_glyphicsee_Same, G_glyphicworld_Number, G_glyphicref_Placed, G_glyphicmake_Seq_Next, G_glyphicmake_Point, G_glyphicmake_Path, G_icon_sized, G_icon_cmd, G_icon_used, G_glyphicref_Bare, G_glyphicref_None, G_glyphicsee_sentinel, G_glyphicref_SameFault, G_glyphicmake_inside, G_icon_in__int, G_icon_head, G_icon_paint, G_icon_path, G_slices_Contains__api_Color_api_Color, G_glyphicsee_sentinels, G_glyphicsee_Alike, G_wire_Put, G_encode_writer_path, G_icon_in__int64, G_icon_far, G_icon_seg, G_slices_Index__api_Color_api_Color, G_slices_Clone__byte_byte, G_encode_writer_point, G_plane_Sub, G_wire_Zig, trivial⟩
end Go.IR
