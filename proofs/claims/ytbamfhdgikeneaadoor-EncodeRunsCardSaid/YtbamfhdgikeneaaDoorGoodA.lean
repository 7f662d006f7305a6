/- The functions' text is the program's. -/
import Derived.Test.YtbamfhdgikeneaaDoorIrA
import Derived.Test.YtbamfhdgikeneaaDoorProg
import Derived.KernelRfl
namespace Go.IR
open Go.FR Go.Proofs
set_option linter.unusedVariables false
set_option maxRecDepth 100000
theorem G_glyphiclaw6_EncodeRuns : GoodF Tryd.prog cfg f_glyphiclaw6_EncodeRuns F_glyphiclaw6_EncodeRuns := good_body Tryd.func9 (by kernel_rfl) (by kernel_rfl) (by kernel_rfl)
theorem G_icon_Greatest : GoodF Tryd.prog cfg f_icon_Greatest F_icon_Greatest := good_body Tryd.func17 (by kernel_rfl) (by kernel_rfl) (by kernel_rfl)
theorem G_icon_Check : GoodF Tryd.prog cfg f_icon_Check F_icon_Check := good_body Tryd.func18 (by kernel_rfl) (by kernel_rfl) (by kernel_rfl)
theorem G_icon_Points : GoodF Tryd.prog cfg f_icon_Points F_icon_Points := good_body Tryd.func20 (by kernel_rfl) (by kernel_rfl) (by kernel_rfl)
theorem G_glyphiclaw6_first : GoodF Tryd.prog cfg f_glyphiclaw6_first F_glyphiclaw6_first := good_body Tryd.func28 (by kernel_rfl) (by kernel_rfl) (by kernel_rfl)
theorem G_encode_Bytes : GoodF Tryd.prog cfg f_encode_Bytes F_encode_Bytes := good_body Tryd.func30 (by kernel_rfl) (by kernel_rfl) (by kernel_rfl)
theorem G_encode_Runs : GoodF Tryd.prog cfg f_encode_Runs F_encode_Runs := good_body Tryd.func33 (by kernel_rfl) (by kernel_rfl) (by kernel_rfl)
theorem G_icon_sized : GoodF Tryd.prog cfg f_icon_sized F_icon_sized := good_body Tryd.func64 (by kernel_rfl) (by kernel_rfl) (by kernel_rfl)
theorem G_icon_cmd : GoodF Tryd.prog cfg f_icon_cmd F_icon_cmd := good_body Tryd.func65 (by kernel_rfl) (by kernel_rfl) (by kernel_rfl)
theorem G_icon_used : GoodF Tryd.prog cfg f_icon_used F_icon_used := good_body Tryd.func66 (by kernel_rfl) (by kernel_rfl) (by kernel_rfl)
theorem G_encode_writer_num : GoodF Tryd.prog cfg f_encode_writer_num F_encode_writer_num := good_body Tryd.func76 (by kernel_rfl) (by kernel_rfl) (by kernel_rfl)
theorem G_encode_each__api_Color : GoodF Tryd.prog cfg f_encode_each__api_Color F_encode_each__api_Color := good_body Tryd.func77 (by kernel_rfl) (by kernel_rfl) (by kernel_rfl)
theorem G_encode_writer_color : GoodF Tryd.prog cfg f_encode_writer_color F_encode_writer_color := good_body Tryd.func78 (by kernel_rfl) (by kernel_rfl) (by kernel_rfl)
theorem G_encode_each__api_Cmd : GoodF Tryd.prog cfg f_encode_each__api_Cmd F_encode_each__api_Cmd := good_body Tryd.func79 (by kernel_rfl) (by kernel_rfl) (by kernel_rfl)
theorem G_icon_in__int : GoodF Tryd.prog cfg f_icon_in__int F_icon_in__int := good_body Tryd.func98 (by kernel_rfl) (by kernel_rfl) (by kernel_rfl)
theorem G_icon_head : GoodF Tryd.prog cfg f_icon_head F_icon_head := good_body Tryd.func99 (by kernel_rfl) (by kernel_rfl) (by kernel_rfl)
theorem G_icon_paint : GoodF Tryd.prog cfg f_icon_paint F_icon_paint := good_body Tryd.func100 (by kernel_rfl) (by kernel_rfl) (by kernel_rfl)
theorem G_icon_path : GoodF Tryd.prog cfg f_icon_path F_icon_path := good_body Tryd.func101 (by kernel_rfl) (by kernel_rfl) (by kernel_rfl)
theorem G_slices_Contains__api_Color_api_Color : GoodF Tryd.prog cfg f_slices_Contains__api_Color_api_Color F_slices_Contains__api_Color_api_Color := good_body Tryd.func102 (by kernel_rfl) (by kernel_rfl) (by kernel_rfl)
theorem G_wire_Put : GoodF Tryd.prog cfg f_wire_Put F_wire_Put := good_body Tryd.func108 (by kernel_rfl) (by kernel_rfl) (by kernel_rfl)
theorem G_icon_in__int64 : GoodF Tryd.prog cfg f_icon_in__int64 F_icon_in__int64 := good_body Tryd.func121 (by kernel_rfl) (by kernel_rfl) (by kernel_rfl)
theorem G_icon_far : GoodF Tryd.prog cfg f_icon_far F_icon_far := good_body Tryd.func122 (by kernel_rfl) (by kernel_rfl) (by kernel_rfl)
theorem G_icon_seg : GoodF Tryd.prog cfg f_icon_seg F_icon_seg := good_body Tryd.func123 (by kernel_rfl) (by kernel_rfl) (by kernel_rfl)
theorem G_slices_Index__api_Color_api_Color : GoodF Tryd.prog cfg f_slices_Index__api_Color_api_Color F_slices_Index__api_Color_api_Color := good_body Tryd.func124 (by kernel_rfl) (by kernel_rfl) (by kernel_rfl)
theorem G_slices_Clone__byte_byte : GoodF Tryd.prog cfg f_slices_Clone__byte_byte F_slices_Clone__byte_byte := good_body Tryd.func130 (by kernel_rfl) (by kernel_rfl) (by kernel_rfl)
theorem good : AllGood Tryd.prog cfg envL := ⟨G_glyphiclaw6_EncodeRuns, G_icon_Greatest, G_icon_Check, G_icon_Points, G_glyphiclaw6_first, G_encode_Bytes, G_encode_Runs, G_icon_sized, G_icon_cmd, G_icon_used, G_encode_writer_num, G_encode_each__api_Color, G_encode_writer_color, G_encode_each__api_Cmd, G_icon_in__int, G_icon_head, G_icon_paint, G_icon_path, G_slices_Contains__api_Color_api_Color, G_wire_Put, G_icon_in__int64, G_icon_far, G_icon_seg, G_slices_Index__api_Color_api_Color, G_slices_Clone__byte_byte, trivial⟩
end Go.IR
