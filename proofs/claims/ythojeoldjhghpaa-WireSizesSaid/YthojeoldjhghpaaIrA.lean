/- The functions that the seat's laws reach, as the fast run has them; under names that do not hang on the seat. By program (wip/pr2.py). -/
import Derived.Test.YthojeoldjhghpaaFrT
namespace Go.IR
set_option linter.unusedVariables false
set_option linter.unusedSimpArgs false
open Go Go.FR
abbrev f_glyphiclaw2_WireSizes : Nat := 4
abbrev f_glyphiclaw2_first : Nat := 17
abbrev f_wire_Size : Nat := 18
abbrev f_wire_Zig : Nat := 19
abbrev f_wire_Put : Nat := 20
abbrev f_slices_Clone__byte_byte : Nat := 41
/- glyphiclaw2.WireSizes -/
def c_glyphiclaw2_WireSizes : AC :=
 .seq (.ops [⟨(some 4), [.c (.bool false)], .p (.mov), none⟩])
 (.seq (.ops [⟨(some 11), [], .w (.callF f_glyphiclaw2_first), none⟩,
   ⟨(some 5), [.t 11], .p (.mov), none⟩])
 (.seq (.seq (.ops [⟨(some 12), [.t 5], .p (.mov), none⟩,
   ⟨(some 13), [.t 12], .p (.un .not), none⟩])
 (.cond (.t 13)
  (.seq (.ops [⟨(some 4), [.c (.bool false)], .p (.mov), none⟩])
  (.ret))
  (.skip)))
 (.seq (.ops [⟨(some 14), [.t 0], .p (.mov), none⟩,
   ⟨(some 15), [.t 14, .c (.int .i64 9)], .p (.bin .rem), none⟩,
   ⟨(some 16), [.t 15, .c (.int .i64 9)], .p (.bin .add), none⟩,
   ⟨(some 17), [.t 16, .c (.int .i64 9)], .p (.bin .rem), none⟩,
   ⟨(some 18), [.t 17, .c (.int .i64 1)], .p (.bin .add), none⟩,
   ⟨(some 0), [.t 18], .p (.mov), none⟩])
 (.seq (.ops [⟨(some 19), [.t 0], .p (.mov), none⟩,
   ⟨(some 20), [.c (.int .i64 7), .t 19], .p (.bin .mul), none⟩,
   ⟨(some 21), [.t 20], .p (.conv .u64), none⟩,
   ⟨(some 22), [.c (.int .u64 1), .t 21], .p (.bin .shl), none⟩,
   ⟨(some 6), [.t 22], .p (.mov), none⟩])
 (.seq (.ops [⟨(some 23), [.t 6], .p (.mov), none⟩,
   ⟨(some 24), [.t 23], .w (.callF f_wire_Size), none⟩,
   ⟨(some 7), [.t 24], .p (.mov), none⟩])
 (.seq (.ops [⟨(some 25), [.t 6], .p (.mov), none⟩,
   ⟨(some 26), [.t 25, .c (.int .u64 1)], .p (.bin .sub), none⟩,
   ⟨(some 27), [.t 26], .w (.callF f_wire_Size), none⟩,
   ⟨(some 8), [.t 27], .p (.mov), none⟩])
 (.seq (.ops [⟨(some 28), [.t 1], .p (.mov), none⟩,
   ⟨(some 29), [.t 28], .w (.callF f_wire_Zig), none⟩,
   ⟨(some 9), [.t 29], .p (.mov), none⟩])
 (.seq (.ops [⟨(some 30), [.t 1], .p (.mov), none⟩,
   ⟨(some 31), [.t 30, .c (.int .i64 2)], .p (.bin .quo), none⟩,
   ⟨(some 10), [.t 31], .p (.mov), none⟩])
 (.seq (.ops [⟨(some 32), [.t 5], .p (.mov), none⟩,
   ⟨(some 33), [.t 32], .p (.mov), none⟩,
   ⟨(some 34), [.t 7], .p (.mov), some (33, true)⟩,
   ⟨(some 35), [.t 0], .p (.mov), some (33, true)⟩,
   ⟨(some 36), [.t 35, .c (.int .i64 1)], .p (.bin .add), some (33, true)⟩,
   ⟨(some 37), [.t 34, .t 36], .p (.bin .eql), some (33, true)⟩,
   ⟨(some 38), [.t 33, .t 37, .c (.bool false)], .p (.pick), none⟩,
   ⟨(some 39), [.t 38], .p (.mov), none⟩,
   ⟨(some 40), [.t 8], .p (.mov), some (39, true)⟩,
   ⟨(some 41), [.t 0], .p (.mov), some (39, true)⟩,
   ⟨(some 42), [.t 40, .t 41], .p (.bin .eql), some (39, true)⟩,
   ⟨(some 43), [.t 39, .t 42, .c (.bool false)], .p (.pick), none⟩,
   ⟨(some 44), [.t 43], .p (.mov), none⟩,
   ⟨(some 45), [.c (.int .u64 18446744073709551615)], .w (.callF f_wire_Size), some (44, true)⟩,
   ⟨(some 46), [.t 45, .c (.int .i64 10)], .p (.bin .eql), some (44, true)⟩,
   ⟨(some 47), [.t 44, .t 46, .c (.bool false)], .p (.pick), none⟩,
   ⟨(some 48), [.t 47], .p (.mov), none⟩,
   ⟨(some 49), [.c (.int .u64 0)], .w (.callF f_wire_Size), some (48, true)⟩,
   ⟨(some 50), [.t 49, .c (.int .i64 1)], .p (.bin .eql), some (48, true)⟩,
   ⟨(some 51), [.t 48, .t 50, .c (.bool false)], .p (.pick), none⟩,
   ⟨(some 52), [.t 51], .p (.mov), none⟩,
   ⟨(some 53), [.t 10], .p (.mov), some (52, true)⟩,
   ⟨(some 54), [.t 53], .w (.callF f_wire_Zig), some (52, true)⟩,
   ⟨(some 55), [.t 54], .w (.callF f_wire_Size), some (52, true)⟩,
   ⟨(some 56), [.t 9], .p (.mov), some (52, true)⟩,
   ⟨(some 57), [.t 56], .w (.callF f_wire_Size), some (52, true)⟩,
   ⟨(some 58), [.t 55, .t 57], .p (.bin .leq), some (52, true)⟩,
   ⟨(some 59), [.t 52, .t 58, .c (.bool false)], .p (.pick), none⟩,
   ⟨(some 60), [.t 59], .p (.mov), none⟩,
   ⟨(some 61), [.t 9], .p (.mov), some (60, true)⟩,
   ⟨(some 62), [.t 61, .c (.int .u64 1)], .p (.bin .and), some (60, true)⟩,
   ⟨(some 63), [.t 62, .c (.int .u64 1)], .p (.bin .eql), some (60, true)⟩,
   ⟨(some 64), [.t 1], .p (.mov), some (60, true)⟩,
   ⟨(some 65), [.t 64, .c (.int .i64 0)], .p (.bin .lss), some (60, true)⟩,
   ⟨(some 66), [.t 63, .t 65], .r (.eq false .bool), some (60, true)⟩,
   ⟨(some 67), [.t 60, .t 66, .c (.bool false)], .p (.pick), none⟩,
   ⟨(some 68), [.t 67], .p (.mov), none⟩,
   ⟨(some 69), [.t 6], .p (.mov), some (68, true)⟩,
   ⟨(some 70), [.c (.slice none 0 (.exact 0)), .t 69], .w (.callF f_wire_Put), some (68, true)⟩,
   ⟨(some 71), [.t 70], .p (.lenSl), some (68, true)⟩,
   ⟨(some 72), [.t 7], .p (.mov), some (68, true)⟩,
   ⟨(some 73), [.t 71, .t 72], .p (.bin .eql), some (68, true)⟩,
   ⟨(some 74), [.t 68, .t 73, .c (.bool false)], .p (.pick), none⟩,
   ⟨(some 4), [.t 74], .p (.mov), none⟩])
 (.ret))))))))))
def r_glyphiclaw2_WireSizes : List ARes := [.tmp 4]
def F_glyphiclaw2_WireSizes : AFunc := .code c_glyphiclaw2_WireSizes r_glyphiclaw2_WireSizes
/- glyphiclaw2.first -/
def c_glyphiclaw2_first : AC :=
 .seq (.ops [⟨(some 0), [.c (.bool false)], .p (.mov), none⟩])
 (.seq (.ops [⟨(some 2), [.c (.slice none 0 (.exact 0)), .c (.int .u64 300)], .w (.callF f_wire_Put), none⟩,
   ⟨(some 1), [.t 2], .p (.mov), none⟩])
 (.seq (.ops [⟨(some 3), [.t 1], .p (.mov), none⟩,
   ⟨(some 4), [.t 3], .p (.lenSl), none⟩,
   ⟨(some 5), [.t 4, .c (.int .i64 2)], .p (.bin .eql), none⟩,
   ⟨(some 6), [.t 5], .p (.mov), none⟩,
   ⟨(some 7), [.t 1], .p (.mov), some (6, true)⟩,
   ⟨(some 8), [.t 7, .c (.int .i64 0)], .p (.iAddrS 1), some (6, true)⟩,
   ⟨(some 9), [.t 8], .r (.load none), some (6, true)⟩,
   ⟨(some 10), [.t 9, .c (.int .u8 172)], .p (.bin .eql), some (6, true)⟩,
   ⟨(some 11), [.t 6, .t 10, .c (.bool false)], .p (.pick), none⟩,
   ⟨(some 12), [.t 11], .p (.mov), none⟩,
   ⟨(some 13), [.t 1], .p (.mov), some (12, true)⟩,
   ⟨(some 14), [.t 13, .c (.int .i64 1)], .p (.iAddrS 1), some (12, true)⟩,
   ⟨(some 15), [.t 14], .r (.load none), some (12, true)⟩,
   ⟨(some 16), [.t 15, .c (.int .u8 2)], .p (.bin .eql), some (12, true)⟩,
   ⟨(some 17), [.t 12, .t 16, .c (.bool false)], .p (.pick), none⟩,
   ⟨(some 18), [.t 17], .p (.mov), none⟩,
   ⟨(some 19), [.c (.int .i64 (-1))], .w (.callF f_wire_Zig), some (18, true)⟩,
   ⟨(some 20), [.t 19, .c (.int .u64 1)], .p (.bin .eql), some (18, true)⟩,
   ⟨(some 21), [.t 18, .t 20, .c (.bool false)], .p (.pick), none⟩,
   ⟨(some 0), [.t 21], .p (.mov), none⟩])
 (.ret)))
def r_glyphiclaw2_first : List ARes := [.tmp 0]
def F_glyphiclaw2_first : AFunc := .code c_glyphiclaw2_first r_glyphiclaw2_first
/- wire.Size -/
def c_wire_Size : AC :=
 .seq (.ops [⟨(some 2), [.c (.int .i64 0)], .p (.mov), none⟩])
 (.seq (.ops [⟨(some 3), [.t 0], .p (.mov), none⟩,
   ⟨(some 4), [.c (.slice none 0 (.exact 0)), .t 3], .w (.callF f_wire_Put), none⟩,
   ⟨(some 5), [.t 4], .p (.lenSl), none⟩,
   ⟨(some 2), [.t 5], .p (.mov), none⟩])
 (.ret))
def r_wire_Size : List ARes := [.tmp 2]
def F_wire_Size : AFunc := .code c_wire_Size r_wire_Size
/- wire.Zig -/
def c_wire_Zig : AC :=
 .seq (.ops [⟨(some 2), [.c (.int .u64 0)], .p (.mov), none⟩])
 (.seq (.ops [⟨(some 3), [.t 0], .p (.mov), none⟩,
   ⟨(some 4), [.t 3], .p (.conv .u64), none⟩,
   ⟨(some 5), [.t 4, .c (.int .u64 1)], .p (.bin .shl), none⟩,
   ⟨(some 6), [.t 0], .p (.mov), none⟩,
   ⟨(some 7), [.t 6, .c (.int .u64 63)], .p (.bin .shr), none⟩,
   ⟨(some 8), [.t 7], .p (.conv .u64), none⟩,
   ⟨(some 9), [.t 5, .t 8], .p (.bin .xor), none⟩,
   ⟨(some 2), [.t 9], .p (.mov), none⟩])
 (.ret))
def r_wire_Zig : List ARes := [.tmp 2]
def F_wire_Zig : AFunc := .code c_wire_Zig r_wire_Zig
/- wire.Put -/
def c_wire_Put_l0 : AC :=
 .seq (.seq (.ops [⟨(some 7), [.t 1], .p (.mov), none⟩,
     ⟨(some 8), [.t 7, .c (.int .u64 128)], .p (.bin .geq), none⟩])
   (.cond (.t 8)
    (.skip)
    (.exit 0)))
   (.block 1
    (.seq (.ops [⟨(some 9), [.t 0], .p (.mov), none⟩,
      ⟨(some 10), [.t 1], .p (.mov), none⟩,
      ⟨(some 11), [.t 10], .p (.conv .u8), none⟩,
      ⟨(some 12), [.t 11, .c (.int .u8 128)], .p (.bin .or), none⟩,
      ⟨(some 13), [.t 12], .n (.bslice 1 [(.int .u8 0)] [(0, 1)]), none⟩,
      ⟨(some 14), [.t 9, .t 13], .w (.append 1 1), none⟩,
      ⟨(some 0), [.t 14], .p (.mov), none⟩])
    (.ops [⟨(some 15), [.t 1], .p (.mov), none⟩,
      ⟨(some 16), [.t 15, .c (.int .u64 7)], .p (.bin .shr), none⟩,
      ⟨(some 1), [.t 16], .p (.mov), none⟩])))
def c_wire_Put : AC :=
 .seq (.ops [⟨(some 4), [.c (.slice none 0 (.exact 0))], .p (.mov), none⟩])
 (.seq (.ops [⟨(some 5), [.t 0], .p (.mov), none⟩,
   ⟨(some 6), [.t 5], .w (.callF f_slices_Clone__byte_byte), none⟩,
   ⟨(some 0), [.t 6], .p (.mov), none⟩])
 (.seq (.block 0
  (.loop c_wire_Put_l0))
 (.seq (.ops [⟨(some 17), [.t 0], .p (.mov), none⟩,
   ⟨(some 18), [.t 1], .p (.mov), none⟩,
   ⟨(some 19), [.t 18], .p (.conv .u8), none⟩,
   ⟨(some 20), [.t 19], .n (.bslice 1 [(.int .u8 0)] [(0, 1)]), none⟩,
   ⟨(some 21), [.t 17, .t 20], .w (.append 1 1), none⟩,
   ⟨(some 4), [.t 21], .p (.mov), none⟩])
 (.ret))))
def r_wire_Put : List ARes := [.tmp 4]
def F_wire_Put : AFunc := .code c_wire_Put r_wire_Put
/- slices.Clone[[]byte,byte] -/
def c_slices_Clone__byte_byte : AC :=
 .seq (.ops [⟨(some 2), [.c (.slice none 0 (.exact 0))], .p (.mov), none⟩])
 (.seq (.seq (.ops [⟨(some 3), [.t 0], .p (.mov), none⟩,
   ⟨(some 4), [.t 3, .c (.slice none 0 (.exact 0))], .r (.eq false .nilS), none⟩])
 (.cond (.t 4)
  (.seq (.ops [⟨(some 2), [.c (.slice none 0 (.exact 0))], .p (.mov), none⟩])
  (.ret))
  (.skip)))
 (.seq (.ops [⟨(some 5), [], .n (.bslice 0 [] []), none⟩,
   ⟨(some 6), [.t 0], .p (.mov), none⟩,
   ⟨(some 7), [.t 5, .t 6], .w (.append 1 1), none⟩,
   ⟨(some 2), [.t 7], .p (.mov), none⟩])
 (.ret)))
def r_slices_Clone__byte_byte : List ARes := [.tmp 2]
def F_slices_Clone__byte_byte : AFunc := .code c_slices_Clone__byte_byte r_slices_Clone__byte_byte
def cfg : Cfg := ⟨[], []⟩
def envL : List (Nat × AFunc) := [(f_glyphiclaw2_WireSizes, F_glyphiclaw2_WireSizes), (f_glyphiclaw2_first, F_glyphiclaw2_first), (f_wire_Size, F_wire_Size), (f_wire_Zig, F_wire_Zig), (f_wire_Put, F_wire_Put), (f_slices_Clone__byte_byte, F_slices_Clone__byte_byte)]
theorem E_glyphiclaw2_WireSizes : lookE envL f_glyphiclaw2_WireSizes = some F_glyphiclaw2_WireSizes := rfl
theorem E_glyphiclaw2_first : lookE envL f_glyphiclaw2_first = some F_glyphiclaw2_first := rfl
theorem E_wire_Size : lookE envL f_wire_Size = some F_wire_Size := rfl
theorem E_wire_Zig : lookE envL f_wire_Zig = some F_wire_Zig := rfl
theorem E_wire_Put : lookE envL f_wire_Put = some F_wire_Put := rfl
theorem E_slices_Clone__byte_byte : lookE envL f_slices_Clone__byte_byte = some F_slices_Clone__byte_byte := rfl
end Go.IR
