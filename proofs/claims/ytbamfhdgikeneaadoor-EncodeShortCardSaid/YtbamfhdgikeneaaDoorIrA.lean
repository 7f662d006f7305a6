/- The functions that the seat's laws reach, as the fast run has them; under names that do not hang on the seat. By program (wip/pr2.py). -/
import Derived.Test.YtbamfhdgikeneaaDoorFrT
namespace Go.IR
set_option linter.unusedVariables false
set_option linter.unusedSimpArgs false
open Go Go.FR
abbrev f_glyphiclaw6_EncodeShort : Nat := 11
abbrev f_glyphicmake_Icon : Nat := 16
abbrev f_icon_Greatest : Nat := 17
abbrev f_icon_Check : Nat := 18
abbrev f_icon_Points : Nat := 20
abbrev f_glyphiclaw6_first : Nat := 28
abbrev f_encode_Bytes : Nat := 30
abbrev f_encode_Runs : Nat := 33
abbrev f_glyphicworld_Number : Nat := 53
abbrev f_glyphicmake_Seq_Next : Nat := 57
abbrev f_glyphicmake_Seq_more : Nat := 58
abbrev f_glyphicmake_add : Nat := 59
abbrev f_glyphicmake_Color : Nat := 60
abbrev f_glyphicmake_Point : Nat := 61
abbrev f_glyphicref_SamePoint : Nat := 62
abbrev f_glyphicmake_Path : Nat := 63
abbrev f_icon_sized : Nat := 64
abbrev f_icon_cmd : Nat := 65
abbrev f_icon_used : Nat := 66
abbrev f_encode_writer_num : Nat := 76
abbrev f_encode_each__api_Color : Nat := 77
abbrev f_encode_writer_color : Nat := 78
abbrev f_encode_each__api_Cmd : Nat := 79
abbrev f_encode_writer_cmd : Nat := 80
abbrev f_glyphicmake_inside : Nat := 97
abbrev f_icon_in__int : Nat := 98
abbrev f_icon_head : Nat := 99
abbrev f_icon_paint : Nat := 100
abbrev f_icon_path : Nat := 101
abbrev f_slices_Contains__api_Color_api_Color : Nat := 102
abbrev f_wire_Put : Nat := 108
abbrev f_encode_writer_paint : Nat := 109
abbrev f_encode_each__api_Path : Nat := 110
abbrev f_encode_writer_path : Nat := 111
abbrev f_glyphicref_SameCmd : Nat := 116
abbrev f_icon_in__int64 : Nat := 121
abbrev f_icon_far : Nat := 122
abbrev f_icon_seg : Nat := 123
abbrev f_slices_Index__api_Color_api_Color : Nat := 124
abbrev f_slices_Clone__byte_byte : Nat := 130
abbrev f_encode_writer_point : Nat := 131
abbrev f_plane_Sub : Nat := 132
abbrev f_glyphicref_SamePaint : Nat := 134
abbrev f_glyphicref_SamePaths : Nat := 135
abbrev f_wire_Zig : Nat := 144
abbrev f_glyphicref_SamePath : Nat := 145
abbrev f_glyphicref_SameSegs : Nat := 158
abbrev f_glyphicref_SameSeg : Nat := 178
abbrev t_p_api_At : Nat := 140
abbrev t_p_errors_errorString : Nat := 291
abbrev g_ErrRange : Nat := 0
abbrev g_ErrLimit : Nat := 2
abbrev g_ErrCanon : Nat := 4
/- glyphiclaw6.EncodeShort -/
def c_glyphiclaw6_EncodeShort_l0 : AC :=
 .seq (.seq (.ops [⟨(some 29), [.t 10], .p (.mov), none⟩,
     ⟨(some 30), [.t 0], .p (.mov), none⟩,
     ⟨(some 31), [.t 29, .t 30], .p (.bin .lss), none⟩])
   (.cond (.t 31)
    (.skip)
    (.exit 0)))
   (.seq (.block 1
    (.seq (.ops [⟨(some 34), [.t 9], .p (.fAddr 0), none⟩,
      ⟨(some 35), [.t 34], .r (.load none), none⟩,
      ⟨(some 36), [.t 1], .p (.mov), none⟩,
      ⟨(some 37), [.t 35, .t 36], .p (.bin .add), none⟩,
      ⟨(some 38), [.t 9], .p (.fAddr 1), none⟩,
      ⟨(some 39), [.t 38], .r (.load none), none⟩,
      ⟨(some 40), [.t 2], .p (.mov), none⟩,
      ⟨(some 41), [.t 39, .t 40], .p (.bin .add), none⟩,
      ⟨(some 42), [.t 37, .t 41], .p (.build [(.int .i64 0), (.int .i64 0)] [(0, 1), (1, 1)]), none⟩,
      ⟨none, [.t 9, .t 42], .w (.store 2), none⟩])
    (.ops [⟨(some 43), [.t 8], .p (.fAddr 2), none⟩,
      ⟨(some 44), [.t 43], .r (.load none), none⟩,
      ⟨(some 45), [.t 9], .r (.load (some 2)), none⟩,
      ⟨(some 46), [.t 45], .p (.build [(.int .i64 0), (.int .i64 0), (.int .i64 0), (.int .i64 0), (.int .i64 0), (.int .i64 0)] [(0, 2)]), none⟩,
      ⟨(some 47), [.c (.int .i64 1), .t 46], .p (.build [(.int .i64 0), (.int .i64 0), (.int .i64 0), (.int .i64 0), (.int .i64 0), (.int .i64 0), (.int .i64 0)] [(0, 1), (1, 6)]), none⟩,
      ⟨(some 48), [.t 47], .n (.bslice 1 [(.int .i64 0), (.int .i64 0), (.int .i64 0), (.int .i64 0), (.int .i64 0), (.int .i64 0), (.int .i64 0)] [(0, 7)]), none⟩,
      ⟨(some 49), [.t 44, .t 48], .w (.append 7 56), none⟩,
      ⟨(some 50), [.t 8], .p (.fAddr 2), none⟩,
      ⟨none, [.t 50, .t 49], .w (.store 1), none⟩])))
   (.ops [⟨(some 32), [.t 10], .p (.mov), none⟩,
     ⟨(some 33), [.t 32, .c (.int .i64 1)], .p (.bin .add), none⟩,
     ⟨(some 10), [.t 33], .p (.mov), none⟩]))
def c_glyphiclaw6_EncodeShort : AC :=
 .seq (.ops [⟨(some 6), [.c (.bool false)], .p (.mov), none⟩])
 (.seq (.ops [⟨(some 15), [], .w (.callF f_glyphiclaw6_first), none⟩,
   ⟨(some 7), [.t 15], .p (.mov), none⟩])
 (.seq (.seq (.ops [⟨(some 16), [.t 7], .p (.mov), none⟩,
   ⟨(some 17), [.t 16], .p (.un .not), none⟩])
 (.cond (.t 17)
  (.seq (.ops [⟨(some 6), [.c (.bool false)], .p (.mov), none⟩])
  (.ret))
  (.skip)))
 (.seq (.ops [⟨(some 18), [.t 0], .p (.mov), none⟩,
   ⟨(some 19), [.t 18, .c (.int .i64 300)], .p (.bin .rem), none⟩,
   ⟨(some 20), [.t 19, .c (.int .i64 300)], .p (.bin .add), none⟩,
   ⟨(some 21), [.t 20, .c (.int .i64 300)], .p (.bin .rem), none⟩,
   ⟨(some 22), [.t 21, .c (.int .i64 1)], .p (.bin .add), none⟩,
   ⟨(some 0), [.t 22], .p (.mov), none⟩])
 (.seq (.ops [⟨(some 23), [.t 1], .p (.mov), none⟩,
   ⟨(some 24), [.t 23, .c (.int .i64 2)], .p (.bin .rem), none⟩,
   ⟨(some 1), [.t 24], .p (.mov), none⟩])
 (.seq (.ops [⟨(some 25), [.t 2], .p (.mov), none⟩,
   ⟨(some 26), [.t 25, .c (.int .i64 2)], .p (.bin .rem), none⟩,
   ⟨(some 2), [.t 26], .p (.mov), none⟩])
 (.seq (.ops [⟨(some 27), [], .p (.build [(.int .i64 0), (.int .i64 0), (.slice none 0 (.exact 0)), (.bool false)] []), none⟩,
   ⟨(some 8), [], .n (.alloc [(.int .i64 0), (.int .i64 0), (.slice none 0 (.exact 0)), (.bool false)]), none⟩,
   ⟨none, [.t 8, .t 27], .w (.store 4), none⟩])
 (.seq (.ops [⟨(some 28), [], .p (.build [(.int .i64 0), (.int .i64 0)] []), none⟩,
   ⟨(some 9), [], .n (.alloc [(.int .i64 0), (.int .i64 0)]), none⟩,
   ⟨none, [.t 9, .t 28], .w (.store 2), none⟩])
 (.seq (.seq (.ops [⟨(some 10), [.c (.int .i64 0)], .p (.mov), none⟩])
 (.block 0
  (.loop c_glyphiclaw6_EncodeShort_l0)))
 (.seq (.ops [⟨(some 51), [.c (.int .u8 1)], .p (.build [(.int .u8 0), (.int .u8 0), (.int .u8 0), (.int .u8 0)] [(0, 1)]), none⟩,
   ⟨(some 52), [.t 51], .n (.bslice 1 [(.int .u8 0), (.int .u8 0), (.int .u8 0), (.int .u8 0)] [(0, 4)]), none⟩,
   ⟨(some 53), [.t 8], .r (.load (some 4)), none⟩,
   ⟨(some 54), [.t 53], .n (.bslice 1 [(.int .i64 0), (.int .i64 0), (.slice none 0 (.exact 0)), (.bool false)] [(0, 4)]), none⟩,
   ⟨(some 55), [.c (.int .i64 1), .t 54], .p (.build [(.int .i64 0), (.int .i64 0), (.int .i64 0), (.int .i64 0), (.int .i64 0), (.int .i64 0), (.int .i64 0), (.int .i64 0), (.int .i64 0), (.int .i64 0), (.slice none 0 (.exact 0))] [(0, 1), (10, 1)]), none⟩,
   ⟨(some 56), [.t 55], .n (.bslice 1 [(.int .i64 0), (.int .i64 0), (.int .i64 0), (.int .i64 0), (.int .i64 0), (.int .i64 0), (.int .i64 0), (.int .i64 0), (.int .i64 0), (.int .i64 0), (.slice none 0 (.exact 0))] [(0, 11)]), none⟩,
   ⟨(some 57), [.c (.int .i64 100), .c (.int .i64 100), .t 52, .t 56], .p (.build [(.int .i64 0), (.int .i64 0), (.int .i64 0), (.slice none 0 (.exact 0)), (.slice none 0 (.exact 0))] [(0, 1), (1, 1), (3, 1), (4, 1)]), none⟩,
   ⟨(some 11), [], .n (.alloc [(.int .i64 0), (.int .i64 0), (.int .i64 0), (.slice none 0 (.exact 0)), (.slice none 0 (.exact 0))]), none⟩,
   ⟨none, [.t 11, .t 57], .w (.store 5), none⟩])
 (.seq (.ops [⟨(some 59), [.t 11], .r (.load (some 5)), none⟩,
   ⟨(some 60), [.t 59], .w (.callF f_encode_Bytes), none⟩,
   ⟨(some 58), [.t 60], .p (.mov), none⟩,
   ⟨(some 61), [.t 58], .p (.ext 0), none⟩,
   ⟨(some 62), [.t 58], .p (.ext 1), none⟩,
   ⟨(some 12), [.t 61], .p (.mov), none⟩,
   ⟨(some 13), [.t 62], .p (.mov), none⟩])
 (.seq (.ops [⟨(some 63), [.t 0], .p (.mov), none⟩,
   ⟨(some 64), [.c (.int .i64 2), .t 63], .p (.bin .mul), none⟩,
   ⟨(some 65), [.c (.int .i64 21), .t 64], .p (.bin .add), none⟩,
   ⟨(some 14), [.t 65], .p (.mov), none⟩])
 (.seq (.seq (.ops [⟨(some 66), [.t 0], .p (.mov), none⟩,
   ⟨(some 67), [.c (.int .i64 4), .t 66], .p (.bin .mul), none⟩,
   ⟨(some 68), [.t 67, .c (.int .i64 1)], .p (.bin .add), none⟩,
   ⟨(some 69), [.t 68, .c (.int .i64 128)], .p (.bin .lss), none⟩])
 (.cond (.t 69)
  (.ops [⟨(some 70), [.t 14], .p (.mov), none⟩,
    ⟨(some 71), [.t 70, .c (.int .i64 1)], .p (.bin .sub), none⟩,
    ⟨(some 14), [.t 71], .p (.mov), none⟩])
  (.skip)))
 (.seq (.ops [⟨(some 72), [.t 7], .p (.mov), none⟩,
   ⟨(some 73), [.t 72], .p (.mov), none⟩,
   ⟨(some 74), [.t 13], .p (.mov), some (73, true)⟩,
   ⟨(some 75), [.t 74, .c .nilIface], .r (.eq false (.iface [t_p_api_At, t_p_errors_errorString] true)), some (73, true)⟩,
   ⟨(some 76), [.t 73, .t 75, .c (.bool false)], .p (.pick), none⟩,
   ⟨(some 77), [.t 76], .p (.mov), none⟩,
   ⟨(some 78), [.t 12], .p (.mov), some (77, true)⟩,
   ⟨(some 79), [.t 78], .p (.lenSl), some (77, true)⟩,
   ⟨(some 80), [.t 14], .p (.mov), some (77, true)⟩,
   ⟨(some 81), [.t 79, .t 80], .p (.bin .eql), some (77, true)⟩,
   ⟨(some 82), [.t 77, .t 81, .c (.bool false)], .p (.pick), none⟩,
   ⟨(some 6), [.t 82], .p (.mov), none⟩])
 (.ret))))))))))))))
def r_glyphiclaw6_EncodeShort : List ARes := [.tmp 6]
def F_glyphiclaw6_EncodeShort : AFunc := .code c_glyphiclaw6_EncodeShort r_glyphiclaw6_EncodeShort
/- glyphicmake.Icon -/
def c_glyphicmake_Icon_l0 : AC :=
 .seq (.seq (.ops [⟨(some 113), [.t 7], .p (.mov), none⟩,
        ⟨(some 114), [.t 113, .c (.int .i64 0)], .p (.bin .geq), none⟩])
      (.cond (.t 114)
       (.skip)
       (.exit 2)))
      (.seq (.block 3
       (.draw [(⟨(some 121), [.t 6], .p (.fAddr 0), none⟩, 0),
         (⟨(some 122), [.t 121], .r (.load none), none⟩, 0),
         (⟨(some 123), [.t 122, .c (.int .i64 2)], .p (.bin .eql), none⟩, 0),
         (⟨(some 124), [.t 123], .p (.mov), none⟩, 0),
         (⟨(some 125), [.t 0], .p (.mov), some (124, true)⟩, 0),
         (⟨(some 126), [.t 125, .c (.int .i64 2)], .w (.callF f_glyphicmake_Seq_Next), some (124, true)⟩, 0),
         (⟨(some 119), [.t 0], .p (.mov), none⟩, 0),
         (⟨(some 120), [.t 4], .p (.mov), none⟩, 0),
         (⟨(some 127), [.t 126, .c (.int .i64 0)], .p (.bin .eql), some (124, true)⟩, 0),
         (⟨(some 128), [.t 124, .t 127, .c (.bool false)], .p (.pick), none⟩, 0),
         (⟨(some 129), [.t 119, .t 120, .t 128], .w (.callF f_glyphicmake_Path), none⟩, 0),
         (⟨(some 117), [.t 6], .p (.fAddr 10), none⟩, 0),
         (⟨(some 118), [.t 117], .r (.load none), none⟩, 2),
         (⟨(some 130), [.t 129], .n (.bslice 1 [(.int .i64 0), (.int .i64 0), (.slice none 0 (.exact 0)), (.bool false)] [(0, 4)]), none⟩, 0),
         (⟨(some 131), [.t 118, .t 130], .w (.append 4 48), none⟩, 0),
         (⟨(some 132), [.t 6], .p (.fAddr 10), none⟩, 0),
         (⟨none, [.t 132, .t 131], .w (.store 1), none⟩, 0)]))
      (.ops [⟨(some 115), [.t 7], .p (.mov), none⟩,
        ⟨(some 116), [.t 115, .c (.int .i64 1)], .p (.bin .sub), none⟩,
        ⟨(some 7), [.t 116], .p (.mov), none⟩]))
def c_glyphicmake_Icon_l1 : AC :=
 .seq (.seq (.ops [⟨(some 28), [.t 5], .p (.mov), none⟩,
     ⟨(some 29), [.t 28, .c (.int .i64 0)], .p (.bin .geq), none⟩,
     ⟨(some 30), [.t 29], .p (.mov), none⟩,
     ⟨(some 31), [.t 0], .p (.mov), some (30, true)⟩,
     ⟨(some 32), [.t 31], .w (.callF f_glyphicmake_Seq_more), some (30, true)⟩,
     ⟨(some 33), [.t 30, .t 32, .c (.bool false)], .p (.pick), none⟩])
   (.cond (.t 33)
    (.skip)
    (.exit 0)))
   (.seq (.block 1
    (.seq (.ops [⟨(some 36), [.t 0], .p (.mov), none⟩,
      ⟨(some 37), [.t 36, .c (.int .i64 2)], .w (.callF f_glyphicmake_Seq_Next), none⟩,
      ⟨(some 38), [.c (.int .i64 1), .t 37], .p (.bin .add), none⟩,
      ⟨(some 39), [.t 38], .p (.build [(.int .i64 0), (.int .i64 0), (.int .i64 0), (.int .i64 0), (.int .i64 0), (.int .i64 0), (.int .i64 0), (.int .i64 0), (.int .i64 0), (.int .i64 0), (.slice none 0 (.exact 0))] [(0, 1)]), none⟩,
      ⟨(some 6), [], .n (.alloc [(.int .i64 0), (.int .i64 0), (.int .i64 0), (.int .i64 0), (.int .i64 0), (.int .i64 0), (.int .i64 0), (.int .i64 0), (.int .i64 0), (.int .i64 0), (.slice none 0 (.exact 0))]), none⟩,
      ⟨none, [.t 6, .t 39], .w (.store 11), none⟩])
    (.seq (.seq (.ops [⟨(some 40), [.t 6], .p (.fAddr 0), none⟩,
      ⟨(some 41), [.t 40], .r (.load none), none⟩,
      ⟨(some 42), [.t 41, .c (.int .i64 1)], .p (.bin .eql), none⟩])
    (.cond (.t 42)
     (.ops [⟨(some 43), [.t 0], .p (.mov), none⟩,
       ⟨(some 44), [.t 43, .c (.int .i64 2)], .w (.callF f_glyphicmake_Seq_Next), none⟩,
       ⟨(some 45), [.t 6], .p (.fAddr 1), none⟩,
       ⟨none, [.t 45, .t 44], .w (.store 1), none⟩])
     (.ops [⟨(some 46), [.t 0], .p (.mov), none⟩,
       ⟨(some 47), [.t 4], .p (.mov), none⟩,
       ⟨(some 48), [.t 47, .c (.int .i64 2)], .p (.bin .quo), none⟩,
       ⟨(some 49), [.t 48, .c (.int .i64 1)], .p (.max), none⟩,
       ⟨(some 50), [.t 46, .t 49], .w (.callF f_glyphicmake_Seq_Next), none⟩,
       ⟨(some 51), [.c (.int .i64 1), .t 50], .p (.bin .add), none⟩,
       ⟨(some 52), [.t 6], .p (.fAddr 2), none⟩,
       ⟨none, [.t 52, .t 51], .w (.store 1), none⟩])))
    (.seq (.ops [⟨(some 53), [.t 0], .p (.mov), none⟩,
      ⟨(some 54), [.t 53, .c (.int .i64 3)], .w (.callF f_glyphicmake_Seq_Next), none⟩,
      ⟨(some 55), [.t 6], .p (.fAddr 3), none⟩,
      ⟨(some 56), [.t 55], .p (.fAddr 0), none⟩,
      ⟨none, [.t 56, .t 54], .w (.store 1), none⟩])
    (.seq (.ops [⟨(some 57), [.t 0], .p (.mov), none⟩,
      ⟨(some 58), [.t 57], .w (.callF f_glyphicmake_Color), none⟩,
      ⟨(some 59), [.t 3, .t 58], .w (.callF f_glyphicmake_add), none⟩,
      ⟨(some 60), [.t 6], .p (.fAddr 3), none⟩,
      ⟨(some 61), [.t 60], .p (.fAddr 1), none⟩,
      ⟨none, [.t 61, .t 59], .w (.store 1), none⟩])
    (.seq (.seq (.ops [⟨(some 62), [.t 6], .p (.fAddr 3), none⟩,
      ⟨(some 63), [.t 62], .p (.fAddr 0), none⟩,
      ⟨(some 64), [.t 63], .r (.load none), none⟩,
      ⟨(some 65), [.t 64, .c (.int .i64 0)], .p (.bin .neq), none⟩])
    (.cond (.t 65)
     (.seq (.ops [⟨(some 66), [.t 0], .p (.mov), none⟩,
       ⟨(some 67), [.t 66], .w (.callF f_glyphicmake_Color), none⟩,
       ⟨(some 68), [.t 3, .t 67], .w (.callF f_glyphicmake_add), none⟩,
       ⟨(some 69), [.t 6], .p (.fAddr 3), none⟩,
       ⟨(some 70), [.t 69], .p (.fAddr 2), none⟩,
       ⟨none, [.t 70, .t 68], .w (.store 1), none⟩])
     (.ops [⟨(some 71), [.t 0], .p (.mov), none⟩,
       ⟨(some 72), [.t 4], .p (.mov), none⟩,
       ⟨(some 73), [.t 71, .t 72], .w (.callF f_glyphicmake_Point), none⟩,
       ⟨(some 74), [.t 6], .p (.fAddr 3), none⟩,
       ⟨(some 75), [.t 74], .p (.fAddr 3), none⟩,
       ⟨none, [.t 75, .t 73], .w (.store 2), none⟩]))
     (.skip)))
    (.seq (.seq (.ops [⟨(some 76), [.t 6], .p (.fAddr 3), none⟩,
      ⟨(some 77), [.t 76], .p (.fAddr 0), none⟩,
      ⟨(some 78), [.t 77], .r (.load none), none⟩,
      ⟨(some 79), [.t 78, .c (.int .i64 1)], .p (.bin .eql), none⟩])
    (.cond (.t 79)
     (.seq (.ops [⟨(some 80), [.t 0], .p (.mov), none⟩,
       ⟨(some 81), [.t 4], .p (.mov), none⟩,
       ⟨(some 82), [.t 80, .t 81], .w (.callF f_glyphicmake_Point), none⟩,
       ⟨(some 83), [.t 6], .p (.fAddr 3), none⟩,
       ⟨(some 84), [.t 83], .p (.fAddr 5), none⟩,
       ⟨none, [.t 84, .t 82], .w (.store 2), none⟩])
     (.seq (.ops [⟨(some 85), [.t 6], .p (.fAddr 3), none⟩,
       ⟨(some 86), [.t 85], .p (.fAddr 3), none⟩,
       ⟨(some 87), [.t 86], .r (.load (some 2)), none⟩,
       ⟨(some 88), [.t 6], .p (.fAddr 3), none⟩,
       ⟨(some 89), [.t 88], .p (.fAddr 5), none⟩,
       ⟨(some 90), [.t 89], .r (.load (some 2)), none⟩,
       ⟨(some 91), [.t 87, .t 90], .w (.callF f_glyphicref_SamePoint), none⟩])
     (.cond (.t 91)
      (.ops [⟨(some 92), [.t 6], .p (.fAddr 3), none⟩,
        ⟨(some 93), [.t 92], .p (.fAddr 5), none⟩,
        ⟨(some 94), [.t 93], .p (.fAddr 0), none⟩,
        ⟨(some 95), [.t 94], .r (.load none), none⟩,
        ⟨(some 96), [.t 95, .c (.int .i64 1)], .p (.bin .add), none⟩,
        ⟨(some 97), [.t 6], .p (.fAddr 3), none⟩,
        ⟨(some 98), [.t 97], .p (.fAddr 5), none⟩,
        ⟨(some 99), [.t 98], .p (.fAddr 0), none⟩,
        ⟨none, [.t 99, .t 96], .w (.store 1), none⟩])
      (.skip))))
     (.skip)))
    (.seq (.seq (.ops [⟨(some 100), [.t 6], .p (.fAddr 3), none⟩,
      ⟨(some 101), [.t 100], .p (.fAddr 0), none⟩,
      ⟨(some 102), [.t 101], .r (.load none), none⟩,
      ⟨(some 103), [.t 102, .c (.int .i64 2)], .p (.bin .eql), none⟩])
    (.cond (.t 103)
     (.ops [⟨(some 104), [.t 0], .p (.mov), none⟩,
       ⟨(some 105), [.t 4], .p (.mov), none⟩,
       ⟨(some 106), [.t 104, .t 105], .w (.callF f_glyphicmake_Seq_Next), none⟩,
       ⟨(some 107), [.c (.int .i64 1), .t 106], .p (.bin .add), none⟩,
       ⟨(some 108), [.t 6], .p (.fAddr 3), none⟩,
       ⟨(some 109), [.t 108], .p (.fAddr 5), none⟩,
       ⟨(some 110), [.t 109], .p (.fAddr 0), none⟩,
       ⟨none, [.t 110, .t 107], .w (.store 1), none⟩])
     (.skip)))
    (.seq (.seq (.ops [⟨(some 111), [.t 0], .p (.mov), none⟩,
      ⟨(some 112), [.t 111, .c (.int .i64 3)], .w (.callF f_glyphicmake_Seq_Next), none⟩,
      ⟨(some 7), [.t 112], .p (.mov), none⟩])
    (.block 2
     (.loop c_glyphicmake_Icon_l0)))
    (.ops [⟨(some 133), [.t 3], .p (.fAddr 4), none⟩,
      ⟨(some 134), [.t 133], .r (.load none), none⟩,
      ⟨(some 135), [.t 6], .r (.load (some 11)), none⟩,
      ⟨(some 136), [.t 135], .n (.bslice 1 [(.int .i64 0), (.int .i64 0), (.int .i64 0), (.int .i64 0), (.int .i64 0), (.int .i64 0), (.int .i64 0), (.int .i64 0), (.int .i64 0), (.int .i64 0), (.slice none 0 (.exact 0))] [(0, 11)]), none⟩,
      ⟨(some 137), [.t 134, .t 136], .w (.append 11 104), none⟩,
      ⟨(some 138), [.t 3], .p (.fAddr 4), none⟩,
      ⟨none, [.t 138, .t 137], .w (.store 1), none⟩]))))))))))
   (.ops [⟨(some 34), [.t 5], .p (.mov), none⟩,
     ⟨(some 35), [.t 34, .c (.int .i64 1)], .p (.bin .sub), none⟩,
     ⟨(some 5), [.t 35], .p (.mov), none⟩]))
def c_glyphicmake_Icon : AC :=
 .seq (.ops [⟨(some 2), [], .n (.alloc [(.int .i64 0), (.int .i64 0), (.int .i64 0), (.slice none 0 (.exact 0)), (.slice none 0 (.exact 0))]), none⟩])
 (.seq (.ops [⟨(some 8), [.t 0], .p (.mov), none⟩,
   ⟨(some 9), [.t 8, .c (.int .i64 24)], .w (.callF f_glyphicmake_Seq_Next), none⟩,
   ⟨(some 10), [.c (.int .i64 1), .t 9], .p (.bin .add), none⟩,
   ⟨(some 11), [.t 0], .p (.mov), none⟩,
   ⟨(some 12), [.t 11, .c (.int .i64 24)], .w (.callF f_glyphicmake_Seq_Next), none⟩,
   ⟨(some 13), [.c (.int .i64 1), .t 12], .p (.bin .add), none⟩,
   ⟨(some 14), [.t 0], .p (.mov), none⟩,
   ⟨(some 15), [.t 14, .c (.int .i64 7)], .w (.callF f_glyphicmake_Seq_Next), none⟩,
   ⟨(some 16), [.t 10, .t 13, .t 15], .p (.build [(.int .i64 0), (.int .i64 0), (.int .i64 0), (.slice none 0 (.exact 0)), (.slice none 0 (.exact 0))] [(0, 1), (1, 1), (2, 1)]), none⟩,
   ⟨(some 3), [], .n (.alloc [(.int .i64 0), (.int .i64 0), (.int .i64 0), (.slice none 0 (.exact 0)), (.slice none 0 (.exact 0))]), none⟩,
   ⟨none, [.t 3, .t 16], .w (.store 5), none⟩])
 (.seq (.ops [⟨(some 17), [.t 3], .p (.fAddr 0), none⟩,
   ⟨(some 18), [.t 17], .r (.load none), none⟩,
   ⟨(some 19), [.t 3], .p (.fAddr 1), none⟩,
   ⟨(some 20), [.t 19], .r (.load none), none⟩,
   ⟨(some 21), [.t 18, .t 20], .p (.max), none⟩,
   ⟨(some 22), [.t 3], .p (.fAddr 2), none⟩,
   ⟨(some 23), [.t 22], .r (.load none), none⟩,
   ⟨(some 24), [.t 23], .p (.conv .u64), none⟩,
   ⟨(some 25), [.t 21, .t 24], .p (.bin .shl), none⟩,
   ⟨(some 4), [.t 25], .p (.mov), none⟩])
 (.seq (.seq (.ops [⟨(some 26), [.t 0], .p (.mov), none⟩,
   ⟨(some 27), [.t 26, .c (.int .i64 4)], .w (.callF f_glyphicmake_Seq_Next), none⟩,
   ⟨(some 5), [.t 27], .p (.mov), none⟩])
 (.block 0
  (.loop c_glyphicmake_Icon_l1)))
 (.seq (.ops [⟨(some 139), [.t 3], .r (.load (some 5)), none⟩,
   ⟨none, [.t 2, .t 139], .w (.store 5), none⟩])
 (.ret)))))
def r_glyphicmake_Icon : List ARes := [.cell 2 (some 5)]
def F_glyphicmake_Icon : AFunc := .code c_glyphicmake_Icon r_glyphicmake_Icon
/- icon.Greatest -/
def c_icon_Greatest : AC :=
 .seq (.ops [⟨(some 1), [.t 0], .n (.box), none⟩,
   ⟨(some 2), [.c (.int .i64 0)], .p (.mov), none⟩])
 (.seq (.seq (.ops [⟨(some 3), [.t 1], .r (.load (some 5)), none⟩,
   ⟨(some 4), [.t 3], .w (.callF f_icon_sized), none⟩,
   ⟨(some 5), [.t 4], .p (.un .not), none⟩])
 (.cond (.t 5)
  (.seq (.ops [⟨(some 2), [.c (.int .i64 0)], .p (.mov), none⟩])
  (.ret))
  (.skip)))
 (.seq (.ops [⟨(some 6), [.t 1], .p (.fAddr 0), none⟩,
   ⟨(some 7), [.t 6], .r (.load none), none⟩,
   ⟨(some 8), [.t 1], .p (.fAddr 1), none⟩,
   ⟨(some 9), [.t 8], .r (.load none), none⟩,
   ⟨(some 10), [.t 7, .t 9], .p (.max), none⟩,
   ⟨(some 11), [.c (.int .i64 4), .t 10], .p (.bin .mul), none⟩,
   ⟨(some 12), [.t 1], .p (.fAddr 2), none⟩,
   ⟨(some 13), [.t 12], .r (.load none), none⟩,
   ⟨(some 14), [.t 11, .t 13], .p (.bin .shl), none⟩,
   ⟨(some 2), [.t 14], .p (.mov), none⟩])
 (.ret)))
def r_icon_Greatest : List ARes := [.tmp 2]
def F_icon_Greatest : AFunc := .code c_icon_Greatest r_icon_Greatest
/- icon.Check -/
def c_icon_Check_l0 : AC :=
 .seq (.ops [⟨(some 27), [.t 26, .t 25], .p (.bin .lss), none⟩])
   (.seq (.cond (.t 27)
    (.skip)
    (.exit 1))
   (.seq (.block 2
    (.seq (.ops [⟨(some 28), [.t 24, .t 26], .p (.iAddrS 11), none⟩,
      ⟨(some 29), [.t 28], .r (.load (some 11)), none⟩,
      ⟨(some 4), [], .n (.alloc [(.int .i64 0), (.int .i64 0), (.int .i64 0), (.int .i64 0), (.int .i64 0), (.int .i64 0), (.int .i64 0), (.int .i64 0), (.int .i64 0), (.int .i64 0), (.slice none 0 (.exact 0))]), none⟩,
      ⟨none, [.t 4, .t 29], .w (.store 11), none⟩])
    (.seq (.draw [(⟨(some 34), [.t 1], .r (.load (some 5)), none⟩, 0),
      (⟨(some 35), [.t 34], .w (.callF f_icon_Greatest), none⟩, 0),
      (⟨(some 30), [.t 4], .r (.load (some 11)), none⟩, 1),
      (⟨(some 31), [.t 1], .p (.fAddr 3), none⟩, 0),
      (⟨(some 32), [.t 31], .r (.load none), none⟩, 1),
      (⟨(some 33), [.t 32], .p (.lenSl), none⟩, 0),
      (⟨(some 36), [.t 30, .t 33, .t 35], .w (.callF f_icon_cmd), none⟩, 0),
      (⟨(some 5), [.t 36], .p (.mov), none⟩, 0)])
    (.seq (.ops [⟨(some 37), [.t 5], .p (.mov), none⟩,
      ⟨(some 38), [.t 37, .c .nilIface], .r (.eq true (.iface [t_p_api_At, t_p_errors_errorString] true)), none⟩])
    (.cond (.t 38)
     (.seq (.ops [⟨(some 39), [.t 5], .p (.mov), none⟩,
       ⟨(some 2), [.t 39], .p (.mov), none⟩])
     (.ret))
     (.skip))))))
   (.ops [⟨(some 40), [.t 26, .c (.int .i64 1)], .p (.bin .add), none⟩,
     ⟨(some 26), [.t 40], .p (.mov), none⟩])))
def c_icon_Check : AC :=
 .seq (.ops [⟨(some 1), [.t 0], .n (.box), none⟩,
   ⟨(some 2), [.c .nilIface], .p (.mov), none⟩])
 (.seq (.block 0
  (.seq (.ops [⟨(some 7), [.t 1], .r (.load (some 5)), none⟩,
    ⟨(some 8), [.t 7], .w (.callF f_icon_sized), none⟩,
    ⟨(some 9), [.t 8], .p (.un .not), none⟩,
    ⟨(some 6), [.t 9], .p (.mov), none⟩])
  (.cond (.t 6)
   (.seq (.ops [⟨(some 10), [.c (.ptr (some (g_ErrRange, 0)))], .r (.load none), none⟩,
     ⟨(some 2), [.t 10], .p (.mov), none⟩])
   (.ret))
   (.seq (.ops [⟨(some 12), [.t 1], .p (.fAddr 3), none⟩,
     ⟨(some 13), [.t 12], .r (.load none), none⟩,
     ⟨(some 14), [.t 13], .p (.lenSl), none⟩,
     ⟨(some 15), [.t 14, .c (.int .i64 256)], .p (.bin .gtr), none⟩,
     ⟨(some 16), [.t 15], .p (.mov), none⟩,
     ⟨(some 17), [.t 1], .p (.fAddr 4), some (16, false)⟩,
     ⟨(some 18), [.t 17], .r (.load none), some (16, false)⟩,
     ⟨(some 19), [.t 18], .p (.lenSl), some (16, false)⟩,
     ⟨(some 20), [.t 19, .c (.int .i64 200)], .p (.bin .gtr), some (16, false)⟩,
     ⟨(some 21), [.t 16, .c (.bool true), .t 20], .p (.pick), none⟩,
     ⟨(some 11), [.t 21], .p (.mov), none⟩])
   (.cond (.t 11)
    (.seq (.ops [⟨(some 22), [.c (.ptr (some (g_ErrLimit, 0)))], .r (.load none), none⟩,
      ⟨(some 2), [.t 22], .p (.mov), none⟩])
    (.ret))
    (.skip))))))
 (.seq (.seq (.ops [⟨(some 23), [.t 1], .p (.fAddr 4), none⟩,
   ⟨(some 24), [.t 23], .r (.load none), none⟩,
   ⟨(some 25), [.t 24], .p (.lenSl), none⟩,
   ⟨(some 26), [.c (.int .i64 0)], .p (.mov), none⟩])
 (.block 1
  (.loop c_icon_Check_l0)))
 (.seq (.block 3
  (.seq (.ops [⟨(some 42), [.t 1], .r (.load (some 5)), none⟩,
    ⟨(some 43), [.t 42], .w (.callF f_icon_Points), none⟩,
    ⟨(some 44), [.t 43, .c (.int .i64 4000)], .p (.bin .gtr), none⟩,
    ⟨(some 41), [.t 44], .p (.mov), none⟩])
  (.cond (.t 41)
   (.seq (.ops [⟨(some 45), [.c (.ptr (some (g_ErrLimit, 0)))], .r (.load none), none⟩,
     ⟨(some 2), [.t 45], .p (.mov), none⟩])
   (.ret))
   (.seq (.ops [⟨(some 47), [.t 1], .r (.load (some 5)), none⟩,
     ⟨(some 48), [.t 47], .w (.callF f_icon_used), none⟩,
     ⟨(some 49), [.t 48], .p (.un .not), none⟩,
     ⟨(some 46), [.t 49], .p (.mov), none⟩])
   (.cond (.t 46)
    (.seq (.ops [⟨(some 50), [.c (.ptr (some (g_ErrCanon, 0)))], .r (.load none), none⟩,
      ⟨(some 2), [.t 50], .p (.mov), none⟩])
    (.ret))
    (.skip))))))
 (.seq (.ops [⟨(some 2), [.c .nilIface], .p (.mov), none⟩])
 (.ret)))))
def r_icon_Check : List ARes := [.tmp 2]
def F_icon_Check : AFunc := .code c_icon_Check r_icon_Check
/- icon.Points -/
def c_icon_Points_l0 : AC :=
 .seq (.ops [⟨(some 30), [.t 29, .t 28], .p (.bin .lss), none⟩])
         (.seq (.cond (.t 30)
          (.skip)
          (.exit 4))
         (.seq (.block 5
          (.seq (.ops [⟨(some 31), [.t 27, .t 29], .p (.iAddrS 7), none⟩,
            ⟨(some 32), [.t 31], .r (.load (some 7)), none⟩,
            ⟨(some 9), [], .n (.alloc [(.int .i64 0), (.int .i64 0), (.int .i64 0), (.int .i64 0), (.int .i64 0), (.int .i64 0), (.int .i64 0)]), none⟩,
            ⟨none, [.t 9, .t 32], .w (.store 7), none⟩])
          (.ops [⟨(some 33), [.t 3], .p (.mov), none⟩,
            ⟨(some 34), [.t 9], .p (.fAddr 0), none⟩,
            ⟨(some 35), [.t 34], .r (.load none), none⟩,
            ⟨(some 36), [.t 33, .t 35], .p (.bin .add), none⟩,
            ⟨(some 3), [.t 36], .p (.mov), none⟩])))
         (.ops [⟨(some 37), [.t 29, .c (.int .i64 1)], .p (.bin .add), none⟩,
           ⟨(some 29), [.t 37], .p (.mov), none⟩])))
def c_icon_Points_l1 : AC :=
 .seq (.ops [⟨(some 21), [.t 20, .t 19], .p (.bin .lss), none⟩])
      (.seq (.cond (.t 21)
       (.skip)
       (.exit 2))
      (.seq (.block 3
       (.seq (.ops [⟨(some 22), [.t 18, .t 20], .p (.iAddrS 4), none⟩,
         ⟨(some 23), [.t 22], .r (.load (some 4)), none⟩,
         ⟨(some 7), [], .n (.alloc [(.int .i64 0), (.int .i64 0), (.slice none 0 (.exact 0)), (.bool false)]), none⟩,
         ⟨none, [.t 7, .t 23], .w (.store 4), none⟩])
       (.seq (.ops [⟨(some 24), [.t 3], .p (.mov), none⟩,
         ⟨(some 25), [.t 24, .c (.int .i64 1)], .p (.bin .add), none⟩,
         ⟨(some 3), [.t 25], .p (.mov), none⟩])
       (.seq (.ops [⟨(some 26), [.t 7], .p (.fAddr 2), none⟩,
         ⟨(some 27), [.t 26], .r (.load none), none⟩,
         ⟨(some 28), [.t 27], .p (.lenSl), none⟩,
         ⟨(some 29), [.c (.int .i64 0)], .p (.mov), none⟩])
       (.block 4
        (.loop c_icon_Points_l0))))))
      (.ops [⟨(some 38), [.t 20, .c (.int .i64 1)], .p (.bin .add), none⟩,
        ⟨(some 20), [.t 38], .p (.mov), none⟩])))
def c_icon_Points_l2 : AC :=
 .seq (.ops [⟨(some 14), [.t 13, .t 12], .p (.bin .lss), none⟩])
   (.seq (.cond (.t 14)
    (.skip)
    (.exit 0))
   (.seq (.block 1
    (.seq (.ops [⟨(some 15), [.t 11, .t 13], .p (.iAddrS 11), none⟩,
      ⟨(some 16), [.t 15], .r (.load (some 11)), none⟩,
      ⟨(some 5), [], .n (.alloc [(.int .i64 0), (.int .i64 0), (.int .i64 0), (.int .i64 0), (.int .i64 0), (.int .i64 0), (.int .i64 0), (.int .i64 0), (.int .i64 0), (.int .i64 0), (.slice none 0 (.exact 0))]), none⟩,
      ⟨none, [.t 5, .t 16], .w (.store 11), none⟩])
    (.seq (.ops [⟨(some 17), [.t 5], .p (.fAddr 10), none⟩,
      ⟨(some 18), [.t 17], .r (.load none), none⟩,
      ⟨(some 19), [.t 18], .p (.lenSl), none⟩,
      ⟨(some 20), [.c (.int .i64 0)], .p (.mov), none⟩])
    (.block 2
     (.loop c_icon_Points_l1)))))
   (.ops [⟨(some 39), [.t 13, .c (.int .i64 1)], .p (.bin .add), none⟩,
     ⟨(some 13), [.t 39], .p (.mov), none⟩])))
def c_icon_Points : AC :=
 .seq (.ops [⟨(some 1), [.t 0], .n (.box), none⟩,
   ⟨(some 2), [.c (.int .i64 0)], .p (.mov), none⟩])
 (.seq (.ops [⟨(some 3), [.c (.int .i64 0)], .p (.mov), none⟩])
 (.seq (.seq (.ops [⟨(some 10), [.t 1], .p (.fAddr 4), none⟩,
   ⟨(some 11), [.t 10], .r (.load none), none⟩,
   ⟨(some 12), [.t 11], .p (.lenSl), none⟩,
   ⟨(some 13), [.c (.int .i64 0)], .p (.mov), none⟩])
 (.block 0
  (.loop c_icon_Points_l2)))
 (.seq (.ops [⟨(some 40), [.t 3], .p (.mov), none⟩,
   ⟨(some 2), [.t 40], .p (.mov), none⟩])
 (.ret))))
def r_icon_Points : List ARes := [.tmp 2]
def F_icon_Points : AFunc := .code c_icon_Points r_icon_Points
/- glyphiclaw6.first -/
def c_glyphiclaw6_first : AC :=
 .seq (.ops [⟨(some 0), [.c (.bool false)], .p (.mov), none⟩])
 (.seq (.ops [⟨(some 4), [.c (.int .i64 1), .c (.int .i64 1)], .p (.build [(.int .i64 0), (.int .i64 0), (.int .i64 0), (.slice none 0 (.exact 0)), (.slice none 0 (.exact 0))] [(0, 1), (1, 1)]), none⟩,
   ⟨(some 5), [.t 4], .w (.callF f_encode_Bytes), none⟩,
   ⟨(some 3), [.t 5], .p (.mov), none⟩,
   ⟨(some 6), [.t 3], .p (.ext 0), none⟩,
   ⟨(some 7), [.t 3], .p (.ext 1), none⟩,
   ⟨(some 1), [.t 6], .p (.mov), none⟩,
   ⟨(some 2), [.t 7], .p (.mov), none⟩])
 (.seq (.ops [⟨(some 8), [.c (.slice none 0 (.exact 0))], .w (.callF f_encode_Runs), none⟩,
   ⟨(some 9), [.t 8], .p (.lenSl), none⟩,
   ⟨(some 10), [.t 9, .c (.int .i64 0)], .p (.bin .eql), none⟩,
   ⟨(some 11), [.t 10], .p (.mov), none⟩,
   ⟨(some 12), [.t 2], .p (.mov), some (11, true)⟩,
   ⟨(some 13), [.t 12, .c .nilIface], .r (.eq false (.iface [t_p_api_At, t_p_errors_errorString] true)), some (11, true)⟩,
   ⟨(some 14), [.t 11, .t 13, .c (.bool false)], .p (.pick), none⟩,
   ⟨(some 15), [.t 14], .p (.mov), none⟩,
   ⟨(some 16), [.t 1], .p (.mov), some (15, true)⟩,
   ⟨(some 17), [.t 16], .p (.lenSl), some (15, true)⟩,
   ⟨(some 18), [.t 17, .c (.int .i64 9)], .p (.bin .eql), some (15, true)⟩,
   ⟨(some 19), [.t 15, .t 18, .c (.bool false)], .p (.pick), none⟩,
   ⟨(some 0), [.t 19], .p (.mov), none⟩])
 (.ret)))
def r_glyphiclaw6_first : List ARes := [.tmp 0]
def F_glyphiclaw6_first : AFunc := .code c_glyphiclaw6_first r_glyphiclaw6_first
/- encode.Bytes -/
def c_encode_Bytes : AC :=
 .seq (.ops [⟨(some 1), [.t 0], .n (.box), none⟩,
   ⟨(some 2), [.c (.slice none 0 (.exact 0))], .p (.mov), none⟩,
   ⟨(some 3), [.c .nilIface], .p (.mov), none⟩])
 (.seq (.seq (.ops [⟨(some 6), [.t 1], .r (.load (some 5)), none⟩,
   ⟨(some 7), [.t 6], .w (.callF f_icon_Check), none⟩,
   ⟨(some 4), [.t 7], .p (.mov), none⟩])
 (.seq (.ops [⟨(some 8), [.t 4], .p (.mov), none⟩,
   ⟨(some 9), [.t 8, .c .nilIface], .r (.eq true (.iface [t_p_api_At, t_p_errors_errorString] true)), none⟩])
 (.cond (.t 9)
  (.seq (.ops [⟨(some 10), [.t 4], .p (.mov), none⟩,
    ⟨(some 2), [.c (.slice none 0 (.exact 0))], .p (.mov), none⟩,
    ⟨(some 3), [.t 10], .p (.mov), none⟩])
  (.ret))
  (.skip))))
 (.seq (.ops [⟨(some 11), [.c (.int .u8 71), .c (.int .u8 76), .c (.int .u8 89), .c (.int .u8 49)], .n (.bslice 4 [(.int .u8 0), (.int .u8 0), (.int .u8 0), (.int .u8 0)] [(0, 1), (1, 1), (2, 1), (3, 1)]), none⟩,
   ⟨(some 12), [.t 11], .w (.mark), none⟩,
   ⟨(some 13), [.t 12], .p (.build [(.slice none 0 (.exact 0))] [(0, 1)]), none⟩,
   ⟨(some 14), [.t 13], .n (.box), none⟩,
   ⟨(some 5), [.t 14], .p (.mov), none⟩])
 (.seq (.ops [⟨(some 15), [.t 5], .p (.mov), none⟩,
   ⟨(some 16), [.t 1], .p (.fAddr 0), none⟩,
   ⟨(some 17), [.t 16], .r (.load none), none⟩,
   ⟨(some 18), [.t 1], .p (.fAddr 1), none⟩,
   ⟨(some 19), [.t 18], .r (.load none), none⟩,
   ⟨(some 20), [.t 1], .p (.fAddr 2), none⟩,
   ⟨(some 21), [.t 20], .r (.load none), none⟩,
   ⟨(some 22), [.t 1], .p (.fAddr 3), none⟩,
   ⟨(some 23), [.t 22], .r (.load none), none⟩,
   ⟨(some 24), [.t 23], .p (.lenSl), none⟩,
   ⟨(some 25), [.t 17, .t 19, .t 21, .t 24], .n (.bslice 4 [(.int .i64 0), (.int .i64 0), (.int .i64 0), (.int .i64 0)] [(0, 1), (1, 1), (2, 1), (3, 1)]), none⟩,
   ⟨(some 26), [.t 15, .t 25], .w (.callF f_encode_writer_num), none⟩])
 (.seq (.ops [⟨(some 27), [.t 1], .p (.fAddr 3), none⟩,
   ⟨(some 28), [.t 27], .r (.load none), none⟩,
   ⟨(some 29), [.t 5], .p (.mov), none⟩,
   ⟨(some 30), [.t 29], .p (.mkF f_encode_writer_color 1), none⟩,
   ⟨(some 31), [.t 28, .t 30], .w (.callF f_encode_each__api_Color), none⟩])
 (.seq (.ops [⟨(some 32), [.t 5], .p (.mov), none⟩,
   ⟨(some 33), [.t 1], .p (.fAddr 4), none⟩,
   ⟨(some 34), [.t 33], .r (.load none), none⟩,
   ⟨(some 35), [.t 34], .p (.lenSl), none⟩,
   ⟨(some 36), [.t 35], .n (.bslice 1 [(.int .i64 0)] [(0, 1)]), none⟩,
   ⟨(some 37), [.t 32, .t 36], .w (.callF f_encode_writer_num), none⟩])
 (.seq (.ops [⟨(some 38), [.t 1], .p (.fAddr 4), none⟩,
   ⟨(some 39), [.t 38], .r (.load none), none⟩,
   ⟨(some 40), [.t 5], .p (.mov), none⟩,
   ⟨(some 41), [.t 40], .p (.mkF f_encode_writer_cmd 1), none⟩,
   ⟨(some 42), [.t 39, .t 41], .w (.callF f_encode_each__api_Cmd), none⟩])
 (.seq (.ops [⟨(some 43), [.t 5], .p (.mov), none⟩,
   ⟨(some 44), [.t 43], .p (.nilChk), none⟩,
   ⟨(some 45), [.t 44], .p (.fAddr 0), none⟩,
   ⟨(some 46), [.t 45], .r (.load none), none⟩,
   ⟨(some 2), [.t 46], .p (.mov), none⟩,
   ⟨(some 3), [.c .nilIface], .p (.mov), none⟩])
 (.ret))))))))
def r_encode_Bytes : List ARes := [.tmp 2, .tmp 3]
def F_encode_Bytes : AFunc := .code c_encode_Bytes r_encode_Bytes
/- encode.Runs -/
def c_encode_Runs_l0 : AC :=
 .seq (.ops [⟨(some 10), [.t 9, .t 8], .p (.bin .lss), none⟩])
   (.seq (.cond (.t 10)
    (.skip)
    (.exit 0))
   (.seq (.block 1
    (.seq (.ops [⟨(some 11), [.t 7, .t 9], .p (.iAddrS 7), none⟩,
      ⟨(some 12), [.t 11], .r (.load (some 7)), none⟩,
      ⟨(some 5), [], .n (.alloc [(.int .i64 0), (.int .i64 0), (.int .i64 0), (.int .i64 0), (.int .i64 0), (.int .i64 0), (.int .i64 0)]), none⟩,
      ⟨none, [.t 5, .t 12], .w (.store 7), none⟩])
    (.seq (.ops [⟨(some 13), [.t 3], .p (.mov), none⟩,
      ⟨(some 14), [.t 13], .p (.lenSl), none⟩,
      ⟨(some 6), [.t 14], .p (.mov), none⟩])
    (.seq (.draw [(⟨(some 15), [.t 6], .p (.mov), none⟩, 0),
      (⟨(some 16), [.t 15, .c (.int .i64 0)], .p (.bin .gtr), none⟩, 0),
      (⟨(some 17), [.t 16], .p (.mov), none⟩, 0),
      (⟨(some 18), [.t 3], .p (.mov), some (17, true)⟩, 0),
      (⟨(some 19), [.t 6], .p (.mov), some (17, true)⟩, 0),
      (⟨(some 20), [.t 19, .c (.int .i64 1)], .p (.bin .sub), some (17, true)⟩, 0),
      (⟨(some 21), [.t 18, .t 20], .p (.iAddrS 2), some (17, true)⟩, 0),
      (⟨(some 22), [.t 21, .c (.int .i64 0)], .p (.iAddrA 2 1), some (17, true)⟩, 0),
      (⟨(some 23), [.t 22], .r (.load none), some (17, true)⟩, 0),
      (⟨(some 24), [.t 5], .p (.fAddr 0), some (17, true)⟩, 0),
      (⟨(some 25), [.t 24], .r (.load none), some (17, true)⟩, 0),
      (⟨(some 26), [.t 23, .t 25], .p (.bin .eql), some (17, true)⟩, 0),
      (⟨(some 27), [.t 17, .t 26, .c (.bool false)], .p (.pick), none⟩, 0)])
    (.cond (.t 27)
     (.draw [(⟨(some 28), [.t 3], .p (.mov), none⟩, 0),
       (⟨(some 29), [.t 6], .p (.mov), none⟩, 0),
       (⟨(some 30), [.t 29, .c (.int .i64 1)], .p (.bin .sub), none⟩, 0),
       (⟨(some 31), [.t 28, .t 30], .p (.iAddrS 2), none⟩, 0),
       (⟨(some 32), [.t 31, .c (.int .i64 1)], .p (.iAddrA 2 1), none⟩, 0),
       (⟨(some 33), [.t 32], .r (.load none), none⟩, 0),
       (⟨(some 34), [.t 33, .c (.int .i64 1)], .p (.bin .add), none⟩, 0),
       (⟨(some 35), [.t 28, .t 30], .p (.iAddrS 2), none⟩, 0),
       (⟨(some 36), [.t 35, .c (.int .i64 1)], .p (.iAddrA 2 1), none⟩, 0),
       (⟨none, [.t 36, .t 34], .w (.store 1), none⟩, 0)])
     (.ops [⟨(some 37), [.t 3], .p (.mov), none⟩,
       ⟨(some 38), [.t 5], .p (.fAddr 0), none⟩,
       ⟨(some 39), [.t 38], .r (.load none), none⟩,
       ⟨(some 40), [.t 39, .c (.int .i64 1)], .p (.build [(.int .i64 0), (.int .i64 0)] [(0, 1), (1, 1)]), none⟩,
       ⟨(some 41), [.t 40], .n (.bslice 1 [(.int .i64 0), (.int .i64 0)] [(0, 2)]), none⟩,
       ⟨(some 42), [.t 37, .t 41], .w (.append 2 16), none⟩,
       ⟨(some 3), [.t 42], .p (.mov), none⟩]))))))
   (.ops [⟨(some 43), [.t 9, .c (.int .i64 1)], .p (.bin .add), none⟩,
     ⟨(some 9), [.t 43], .p (.mov), none⟩])))
def c_encode_Runs : AC :=
 .seq (.ops [⟨(some 2), [.c (.slice none 0 (.exact 0))], .p (.mov), none⟩])
 (.seq (.ops [⟨(some 3), [.c (.slice none 0 (.exact 0))], .p (.mov), none⟩])
 (.seq (.seq (.ops [⟨(some 7), [.t 0], .p (.mov), none⟩,
   ⟨(some 8), [.t 7], .p (.lenSl), none⟩,
   ⟨(some 9), [.c (.int .i64 0)], .p (.mov), none⟩])
 (.block 0
  (.loop c_encode_Runs_l0)))
 (.seq (.ops [⟨(some 44), [.t 3], .p (.mov), none⟩,
   ⟨(some 2), [.t 44], .p (.mov), none⟩])
 (.ret))))
def r_encode_Runs : List ARes := [.tmp 2]
def F_encode_Runs : AFunc := .code c_encode_Runs r_encode_Runs
/- glyphicworld.Number -/
def c_glyphicworld_Number : AC :=
 .seq (.ops [⟨(some 4), [.c (.int .i64 0)], .p (.mov), none⟩])
 (.seq (.ops [⟨(some 6), [.t 0], .p (.mov), none⟩,
   ⟨(some 7), [.t 1], .p (.mov), none⟩,
   ⟨(some 8), [.t 6, .t 7], .p (.bin .rem), none⟩,
   ⟨(some 5), [.t 8], .p (.mov), none⟩])
 (.seq (.seq (.ops [⟨(some 9), [.t 5], .p (.mov), none⟩,
   ⟨(some 10), [.t 9, .c (.int .i64 0)], .p (.bin .lss), none⟩])
 (.cond (.t 10)
  (.ops [⟨(some 11), [.t 5], .p (.mov), none⟩,
    ⟨(some 12), [.t 1], .p (.mov), none⟩,
    ⟨(some 13), [.t 11, .t 12], .p (.bin .add), none⟩,
    ⟨(some 5), [.t 13], .p (.mov), none⟩])
  (.skip)))
 (.seq (.ops [⟨(some 14), [.t 5], .p (.mov), none⟩,
   ⟨(some 4), [.t 14], .p (.mov), none⟩])
 (.ret))))
def r_glyphicworld_Number : List ARes := [.tmp 4]
def F_glyphicworld_Number : AFunc := .code c_glyphicworld_Number r_glyphicworld_Number
/- (*glyphicmake.Seq).Next -/
def c_glyphicmake_Seq_Next : AC :=
 .seq (.ops [⟨(some 4), [.c (.int .i64 0)], .p (.mov), none⟩])
 (.seq (.ops [⟨(some 5), [.c (.int .i64 0)], .p (.mov), none⟩])
 (.seq (.seq (.draw [(⟨(some 6), [.t 0], .p (.mov), none⟩, 0),
   (⟨(some 7), [.t 6], .p (.nilChk), none⟩, 0),
   (⟨(some 8), [.t 7], .p (.fAddr 1), none⟩, 0),
   (⟨(some 9), [.t 8], .r (.load none), none⟩, 0),
   (⟨(some 10), [.t 0], .p (.mov), none⟩, 0),
   (⟨(some 11), [.t 10], .p (.nilChk), none⟩, 0),
   (⟨(some 12), [.t 11], .p (.fAddr 0), none⟩, 0),
   (⟨(some 13), [.t 12], .r (.load none), none⟩, 0),
   (⟨(some 14), [.t 13], .p (.lenSl), none⟩, 0),
   (⟨(some 15), [.t 9, .t 14], .p (.bin .lss), none⟩, 0)])
 (.cond (.t 15)
  (.draw [(⟨(some 16), [.t 0], .p (.mov), none⟩, 0),
    (⟨(some 17), [.t 16], .p (.nilChk), none⟩, 0),
    (⟨(some 18), [.t 17], .p (.fAddr 0), none⟩, 0),
    (⟨(some 19), [.t 18], .r (.load none), none⟩, 0),
    (⟨(some 20), [.t 0], .p (.mov), none⟩, 0),
    (⟨(some 21), [.t 20], .p (.nilChk), none⟩, 0),
    (⟨(some 22), [.t 21], .p (.fAddr 1), none⟩, 0),
    (⟨(some 23), [.t 22], .r (.load none), none⟩, 0),
    (⟨(some 24), [.t 19, .t 23], .p (.iAddrS 1), none⟩, 0),
    (⟨(some 25), [.t 24], .r (.load none), none⟩, 0),
    (⟨(some 5), [.t 25], .p (.mov), none⟩, 0)])
  (.skip)))
 (.seq (.ops [⟨(some 26), [.t 0], .p (.mov), none⟩,
   ⟨(some 27), [.t 0], .p (.mov), none⟩,
   ⟨(some 28), [.t 27], .p (.nilChk), none⟩,
   ⟨(some 29), [.t 28], .p (.fAddr 1), none⟩,
   ⟨(some 30), [.t 29], .r (.load none), none⟩,
   ⟨(some 31), [.t 30, .c (.int .i64 1)], .p (.bin .add), none⟩,
   ⟨(some 32), [.t 26], .p (.nilChk), none⟩,
   ⟨(some 33), [.t 32], .p (.fAddr 1), none⟩,
   ⟨none, [.t 33, .t 31], .w (.store 1), none⟩])
 (.seq (.ops [⟨(some 34), [.t 5], .p (.mov), none⟩,
   ⟨(some 35), [.t 1], .p (.mov), none⟩,
   ⟨(some 36), [.t 34, .t 35], .w (.callF f_glyphicworld_Number), none⟩,
   ⟨(some 4), [.t 36], .p (.mov), none⟩])
 (.ret)))))
def r_glyphicmake_Seq_Next : List ARes := [.tmp 4]
def F_glyphicmake_Seq_Next : AFunc := .code c_glyphicmake_Seq_Next r_glyphicmake_Seq_Next
/- glyphicmake.Point -/
def c_glyphicmake_Point : AC :=
 .seq (.ops [⟨(some 4), [], .n (.alloc [(.int .i64 0), (.int .i64 0)]), none⟩])
 (.seq (.ops [⟨(some 6), [.t 0], .p (.mov), none⟩,
   ⟨(some 7), [.t 1], .p (.mov), none⟩,
   ⟨(some 8), [.c (.int .i64 2), .t 7], .p (.bin .mul), none⟩,
   ⟨(some 9), [.t 8, .c (.int .i64 1)], .p (.bin .add), none⟩,
   ⟨(some 10), [.t 6, .t 9], .w (.callF f_glyphicmake_Seq_Next), none⟩,
   ⟨(some 11), [.t 1], .p (.mov), none⟩,
   ⟨(some 12), [.t 10, .t 11], .p (.bin .sub), none⟩,
   ⟨(some 5), [.t 12], .p (.mov), none⟩])
 (.seq (.ops [⟨(some 13), [.t 5], .p (.mov), none⟩,
   ⟨(some 14), [.t 0], .p (.mov), none⟩,
   ⟨(some 15), [.t 1], .p (.mov), none⟩,
   ⟨(some 16), [.c (.int .i64 2), .t 15], .p (.bin .mul), none⟩,
   ⟨(some 17), [.t 16, .c (.int .i64 1)], .p (.bin .add), none⟩,
   ⟨(some 18), [.t 14, .t 17], .w (.callF f_glyphicmake_Seq_Next), none⟩,
   ⟨(some 19), [.t 1], .p (.mov), none⟩,
   ⟨(some 20), [.t 18, .t 19], .p (.bin .sub), none⟩,
   ⟨(some 21), [.t 13, .t 20], .p (.build [(.int .i64 0), (.int .i64 0)] [(0, 1), (1, 1)]), none⟩,
   ⟨none, [.t 4, .t 21], .w (.store 2), none⟩])
 (.ret)))
def r_glyphicmake_Point : List ARes := [.cell 4 (some 2)]
def F_glyphicmake_Point : AFunc := .code c_glyphicmake_Point r_glyphicmake_Point
/- glyphicref.SamePoint -/
def c_glyphicref_SamePoint : AC :=
 .seq (.ops [⟨(some 2), [.t 0], .n (.box), none⟩,
   ⟨(some 3), [.t 1], .n (.box), none⟩,
   ⟨(some 4), [.c (.bool false)], .p (.mov), none⟩])
 (.seq (.ops [⟨(some 5), [.t 2], .p (.fAddr 0), none⟩,
   ⟨(some 6), [.t 5], .r (.load none), none⟩,
   ⟨(some 7), [.t 3], .p (.fAddr 0), none⟩,
   ⟨(some 8), [.t 7], .r (.load none), none⟩,
   ⟨(some 9), [.t 6, .t 8], .p (.bin .eql), none⟩,
   ⟨(some 10), [.t 9], .p (.mov), none⟩,
   ⟨(some 11), [.t 2], .p (.fAddr 1), some (10, true)⟩,
   ⟨(some 12), [.t 11], .r (.load none), some (10, true)⟩,
   ⟨(some 13), [.t 3], .p (.fAddr 1), some (10, true)⟩,
   ⟨(some 14), [.t 13], .r (.load none), some (10, true)⟩,
   ⟨(some 15), [.t 12, .t 14], .p (.bin .eql), some (10, true)⟩,
   ⟨(some 16), [.t 10, .t 15, .c (.bool false)], .p (.pick), none⟩,
   ⟨(some 4), [.t 16], .p (.mov), none⟩])
 (.ret))
def r_glyphicref_SamePoint : List ARes := [.tmp 4]
def F_glyphicref_SamePoint : AFunc := .code c_glyphicref_SamePoint r_glyphicref_SamePoint
/- glyphicmake.Path -/
def c_glyphicmake_Path_l0 : AC :=
 .seq (.seq (.ops [⟨(some 27), [.t 10], .p (.mov), none⟩,
        ⟨(some 28), [.t 9], .p (.fAddr 0), none⟩,
        ⟨(some 29), [.t 28], .r (.load none), none⟩,
        ⟨(some 30), [.t 27, .t 29], .p (.bin .lss), none⟩])
      (.cond (.t 30)
       (.skip)
       (.exit 2)))
      (.seq (.block 3
       (.ops [⟨(some 33), [.t 10], .p (.mov), none⟩,
         ⟨(some 34), [.t 0], .p (.mov), none⟩,
         ⟨(some 35), [.t 1], .p (.mov), none⟩,
         ⟨(some 36), [.t 34, .t 35], .w (.callF f_glyphicmake_inside), none⟩,
         ⟨(some 37), [.t 9], .p (.fAddr 1), none⟩,
         ⟨(some 38), [.t 37, .t 33], .p (.iAddrA 3 2), none⟩,
         ⟨none, [.t 38, .t 36], .w (.store 2), none⟩]))
      (.ops [⟨(some 31), [.t 10], .p (.mov), none⟩,
        ⟨(some 32), [.t 31, .c (.int .i64 1)], .p (.bin .add), none⟩,
        ⟨(some 10), [.t 32], .p (.mov), none⟩]))
def c_glyphicmake_Path_l1 : AC :=
 .seq (.seq (.ops [⟨(some 19), [.t 8], .p (.mov), none⟩,
     ⟨(some 20), [.t 19, .c (.int .i64 0)], .p (.bin .gtr), none⟩])
   (.cond (.t 20)
    (.skip)
    (.exit 0)))
   (.seq (.block 1
    (.seq (.ops [⟨(some 23), [.t 0], .p (.mov), none⟩,
      ⟨(some 24), [.t 23, .c (.int .i64 3)], .w (.callF f_glyphicmake_Seq_Next), none⟩,
      ⟨(some 25), [.c (.int .i64 1), .t 24], .p (.bin .add), none⟩,
      ⟨(some 26), [.t 25], .p (.build [(.int .i64 0), (.int .i64 0), (.int .i64 0), (.int .i64 0), (.int .i64 0), (.int .i64 0), (.int .i64 0)] [(0, 1)]), none⟩,
      ⟨(some 9), [], .n (.alloc [(.int .i64 0), (.int .i64 0), (.int .i64 0), (.int .i64 0), (.int .i64 0), (.int .i64 0), (.int .i64 0)]), none⟩,
      ⟨none, [.t 9, .t 26], .w (.store 7), none⟩])
    (.seq (.seq (.ops [⟨(some 10), [.c (.int .i64 0)], .p (.mov), none⟩])
    (.block 2
     (.loop c_glyphicmake_Path_l0)))
    (.ops [⟨(some 39), [.t 7], .p (.fAddr 2), none⟩,
      ⟨(some 40), [.t 39], .r (.load none), none⟩,
      ⟨(some 41), [.t 9], .r (.load (some 7)), none⟩,
      ⟨(some 42), [.t 41], .n (.bslice 1 [(.int .i64 0), (.int .i64 0), (.int .i64 0), (.int .i64 0), (.int .i64 0), (.int .i64 0), (.int .i64 0)] [(0, 7)]), none⟩,
      ⟨(some 43), [.t 40, .t 42], .w (.append 7 56), none⟩,
      ⟨(some 44), [.t 7], .p (.fAddr 2), none⟩,
      ⟨none, [.t 44, .t 43], .w (.store 1), none⟩]))))
   (.ops [⟨(some 21), [.t 8], .p (.mov), none⟩,
     ⟨(some 22), [.t 21, .c (.int .i64 1)], .p (.bin .sub), none⟩,
     ⟨(some 8), [.t 22], .p (.mov), none⟩]))
def c_glyphicmake_Path : AC :=
 .seq (.ops [⟨(some 6), [], .n (.alloc [(.int .i64 0), (.int .i64 0), (.slice none 0 (.exact 0)), (.bool false)]), none⟩])
 (.seq (.ops [⟨(some 11), [.t 0], .p (.mov), none⟩,
   ⟨(some 12), [.t 1], .p (.mov), none⟩,
   ⟨(some 13), [.t 11, .t 12], .w (.callF f_glyphicmake_inside), none⟩,
   ⟨(some 14), [.t 2], .p (.mov), none⟩,
   ⟨(some 15), [.t 13, .t 14], .p (.build [(.int .i64 0), (.int .i64 0), (.slice none 0 (.exact 0)), (.bool false)] [(0, 2), (3, 1)]), none⟩,
   ⟨(some 7), [], .n (.alloc [(.int .i64 0), (.int .i64 0), (.slice none 0 (.exact 0)), (.bool false)]), none⟩,
   ⟨none, [.t 7, .t 15], .w (.store 4), none⟩])
 (.seq (.seq (.ops [⟨(some 16), [.t 0], .p (.mov), none⟩,
   ⟨(some 17), [.t 16, .c (.int .i64 4)], .w (.callF f_glyphicmake_Seq_Next), none⟩,
   ⟨(some 18), [.c (.int .i64 1), .t 17], .p (.bin .add), none⟩,
   ⟨(some 8), [.t 18], .p (.mov), none⟩])
 (.block 0
  (.loop c_glyphicmake_Path_l1)))
 (.seq (.ops [⟨(some 45), [.t 7], .r (.load (some 4)), none⟩,
   ⟨none, [.t 6, .t 45], .w (.store 4), none⟩])
 (.ret))))
def r_glyphicmake_Path : List ARes := [.cell 6 (some 4)]
def F_glyphicmake_Path : AFunc := .code c_glyphicmake_Path r_glyphicmake_Path
/- icon.sized -/
def c_icon_sized : AC :=
 .seq (.ops [⟨(some 1), [.t 0], .n (.box), none⟩,
   ⟨(some 2), [.c (.bool false)], .p (.mov), none⟩])
 (.seq (.ops [⟨(some 3), [.t 1], .p (.fAddr 0), none⟩,
   ⟨(some 4), [.t 3], .r (.load none), none⟩,
   ⟨(some 5), [.t 4, .c (.int .i64 1), .c (.int .i64 4096)], .w (.callF f_icon_in__int), none⟩,
   ⟨(some 6), [.t 5], .p (.mov), none⟩,
   ⟨(some 7), [.t 1], .p (.fAddr 1), some (6, true)⟩,
   ⟨(some 8), [.t 7], .r (.load none), some (6, true)⟩,
   ⟨(some 9), [.t 8, .c (.int .i64 1), .c (.int .i64 4096)], .w (.callF f_icon_in__int), some (6, true)⟩,
   ⟨(some 10), [.t 6, .t 9, .c (.bool false)], .p (.pick), none⟩,
   ⟨(some 11), [.t 10], .p (.mov), none⟩,
   ⟨(some 12), [.t 1], .p (.fAddr 2), some (11, true)⟩,
   ⟨(some 13), [.t 12], .r (.load none), some (11, true)⟩,
   ⟨(some 14), [.t 13, .c (.int .i64 0), .c (.int .i64 6)], .w (.callF f_icon_in__int), some (11, true)⟩,
   ⟨(some 15), [.t 11, .t 14, .c (.bool false)], .p (.pick), none⟩,
   ⟨(some 2), [.t 15], .p (.mov), none⟩])
 (.ret))
def r_icon_sized : List ARes := [.tmp 2]
def F_icon_sized : AFunc := .code c_icon_sized r_icon_sized
/- icon.cmd -/
def c_icon_cmd_l0 : AC :=
 .seq (.ops [⟨(some 42), [.t 41, .t 40], .p (.bin .lss), none⟩])
   (.seq (.cond (.t 42)
    (.skip)
    (.exit 1))
   (.seq (.block 2
    (.seq (.ops [⟨(some 43), [.t 39, .t 41], .p (.iAddrS 4), none⟩,
      ⟨(some 44), [.t 43], .r (.load (some 4)), none⟩,
      ⟨(some 10), [], .n (.alloc [(.int .i64 0), (.int .i64 0), (.slice none 0 (.exact 0)), (.bool false)]), none⟩,
      ⟨none, [.t 10, .t 44], .w (.store 4), none⟩])
    (.seq (.ops [⟨(some 45), [.t 10], .r (.load (some 4)), none⟩,
      ⟨(some 46), [.t 3], .p (.fAddr 0), none⟩,
      ⟨(some 47), [.t 46], .r (.load none), none⟩,
      ⟨(some 48), [.t 47, .c (.int .i64 1)], .p (.bin .eql), none⟩,
      ⟨(some 49), [.t 2], .p (.mov), none⟩,
      ⟨(some 50), [.t 45, .t 48, .t 49], .w (.callF f_icon_path), none⟩,
      ⟨(some 11), [.t 50], .p (.mov), none⟩])
    (.seq (.ops [⟨(some 51), [.t 11], .p (.mov), none⟩,
      ⟨(some 52), [.t 51, .c .nilIface], .r (.eq true (.iface [t_p_api_At, t_p_errors_errorString] true)), none⟩])
    (.cond (.t 52)
     (.seq (.ops [⟨(some 53), [.t 11], .p (.mov), none⟩,
       ⟨(some 6), [.t 53], .p (.mov), none⟩])
     (.ret))
     (.skip))))))
   (.ops [⟨(some 54), [.t 41, .c (.int .i64 1)], .p (.bin .add), none⟩,
     ⟨(some 41), [.t 54], .p (.mov), none⟩])))
def c_icon_cmd : AC :=
 .seq (.ops [⟨(some 3), [.t 0], .n (.box), none⟩,
   ⟨(some 6), [.c .nilIface], .p (.mov), none⟩])
 (.seq (.seq (.ops [⟨(some 12), [.t 3], .r (.load (some 11)), none⟩,
   ⟨(some 13), [.t 2], .p (.mov), none⟩,
   ⟨(some 14), [.t 12, .t 13], .w (.callF f_icon_head), none⟩,
   ⟨(some 7), [.t 14], .p (.mov), none⟩])
 (.seq (.ops [⟨(some 15), [.t 7], .p (.mov), none⟩,
   ⟨(some 16), [.t 15, .c .nilIface], .r (.eq true (.iface [t_p_api_At, t_p_errors_errorString] true)), none⟩])
 (.cond (.t 16)
  (.seq (.ops [⟨(some 17), [.t 7], .p (.mov), none⟩,
    ⟨(some 6), [.t 17], .p (.mov), none⟩])
  (.ret))
  (.skip))))
 (.seq (.seq (.ops [⟨(some 18), [.t 3], .p (.fAddr 3), none⟩,
   ⟨(some 19), [.t 18], .r (.load (some 7)), none⟩,
   ⟨(some 20), [.t 1], .p (.mov), none⟩,
   ⟨(some 21), [.t 2], .p (.mov), none⟩,
   ⟨(some 22), [.t 19, .t 20, .t 21], .w (.callF f_icon_paint), none⟩,
   ⟨(some 8), [.t 22], .p (.mov), none⟩])
 (.seq (.ops [⟨(some 23), [.t 8], .p (.mov), none⟩,
   ⟨(some 24), [.t 23, .c .nilIface], .r (.eq true (.iface [t_p_api_At, t_p_errors_errorString] true)), none⟩])
 (.cond (.t 24)
  (.seq (.ops [⟨(some 25), [.t 8], .p (.mov), none⟩,
    ⟨(some 6), [.t 25], .p (.mov), none⟩])
  (.ret))
  (.skip))))
 (.seq (.block 0
  (.seq (.ops [⟨(some 27), [.t 3], .p (.fAddr 10), none⟩,
    ⟨(some 28), [.t 27], .r (.load none), none⟩,
    ⟨(some 29), [.t 28], .p (.lenSl), none⟩,
    ⟨(some 30), [.t 29, .c (.int .i64 0)], .p (.bin .eql), none⟩,
    ⟨(some 26), [.t 30], .p (.mov), none⟩])
  (.cond (.t 26)
   (.seq (.ops [⟨(some 31), [.c (.ptr (some (g_ErrRange, 0)))], .r (.load none), none⟩,
     ⟨(some 6), [.t 31], .p (.mov), none⟩])
   (.ret))
   (.seq (.ops [⟨(some 33), [.t 3], .p (.fAddr 10), none⟩,
     ⟨(some 34), [.t 33], .r (.load none), none⟩,
     ⟨(some 35), [.t 34], .p (.lenSl), none⟩,
     ⟨(some 36), [.t 35, .c (.int .i64 200)], .p (.bin .gtr), none⟩,
     ⟨(some 32), [.t 36], .p (.mov), none⟩])
   (.cond (.t 32)
    (.seq (.ops [⟨(some 37), [.c (.ptr (some (g_ErrLimit, 0)))], .r (.load none), none⟩,
      ⟨(some 6), [.t 37], .p (.mov), none⟩])
    (.ret))
    (.skip))))))
 (.seq (.seq (.ops [⟨(some 38), [.t 3], .p (.fAddr 10), none⟩,
   ⟨(some 39), [.t 38], .r (.load none), none⟩,
   ⟨(some 40), [.t 39], .p (.lenSl), none⟩,
   ⟨(some 41), [.c (.int .i64 0)], .p (.mov), none⟩])
 (.block 1
  (.loop c_icon_cmd_l0)))
 (.seq (.ops [⟨(some 6), [.c .nilIface], .p (.mov), none⟩])
 (.ret))))))
def r_icon_cmd : List ARes := [.tmp 6]
def F_icon_cmd : AFunc := .code c_icon_cmd r_icon_cmd
/- icon.used -/
def c_icon_used_l0 : AC :=
 .seq (.ops [⟨(some 52), [.t 51, .t 50], .p (.bin .lss), none⟩])
   (.seq (.cond (.t 52)
    (.skip)
    (.exit 4))
   (.seq (.block 5
    (.seq (.ops [⟨(some 53), [.t 51], .p (.mov), none⟩,
      ⟨(some 54), [.t 49, .t 51], .p (.iAddrS 4), none⟩,
      ⟨(some 55), [.t 54], .r (.load (some 4)), none⟩,
      ⟨(some 10), [], .n (.alloc [(.int .u8 0), (.int .u8 0), (.int .u8 0), (.int .u8 0)]), none⟩,
      ⟨(some 9), [.t 53], .p (.mov), none⟩,
      ⟨none, [.t 10, .t 55], .w (.store 4), none⟩])
    (.seq (.draw [(⟨(some 56), [.t 1], .p (.fAddr 3), none⟩, 0),
      (⟨(some 57), [.t 56], .r (.load none), none⟩, 0),
      (⟨(some 58), [.t 9], .p (.mov), none⟩, 0),
      (⟨(some 59), [.t 57, .t 58], .p (.slSl 4 false true), none⟩, 0),
      (⟨(some 60), [.t 10], .r (.load (some 4)), none⟩, 0),
      (⟨(some 61), [.t 59, .t 60], .w (.callF f_slices_Contains__api_Color_api_Color), none⟩, 0)])
    (.cond (.t 61)
     (.seq (.ops [⟨(some 2), [.c (.bool false)], .p (.mov), none⟩])
     (.ret))
     (.skip)))))
   (.ops [⟨(some 62), [.t 51, .c (.int .i64 1)], .p (.bin .add), none⟩,
     ⟨(some 51), [.t 62], .p (.mov), none⟩])))
def c_icon_used_l1 : AC :=
 .seq (.ops [⟨(some 35), [.t 34, .t 33], .p (.bin .lss), none⟩])
      (.seq (.cond (.t 35)
       (.skip)
       (.exit 2))
      (.seq (.block 3
       (.seq (.ops [⟨(some 36), [.t 32, .t 34], .p (.iAddrS 1), none⟩,
         ⟨(some 37), [.t 36], .r (.load none), none⟩,
         ⟨(some 8), [.t 37], .p (.mov), none⟩])
       (.seq (.seq (.ops [⟨(some 38), [.t 8], .p (.mov), none⟩,
         ⟨(some 39), [.t 3], .p (.mov), none⟩,
         ⟨(some 40), [.t 38, .t 39], .p (.bin .gtr), none⟩])
       (.cond (.t 40)
        (.seq (.ops [⟨(some 2), [.c (.bool false)], .p (.mov), none⟩])
        (.ret))
        (.skip)))
       (.seq (.ops [⟨(some 41), [.t 8], .p (.mov), none⟩,
         ⟨(some 42), [.t 3], .p (.mov), none⟩,
         ⟨(some 43), [.t 41, .t 42], .p (.bin .eql), none⟩])
       (.cond (.t 43)
        (.ops [⟨(some 44), [.t 3], .p (.mov), none⟩,
          ⟨(some 45), [.t 44, .c (.int .i64 1)], .p (.bin .add), none⟩,
          ⟨(some 3), [.t 45], .p (.mov), none⟩])
        (.skip))))))
      (.ops [⟨(some 46), [.t 34, .c (.int .i64 1)], .p (.bin .add), none⟩,
        ⟨(some 34), [.t 46], .p (.mov), none⟩])))
def c_icon_used_l2 : AC :=
 .seq (.ops [⟨(some 15), [.t 14, .t 13], .p (.bin .lss), none⟩])
   (.seq (.cond (.t 15)
    (.skip)
    (.exit 0))
   (.seq (.block 1
    (.seq (.ops [⟨(some 16), [.t 12, .t 14], .p (.iAddrS 11), none⟩,
      ⟨(some 17), [.t 16], .r (.load (some 11)), none⟩,
      ⟨(some 5), [], .n (.alloc [(.int .i64 0), (.int .i64 0), (.int .i64 0), (.int .i64 0), (.int .i64 0), (.int .i64 0), (.int .i64 0), (.int .i64 0), (.int .i64 0), (.int .i64 0), (.slice none 0 (.exact 0))]), none⟩,
      ⟨none, [.t 5, .t 17], .w (.store 11), none⟩])
    (.seq (.ops [⟨(some 18), [.t 5], .p (.fAddr 3), none⟩,
      ⟨(some 19), [.t 18], .p (.fAddr 1), none⟩,
      ⟨(some 20), [.t 19], .r (.load none), none⟩,
      ⟨(some 21), [.t 20], .n (.bslice 1 [(.int .i64 0)] [(0, 1)]), none⟩,
      ⟨(some 6), [.t 21], .p (.mov), none⟩])
    (.seq (.seq (.ops [⟨(some 22), [.t 5], .p (.fAddr 3), none⟩,
      ⟨(some 23), [.t 22], .p (.fAddr 0), none⟩,
      ⟨(some 24), [.t 23], .r (.load none), none⟩,
      ⟨(some 25), [.t 24, .c (.int .i64 0)], .p (.bin .neq), none⟩])
    (.cond (.t 25)
     (.ops [⟨(some 26), [.t 6], .p (.mov), none⟩,
       ⟨(some 27), [.t 5], .p (.fAddr 3), none⟩,
       ⟨(some 28), [.t 27], .p (.fAddr 2), none⟩,
       ⟨(some 29), [.t 28], .r (.load none), none⟩,
       ⟨(some 30), [.t 29], .n (.bslice 1 [(.int .i64 0)] [(0, 1)]), none⟩,
       ⟨(some 31), [.t 26, .t 30], .w (.append 1 8), none⟩,
       ⟨(some 6), [.t 31], .p (.mov), none⟩])
     (.skip)))
    (.seq (.ops [⟨(some 32), [.t 6], .p (.mov), none⟩,
      ⟨(some 33), [.t 32], .p (.lenSl), none⟩,
      ⟨(some 34), [.c (.int .i64 0)], .p (.mov), none⟩])
    (.block 2
     (.loop c_icon_used_l1)))))))
   (.ops [⟨(some 47), [.t 14, .c (.int .i64 1)], .p (.bin .add), none⟩,
     ⟨(some 14), [.t 47], .p (.mov), none⟩])))
def c_icon_used : AC :=
 .seq (.ops [⟨(some 1), [.t 0], .n (.box), none⟩,
   ⟨(some 2), [.c (.bool false)], .p (.mov), none⟩])
 (.seq (.ops [⟨(some 3), [.c (.int .i64 0)], .p (.mov), none⟩])
 (.seq (.seq (.ops [⟨(some 11), [.t 1], .p (.fAddr 4), none⟩,
   ⟨(some 12), [.t 11], .r (.load none), none⟩,
   ⟨(some 13), [.t 12], .p (.lenSl), none⟩,
   ⟨(some 14), [.c (.int .i64 0)], .p (.mov), none⟩])
 (.block 0
  (.loop c_icon_used_l2)))
 (.seq (.seq (.ops [⟨(some 48), [.t 1], .p (.fAddr 3), none⟩,
   ⟨(some 49), [.t 48], .r (.load none), none⟩,
   ⟨(some 50), [.t 49], .p (.lenSl), none⟩,
   ⟨(some 51), [.c (.int .i64 0)], .p (.mov), none⟩])
 (.block 4
  (.loop c_icon_used_l0)))
 (.seq (.ops [⟨(some 63), [.t 3], .p (.mov), none⟩,
   ⟨(some 64), [.t 1], .p (.fAddr 3), none⟩,
   ⟨(some 65), [.t 64], .r (.load none), none⟩,
   ⟨(some 66), [.t 65], .p (.lenSl), none⟩,
   ⟨(some 67), [.t 63, .t 66], .p (.bin .eql), none⟩,
   ⟨(some 2), [.t 67], .p (.mov), none⟩])
 (.ret)))))
def r_icon_used : List ARes := [.tmp 2]
def F_icon_used : AFunc := .code c_icon_used r_icon_used
/- (*encode.writer).num -/
def c_encode_writer_num_l0 : AC :=
 .seq (.ops [⟨(some 9), [.t 8, .t 7], .p (.bin .lss), none⟩])
   (.seq (.cond (.t 9)
    (.skip)
    (.exit 0))
   (.seq (.block 1
    (.seq (.ops [⟨(some 10), [.t 6, .t 8], .p (.iAddrS 1), none⟩,
      ⟨(some 11), [.t 10], .r (.load none), none⟩,
      ⟨(some 5), [.t 11], .p (.mov), none⟩])
    (.draw [(⟨(some 17), [.t 5], .p (.mov), none⟩, 0),
      (⟨(some 18), [.t 17], .p (.conv .u64), none⟩, 0),
      (⟨(some 19), [.c (.slice none 0 (.exact 0)), .t 18], .w (.callF f_wire_Put), none⟩, 0),
      (⟨(some 13), [.t 0], .p (.mov), none⟩, 0),
      (⟨(some 14), [.t 13], .p (.nilChk), none⟩, 0),
      (⟨(some 15), [.t 14], .p (.fAddr 0), none⟩, 0),
      (⟨(some 16), [.t 15], .r (.load none), none⟩, 1),
      (⟨(some 20), [.t 16, .t 19], .w (.append 1 1), none⟩, 0),
      (⟨(some 12), [.t 0], .p (.mov), none⟩, 0),
      (⟨(some 21), [.t 12], .p (.nilChk), none⟩, 0),
      (⟨(some 22), [.t 21], .p (.fAddr 0), none⟩, 0),
      (⟨none, [.t 22, .t 20], .w (.store 1), none⟩, 0)])))
   (.ops [⟨(some 23), [.t 8, .c (.int .i64 1)], .p (.bin .add), none⟩,
     ⟨(some 8), [.t 23], .p (.mov), none⟩])))
def c_encode_writer_num : AC :=
 .seq (.ops [⟨(some 6), [.t 1], .p (.mov), none⟩,
   ⟨(some 7), [.t 6], .p (.lenSl), none⟩,
   ⟨(some 8), [.c (.int .i64 0)], .p (.mov), none⟩])
 (.block 0
  (.loop c_encode_writer_num_l0))
def r_encode_writer_num : List ARes := []
def F_encode_writer_num : AFunc := .code c_encode_writer_num r_encode_writer_num
/- encode.each[api.Color] -/
def c_encode_each__api_Color_l0 : AC :=
 .seq (.ops [⟨(some 9), [.t 8, .t 7], .p (.bin .lss), none⟩])
   (.seq (.cond (.t 9)
    (.skip)
    (.exit 0))
   (.seq (.block 1
    (.seq (.ops [⟨(some 10), [.t 6, .t 8], .p (.iAddrS 4), none⟩,
      ⟨(some 11), [.t 10], .r (.load (some 4)), none⟩,
      ⟨(some 5), [], .n (.alloc [(.int .u8 0), (.int .u8 0), (.int .u8 0), (.int .u8 0)]), none⟩,
      ⟨none, [.t 5, .t 11], .w (.store 4), none⟩])
    (.ops [⟨(some 12), [.t 1], .p (.mov), none⟩,
      ⟨(some 13), [.t 5], .r (.load (some 4)), none⟩,
      ⟨(some 14), [.t 12, .t 13], .w (.callV), none⟩])))
   (.ops [⟨(some 15), [.t 8, .c (.int .i64 1)], .p (.bin .add), none⟩,
     ⟨(some 8), [.t 15], .p (.mov), none⟩])))
def c_encode_each__api_Color : AC :=
 .seq (.ops [⟨(some 6), [.t 0], .p (.mov), none⟩,
   ⟨(some 7), [.t 6], .p (.lenSl), none⟩,
   ⟨(some 8), [.c (.int .i64 0)], .p (.mov), none⟩])
 (.block 0
  (.loop c_encode_each__api_Color_l0))
def r_encode_each__api_Color : List ARes := []
def F_encode_each__api_Color : AFunc := .code c_encode_each__api_Color r_encode_each__api_Color
/- (*encode.writer).color -/
def c_encode_writer_color : AC :=
 .seq (.ops [⟨(some 3), [.t 1], .n (.box), none⟩])
 (.draw [(⟨(some 5), [.t 0], .p (.mov), none⟩, 0),
   (⟨(some 6), [.t 5], .p (.nilChk), none⟩, 0),
   (⟨(some 7), [.t 6], .p (.fAddr 0), none⟩, 0),
   (⟨(some 8), [.t 7], .r (.load none), none⟩, 0),
   (⟨(some 9), [.t 3], .p (.fAddr 0), none⟩, 0),
   (⟨(some 10), [.t 9], .r (.load none), none⟩, 0),
   (⟨(some 11), [.t 3], .p (.fAddr 1), none⟩, 0),
   (⟨(some 12), [.t 11], .r (.load none), none⟩, 0),
   (⟨(some 13), [.t 3], .p (.fAddr 2), none⟩, 0),
   (⟨(some 14), [.t 13], .r (.load none), none⟩, 0),
   (⟨(some 15), [.t 3], .p (.fAddr 3), none⟩, 0),
   (⟨(some 16), [.t 15], .r (.load none), none⟩, 0),
   (⟨(some 17), [.t 10, .t 12, .t 14, .t 16], .n (.bslice 4 [(.int .u8 0), (.int .u8 0), (.int .u8 0), (.int .u8 0)] [(0, 1), (1, 1), (2, 1), (3, 1)]), none⟩, 0),
   (⟨(some 18), [.t 8, .t 17], .w (.append 1 1), none⟩, 0),
   (⟨(some 4), [.t 0], .p (.mov), none⟩, 0),
   (⟨(some 19), [.t 4], .p (.nilChk), none⟩, 0),
   (⟨(some 20), [.t 19], .p (.fAddr 0), none⟩, 0),
   (⟨none, [.t 20, .t 18], .w (.store 1), none⟩, 0)])
def r_encode_writer_color : List ARes := []
def F_encode_writer_color : AFunc := .code c_encode_writer_color r_encode_writer_color
/- encode.each[api.Cmd] -/
def c_encode_each__api_Cmd_l0 : AC :=
 .seq (.ops [⟨(some 9), [.t 8, .t 7], .p (.bin .lss), none⟩])
   (.seq (.cond (.t 9)
    (.skip)
    (.exit 0))
   (.seq (.block 1
    (.seq (.ops [⟨(some 10), [.t 6, .t 8], .p (.iAddrS 11), none⟩,
      ⟨(some 11), [.t 10], .r (.load (some 11)), none⟩,
      ⟨(some 5), [], .n (.alloc [(.int .i64 0), (.int .i64 0), (.int .i64 0), (.int .i64 0), (.int .i64 0), (.int .i64 0), (.int .i64 0), (.int .i64 0), (.int .i64 0), (.int .i64 0), (.slice none 0 (.exact 0))]), none⟩,
      ⟨none, [.t 5, .t 11], .w (.store 11), none⟩])
    (.ops [⟨(some 12), [.t 1], .p (.mov), none⟩,
      ⟨(some 13), [.t 5], .r (.load (some 11)), none⟩,
      ⟨(some 14), [.t 12, .t 13], .w (.callV), none⟩])))
   (.ops [⟨(some 15), [.t 8, .c (.int .i64 1)], .p (.bin .add), none⟩,
     ⟨(some 8), [.t 15], .p (.mov), none⟩])))
def c_encode_each__api_Cmd : AC :=
 .seq (.ops [⟨(some 6), [.t 0], .p (.mov), none⟩,
   ⟨(some 7), [.t 6], .p (.lenSl), none⟩,
   ⟨(some 8), [.c (.int .i64 0)], .p (.mov), none⟩])
 (.block 0
  (.loop c_encode_each__api_Cmd_l0))
def r_encode_each__api_Cmd : List ARes := []
def F_encode_each__api_Cmd : AFunc := .code c_encode_each__api_Cmd r_encode_each__api_Cmd
/- (*encode.writer).cmd -/
def c_encode_writer_cmd : AC :=
 .seq (.ops [⟨(some 3), [.t 1], .n (.box), none⟩])
 (.seq (.ops [⟨(some 4), [.t 0], .p (.mov), none⟩,
   ⟨(some 5), [.t 3], .p (.fAddr 0), none⟩,
   ⟨(some 6), [.t 5], .r (.load none), none⟩,
   ⟨(some 7), [.t 6, .c (.int .i64 1)], .p (.bin .sub), none⟩,
   ⟨(some 8), [.t 3], .p (.fAddr 1), none⟩,
   ⟨(some 9), [.t 8], .r (.load none), none⟩,
   ⟨(some 10), [.c (.int .i64 2), .t 9], .p (.bin .mul), none⟩,
   ⟨(some 11), [.t 7, .t 10], .p (.bin .add), none⟩,
   ⟨(some 12), [.t 3], .p (.fAddr 3), none⟩,
   ⟨(some 13), [.t 12], .p (.fAddr 0), none⟩,
   ⟨(some 14), [.t 13], .r (.load none), none⟩,
   ⟨(some 15), [.c (.int .i64 4), .t 14], .p (.bin .mul), none⟩,
   ⟨(some 16), [.t 11, .t 15], .p (.bin .add), none⟩,
   ⟨(some 17), [.t 16], .n (.bslice 1 [(.int .i64 0)] [(0, 1)]), none⟩,
   ⟨(some 18), [.t 4, .t 17], .w (.callF f_encode_writer_num), none⟩])
 (.seq (.seq (.ops [⟨(some 19), [.t 3], .p (.fAddr 0), none⟩,
   ⟨(some 20), [.t 19], .r (.load none), none⟩,
   ⟨(some 21), [.t 20, .c (.int .i64 2)], .p (.bin .eql), none⟩])
 (.cond (.t 21)
  (.ops [⟨(some 22), [.t 0], .p (.mov), none⟩,
    ⟨(some 23), [.t 3], .p (.fAddr 2), none⟩,
    ⟨(some 24), [.t 23], .r (.load none), none⟩,
    ⟨(some 25), [.t 24], .n (.bslice 1 [(.int .i64 0)] [(0, 1)]), none⟩,
    ⟨(some 26), [.t 22, .t 25], .w (.callF f_encode_writer_num), none⟩])
  (.skip)))
 (.seq (.ops [⟨(some 27), [.t 0], .p (.mov), none⟩,
   ⟨(some 28), [.t 3], .p (.fAddr 3), none⟩,
   ⟨(some 29), [.t 28], .r (.load (some 7)), none⟩,
   ⟨(some 30), [.t 27, .t 29], .w (.callF f_encode_writer_paint), none⟩])
 (.seq (.ops [⟨(some 31), [.t 0], .p (.mov), none⟩,
   ⟨(some 32), [.t 3], .p (.fAddr 10), none⟩,
   ⟨(some 33), [.t 32], .r (.load none), none⟩,
   ⟨(some 34), [.t 33], .p (.lenSl), none⟩,
   ⟨(some 35), [.t 34], .n (.bslice 1 [(.int .i64 0)] [(0, 1)]), none⟩,
   ⟨(some 36), [.t 31, .t 35], .w (.callF f_encode_writer_num), none⟩])
 (.ops [⟨(some 37), [.t 3], .p (.fAddr 10), none⟩,
   ⟨(some 38), [.t 37], .r (.load none), none⟩,
   ⟨(some 39), [.t 0], .p (.mov), none⟩,
   ⟨(some 40), [.t 39], .p (.mkF f_encode_writer_path 1), none⟩,
   ⟨(some 41), [.t 38, .t 40], .w (.callF f_encode_each__api_Path), none⟩])))))
def r_encode_writer_cmd : List ARes := []
def F_encode_writer_cmd : AFunc := .code c_encode_writer_cmd r_encode_writer_cmd
/- glyphicmake.inside -/
def c_glyphicmake_inside : AC :=
 .seq (.ops [⟨(some 4), [], .n (.alloc [(.int .i64 0), (.int .i64 0)]), none⟩])
 (.seq (.seq (.ops [⟨(some 6), [.t 0], .p (.mov), none⟩,
   ⟨(some 7), [.t 6, .c (.int .i64 12)], .w (.callF f_glyphicmake_Seq_Next), none⟩,
   ⟨(some 8), [.t 7, .c (.int .i64 0)], .p (.bin .eql), none⟩])
 (.cond (.t 8)
  (.seq (.ops [⟨(some 9), [.t 0], .p (.mov), none⟩,
    ⟨(some 10), [.t 1], .p (.mov), none⟩,
    ⟨(some 11), [.t 9, .t 10], .w (.callF f_glyphicmake_Point), none⟩,
    ⟨none, [.t 4, .t 11], .w (.store 2), none⟩])
  (.ret))
  (.skip)))
 (.seq (.ops [⟨(some 12), [.t 0], .p (.mov), none⟩,
   ⟨(some 13), [.t 1], .p (.mov), none⟩,
   ⟨(some 14), [.t 13, .c (.int .i64 1)], .p (.bin .add), none⟩,
   ⟨(some 15), [.t 12, .t 14], .w (.callF f_glyphicmake_Seq_Next), none⟩,
   ⟨(some 5), [.t 15], .p (.mov), none⟩])
 (.seq (.ops [⟨(some 16), [.t 5], .p (.mov), none⟩,
   ⟨(some 17), [.t 0], .p (.mov), none⟩,
   ⟨(some 18), [.t 1], .p (.mov), none⟩,
   ⟨(some 19), [.t 18, .c (.int .i64 1)], .p (.bin .add), none⟩,
   ⟨(some 20), [.t 17, .t 19], .w (.callF f_glyphicmake_Seq_Next), none⟩,
   ⟨(some 21), [.t 16, .t 20], .p (.build [(.int .i64 0), (.int .i64 0)] [(0, 1), (1, 1)]), none⟩,
   ⟨none, [.t 4, .t 21], .w (.store 2), none⟩])
 (.ret))))
def r_glyphicmake_inside : List ARes := [.cell 4 (some 2)]
def F_glyphicmake_inside : AFunc := .code c_glyphicmake_inside r_glyphicmake_inside
/- icon.in[int] -/
def c_icon_in__int : AC :=
 .seq (.ops [⟨(some 6), [.c (.bool false)], .p (.mov), none⟩])
 (.seq (.ops [⟨(some 7), [.t 0], .p (.mov), none⟩,
   ⟨(some 8), [.t 1], .p (.mov), none⟩,
   ⟨(some 9), [.t 7, .t 8], .p (.bin .geq), none⟩,
   ⟨(some 10), [.t 9], .p (.mov), none⟩,
   ⟨(some 11), [.t 0], .p (.mov), some (10, true)⟩,
   ⟨(some 12), [.t 2], .p (.mov), some (10, true)⟩,
   ⟨(some 13), [.t 11, .t 12], .p (.bin .leq), some (10, true)⟩,
   ⟨(some 14), [.t 10, .t 13, .c (.bool false)], .p (.pick), none⟩,
   ⟨(some 6), [.t 14], .p (.mov), none⟩])
 (.ret))
def r_icon_in__int : List ARes := [.tmp 6]
def F_icon_in__int : AFunc := .code c_icon_in__int r_icon_in__int
/- icon.head -/
def c_icon_head : AC :=
 .seq (.ops [⟨(some 2), [.t 0], .n (.box), none⟩,
   ⟨(some 4), [.c .nilIface], .p (.mov), none⟩])
 (.seq (.block 0
  (.seq (.ops [⟨(some 6), [.t 2], .p (.fAddr 0), none⟩,
    ⟨(some 7), [.t 6], .r (.load none), none⟩,
    ⟨(some 8), [.t 7, .c (.int .i64 1)], .p (.bin .eql), none⟩,
    ⟨(some 9), [.t 8], .p (.mov), none⟩,
    ⟨(some 10), [.t 2], .p (.fAddr 1), some (9, true)⟩,
    ⟨(some 11), [.t 10], .r (.load none), some (9, true)⟩,
    ⟨(some 12), [.t 11, .c (.int .i64 0), .c (.int .i64 1)], .w (.callF f_icon_in__int), some (9, true)⟩,
    ⟨(some 13), [.t 9, .t 12, .c (.bool false)], .p (.pick), none⟩,
    ⟨(some 14), [.t 13], .p (.mov), none⟩,
    ⟨(some 15), [.t 2], .p (.fAddr 2), some (14, true)⟩,
    ⟨(some 16), [.t 15], .r (.load none), some (14, true)⟩,
    ⟨(some 17), [.t 16, .c (.int .i64 0)], .p (.bin .eql), some (14, true)⟩,
    ⟨(some 18), [.t 14, .t 17, .c (.bool false)], .p (.pick), none⟩,
    ⟨(some 5), [.t 18], .p (.mov), none⟩])
  (.cond (.t 5)
   (.seq (.ops [⟨(some 4), [.c .nilIface], .p (.mov), none⟩])
   (.ret))
   (.seq (.ops [⟨(some 20), [.t 2], .p (.fAddr 0), none⟩,
     ⟨(some 21), [.t 20], .r (.load none), none⟩,
     ⟨(some 22), [.t 21, .c (.int .i64 2)], .p (.bin .eql), none⟩,
     ⟨(some 23), [.t 22], .p (.mov), none⟩,
     ⟨(some 24), [.t 2], .p (.fAddr 1), some (23, true)⟩,
     ⟨(some 25), [.t 24], .r (.load none), some (23, true)⟩,
     ⟨(some 26), [.t 25, .c (.int .i64 0)], .p (.bin .eql), some (23, true)⟩,
     ⟨(some 27), [.t 23, .t 26, .c (.bool false)], .p (.pick), none⟩,
     ⟨(some 28), [.t 27], .p (.mov), none⟩,
     ⟨(some 29), [.t 2], .p (.fAddr 2), some (28, true)⟩,
     ⟨(some 30), [.t 29], .r (.load none), some (28, true)⟩,
     ⟨(some 31), [.t 1], .p (.mov), some (28, true)⟩,
     ⟨(some 32), [.t 30, .c (.int .i64 1), .t 31], .w (.callF f_icon_in__int64), some (28, true)⟩,
     ⟨(some 33), [.t 28, .t 32, .c (.bool false)], .p (.pick), none⟩,
     ⟨(some 19), [.t 33], .p (.mov), none⟩])
   (.cond (.t 19)
    (.seq (.ops [⟨(some 4), [.c .nilIface], .p (.mov), none⟩])
    (.ret))
    (.skip))))))
 (.seq (.ops [⟨(some 34), [.c (.ptr (some (g_ErrRange, 0)))], .r (.load none), none⟩,
   ⟨(some 4), [.t 34], .p (.mov), none⟩])
 (.ret)))
def r_icon_head : List ARes := [.tmp 4]
def F_icon_head : AFunc := .code c_icon_head r_icon_head
/- icon.paint -/
def c_icon_paint : AC :=
 .seq (.ops [⟨(some 3), [.t 0], .n (.box), none⟩,
   ⟨(some 6), [.c .nilIface], .p (.mov), none⟩])
 (.seq (.ops [⟨(some 8), [.t 3], .p (.fAddr 0), none⟩,
   ⟨(some 9), [.t 8], .r (.load none), none⟩,
   ⟨(some 10), [.t 9, .c (.int .i64 0)], .p (.bin .eql), none⟩,
   ⟨(some 7), [.t 10], .p (.mov), none⟩])
 (.seq (.block 0
  (.seq (.ops [⟨(some 12), [.t 3], .p (.fAddr 0), none⟩,
    ⟨(some 13), [.t 12], .r (.load none), none⟩,
    ⟨(some 14), [.t 13, .c (.int .i64 0), .c (.int .i64 2)], .w (.callF f_icon_in__int), none⟩,
    ⟨(some 15), [.t 14], .p (.un .not), none⟩,
    ⟨(some 16), [.t 15], .p (.mov), none⟩,
    ⟨(some 17), [.t 3], .p (.fAddr 1), some (16, false)⟩,
    ⟨(some 18), [.t 17], .r (.load none), some (16, false)⟩,
    ⟨(some 19), [.t 1], .p (.mov), some (16, false)⟩,
    ⟨(some 20), [.t 19, .c (.int .i64 1)], .p (.bin .sub), some (16, false)⟩,
    ⟨(some 21), [.t 18, .c (.int .i64 0), .t 20], .w (.callF f_icon_in__int), some (16, false)⟩,
    ⟨(some 22), [.t 21], .p (.un .not), some (16, false)⟩,
    ⟨(some 23), [.t 16, .c (.bool true), .t 22], .p (.pick), none⟩,
    ⟨(some 24), [.t 23], .p (.mov), none⟩,
    ⟨(some 25), [.t 7], .p (.mov), some (24, false)⟩,
    ⟨(some 26), [.t 25], .p (.un .not), some (24, false)⟩,
    ⟨(some 27), [.t 26], .p (.mov), some (24, false)⟩,
    ⟨(some 28), [.t 3], .p (.fAddr 2), some (27, true)⟩,
    ⟨(some 29), [.t 28], .r (.load none), some (27, true)⟩,
    ⟨(some 30), [.t 1], .p (.mov), some (27, true)⟩,
    ⟨(some 31), [.t 30, .c (.int .i64 1)], .p (.bin .sub), some (27, true)⟩,
    ⟨(some 32), [.t 29, .c (.int .i64 0), .t 31], .w (.callF f_icon_in__int), some (27, true)⟩,
    ⟨(some 33), [.t 32], .p (.un .not), some (27, true)⟩,
    ⟨(some 34), [.t 27, .t 33, .c (.bool false)], .p (.pick), some (24, false)⟩,
    ⟨(some 35), [.t 24, .c (.bool true), .t 34], .p (.pick), none⟩,
    ⟨(some 11), [.t 35], .p (.mov), none⟩])
  (.cond (.t 11)
   (.seq (.ops [⟨(some 36), [.c (.ptr (some (g_ErrRange, 0)))], .r (.load none), none⟩,
     ⟨(some 6), [.t 36], .p (.mov), none⟩])
   (.ret))
   (.seq (.ops [⟨(some 38), [.t 7], .p (.mov), none⟩,
     ⟨(some 39), [.t 38], .p (.mov), none⟩,
     ⟨(some 40), [.t 3], .p (.fAddr 2), some (39, true)⟩,
     ⟨(some 41), [.t 40], .r (.load none), some (39, true)⟩,
     ⟨(some 42), [.t 41, .c (.int .i64 0)], .p (.bin .neq), some (39, true)⟩,
     ⟨(some 43), [.t 42], .p (.mov), some (39, true)⟩,
     ⟨(some 44), [.t 3], .p (.fAddr 3), some (43, false)⟩,
     ⟨(some 45), [.t 44], .r (.load (some 2)), some (43, false)⟩,
     ⟨(some 46), [], .p (.build [(.int .i64 0), (.int .i64 0)] []), some (43, false)⟩,
     ⟨(some 47), [.t 45, .t 46], .r (.eq true (.agg [(0, none, .int), (1, none, .int)])), some (43, false)⟩,
     ⟨(some 48), [.t 43, .c (.bool true), .t 47], .p (.pick), some (39, true)⟩,
     ⟨(some 49), [.t 48], .p (.mov), some (39, true)⟩,
     ⟨(some 50), [.t 3], .p (.fAddr 5), some (49, false)⟩,
     ⟨(some 51), [.t 50], .r (.load (some 2)), some (49, false)⟩,
     ⟨(some 52), [], .p (.build [(.int .i64 0), (.int .i64 0)] []), some (49, false)⟩,
     ⟨(some 53), [.t 51, .t 52], .r (.eq true (.agg [(0, none, .int), (1, none, .int)])), some (49, false)⟩,
     ⟨(some 54), [.t 49, .c (.bool true), .t 53], .p (.pick), some (39, true)⟩,
     ⟨(some 55), [.t 39, .t 54, .c (.bool false)], .p (.pick), none⟩,
     ⟨(some 37), [.t 55], .p (.mov), none⟩])
   (.cond (.t 37)
    (.seq (.ops [⟨(some 56), [.c (.ptr (some (g_ErrCanon, 0)))], .r (.load none), none⟩,
      ⟨(some 6), [.t 56], .p (.mov), none⟩])
    (.ret))
    (.seq (.ops [⟨(some 58), [.t 7], .p (.mov), none⟩,
      ⟨(some 57), [.t 58], .p (.mov), none⟩])
    (.cond (.t 57)
     (.seq (.ops [⟨(some 6), [.c .nilIface], .p (.mov), none⟩])
     (.ret))
     (.seq (.ops [⟨(some 60), [.t 3], .p (.fAddr 3), none⟩,
       ⟨(some 61), [.t 60], .r (.load (some 2)), none⟩,
       ⟨(some 62), [.t 2], .p (.mov), none⟩,
       ⟨(some 63), [.t 61, .t 62], .w (.callF f_icon_far), none⟩,
       ⟨(some 59), [.t 63], .p (.mov), none⟩])
     (.cond (.t 59)
      (.seq (.ops [⟨(some 64), [.c (.ptr (some (g_ErrRange, 0)))], .r (.load none), none⟩,
        ⟨(some 6), [.t 64], .p (.mov), none⟩])
      (.ret))
      (.seq (.ops [⟨(some 66), [.t 3], .p (.fAddr 0), none⟩,
        ⟨(some 67), [.t 66], .r (.load none), none⟩,
        ⟨(some 68), [.t 67, .c (.int .i64 1)], .p (.bin .eql), none⟩,
        ⟨(some 69), [.t 68], .p (.mov), none⟩,
        ⟨(some 70), [.t 3], .p (.fAddr 5), some (69, true)⟩,
        ⟨(some 71), [.t 70], .r (.load (some 2)), some (69, true)⟩,
        ⟨(some 72), [.t 2], .p (.mov), some (69, true)⟩,
        ⟨(some 73), [.t 71, .t 72], .w (.callF f_icon_far), some (69, true)⟩,
        ⟨(some 74), [.t 73], .p (.mov), some (69, true)⟩,
        ⟨(some 75), [.t 3], .p (.fAddr 3), some (74, false)⟩,
        ⟨(some 76), [.t 75], .r (.load (some 2)), some (74, false)⟩,
        ⟨(some 77), [.t 3], .p (.fAddr 5), some (74, false)⟩,
        ⟨(some 78), [.t 77], .r (.load (some 2)), some (74, false)⟩,
        ⟨(some 79), [.t 76, .t 78], .r (.eq false (.agg [(0, none, .int), (1, none, .int)])), some (74, false)⟩,
        ⟨(some 80), [.t 74, .c (.bool true), .t 79], .p (.pick), some (69, true)⟩,
        ⟨(some 81), [.t 69, .t 80, .c (.bool false)], .p (.pick), none⟩,
        ⟨(some 65), [.t 81], .p (.mov), none⟩])
      (.cond (.t 65)
       (.seq (.ops [⟨(some 82), [.c (.ptr (some (g_ErrRange, 0)))], .r (.load none), none⟩,
         ⟨(some 6), [.t 82], .p (.mov), none⟩])
       (.ret))
       (.seq (.ops [⟨(some 84), [.t 3], .p (.fAddr 0), none⟩,
         ⟨(some 85), [.t 84], .r (.load none), none⟩,
         ⟨(some 86), [.t 85, .c (.int .i64 2)], .p (.bin .eql), none⟩,
         ⟨(some 87), [.t 86], .p (.mov), none⟩,
         ⟨(some 88), [.t 3], .p (.fAddr 5), some (87, true)⟩,
         ⟨(some 89), [.t 88], .p (.fAddr 0), some (87, true)⟩,
         ⟨(some 90), [.t 89], .r (.load none), some (87, true)⟩,
         ⟨(some 91), [.t 2], .p (.mov), some (87, true)⟩,
         ⟨(some 92), [.t 90, .c (.int .i64 1), .t 91], .w (.callF f_icon_in__int64), some (87, true)⟩,
         ⟨(some 93), [.t 92], .p (.un .not), some (87, true)⟩,
         ⟨(some 94), [.t 87, .t 93, .c (.bool false)], .p (.pick), none⟩,
         ⟨(some 83), [.t 94], .p (.mov), none⟩])
       (.cond (.t 83)
        (.seq (.ops [⟨(some 95), [.c (.ptr (some (g_ErrRange, 0)))], .r (.load none), none⟩,
          ⟨(some 6), [.t 95], .p (.mov), none⟩])
        (.ret))
        (.seq (.ops [⟨(some 97), [.t 3], .p (.fAddr 0), none⟩,
          ⟨(some 98), [.t 97], .r (.load none), none⟩,
          ⟨(some 99), [.t 98, .c (.int .i64 2)], .p (.bin .eql), none⟩,
          ⟨(some 100), [.t 99], .p (.mov), none⟩,
          ⟨(some 101), [.t 3], .p (.fAddr 5), some (100, true)⟩,
          ⟨(some 102), [.t 101], .p (.fAddr 1), some (100, true)⟩,
          ⟨(some 103), [.t 102], .r (.load none), some (100, true)⟩,
          ⟨(some 104), [.t 103, .c (.int .i64 0)], .p (.bin .neq), some (100, true)⟩,
          ⟨(some 105), [.t 100, .t 104, .c (.bool false)], .p (.pick), none⟩,
          ⟨(some 96), [.t 105], .p (.mov), none⟩])
        (.cond (.t 96)
         (.seq (.ops [⟨(some 106), [.c (.ptr (some (g_ErrCanon, 0)))], .r (.load none), none⟩,
           ⟨(some 6), [.t 106], .p (.mov), none⟩])
         (.ret))
         (.skip))))))))))))))))
 (.seq (.ops [⟨(some 6), [.c .nilIface], .p (.mov), none⟩])
 (.ret))))
def r_icon_paint : List ARes := [.tmp 6]
def F_icon_paint : AFunc := .code c_icon_paint r_icon_paint
/- icon.path -/
def c_icon_path_l0 : AC :=
 .seq (.ops [⟨(some 39), [.t 38, .t 37], .p (.bin .lss), none⟩])
   (.seq (.cond (.t 39)
    (.skip)
    (.exit 1))
   (.seq (.block 2
    (.seq (.ops [⟨(some 40), [.t 36, .t 38], .p (.iAddrS 7), none⟩,
      ⟨(some 41), [.t 40], .r (.load (some 7)), none⟩,
      ⟨(some 8), [], .n (.alloc [(.int .i64 0), (.int .i64 0), (.int .i64 0), (.int .i64 0), (.int .i64 0), (.int .i64 0), (.int .i64 0)]), none⟩,
      ⟨none, [.t 8, .t 41], .w (.store 7), none⟩])
    (.seq (.ops [⟨(some 42), [.t 8], .r (.load (some 7)), none⟩,
      ⟨(some 43), [.t 2], .p (.mov), none⟩,
      ⟨(some 44), [.t 42, .t 43], .w (.callF f_icon_seg), none⟩,
      ⟨(some 9), [.t 44], .p (.mov), none⟩])
    (.seq (.ops [⟨(some 45), [.t 9], .p (.mov), none⟩,
      ⟨(some 46), [.t 45, .c .nilIface], .r (.eq true (.iface [t_p_api_At, t_p_errors_errorString] true)), none⟩])
    (.cond (.t 46)
     (.seq (.ops [⟨(some 47), [.t 9], .p (.mov), none⟩,
       ⟨(some 6), [.t 47], .p (.mov), none⟩])
     (.ret))
     (.skip))))))
   (.ops [⟨(some 48), [.t 38, .c (.int .i64 1)], .p (.bin .add), none⟩,
     ⟨(some 38), [.t 48], .p (.mov), none⟩])))
def c_icon_path : AC :=
 .seq (.ops [⟨(some 3), [.t 0], .n (.box), none⟩,
   ⟨(some 6), [.c .nilIface], .p (.mov), none⟩])
 (.seq (.block 0
  (.seq (.ops [⟨(some 11), [.t 1], .p (.mov), none⟩,
    ⟨(some 12), [.t 11], .p (.mov), none⟩,
    ⟨(some 13), [.t 3], .p (.fAddr 3), some (12, true)⟩,
    ⟨(some 14), [.t 13], .r (.load none), some (12, true)⟩,
    ⟨(some 15), [.t 12, .t 14, .c (.bool false)], .p (.pick), none⟩,
    ⟨(some 10), [.t 15], .p (.mov), none⟩])
  (.cond (.t 10)
   (.seq (.ops [⟨(some 16), [.c (.ptr (some (g_ErrCanon, 0)))], .r (.load none), none⟩,
     ⟨(some 6), [.t 16], .p (.mov), none⟩])
   (.ret))
   (.seq (.ops [⟨(some 18), [.t 3], .p (.fAddr 2), none⟩,
     ⟨(some 19), [.t 18], .r (.load none), none⟩,
     ⟨(some 20), [.t 19], .p (.lenSl), none⟩,
     ⟨(some 21), [.t 20, .c (.int .i64 0)], .p (.bin .eql), none⟩,
     ⟨(some 17), [.t 21], .p (.mov), none⟩])
   (.cond (.t 17)
    (.seq (.ops [⟨(some 22), [.c (.ptr (some (g_ErrRange, 0)))], .r (.load none), none⟩,
      ⟨(some 6), [.t 22], .p (.mov), none⟩])
    (.ret))
    (.seq (.ops [⟨(some 24), [.t 3], .p (.fAddr 2), none⟩,
      ⟨(some 25), [.t 24], .r (.load none), none⟩,
      ⟨(some 26), [.t 25], .p (.lenSl), none⟩,
      ⟨(some 27), [.t 26, .c (.int .i64 400)], .p (.bin .gtr), none⟩,
      ⟨(some 23), [.t 27], .p (.mov), none⟩])
    (.cond (.t 23)
     (.seq (.ops [⟨(some 28), [.c (.ptr (some (g_ErrLimit, 0)))], .r (.load none), none⟩,
       ⟨(some 6), [.t 28], .p (.mov), none⟩])
     (.ret))
     (.seq (.ops [⟨(some 30), [.t 3], .p (.fAddr 0), none⟩,
       ⟨(some 31), [.t 30], .r (.load (some 2)), none⟩,
       ⟨(some 32), [.t 2], .p (.mov), none⟩,
       ⟨(some 33), [.t 31, .t 32], .w (.callF f_icon_far), none⟩,
       ⟨(some 29), [.t 33], .p (.mov), none⟩])
     (.cond (.t 29)
      (.seq (.ops [⟨(some 34), [.c (.ptr (some (g_ErrRange, 0)))], .r (.load none), none⟩,
        ⟨(some 6), [.t 34], .p (.mov), none⟩])
      (.ret))
      (.skip))))))))))
 (.seq (.seq (.ops [⟨(some 35), [.t 3], .p (.fAddr 2), none⟩,
   ⟨(some 36), [.t 35], .r (.load none), none⟩,
   ⟨(some 37), [.t 36], .p (.lenSl), none⟩,
   ⟨(some 38), [.c (.int .i64 0)], .p (.mov), none⟩])
 (.block 1
  (.loop c_icon_path_l0)))
 (.seq (.ops [⟨(some 6), [.c .nilIface], .p (.mov), none⟩])
 (.ret))))
def r_icon_path : List ARes := [.tmp 6]
def F_icon_path : AFunc := .code c_icon_path r_icon_path
/- slices.Contains[[]api.Color,api.Color] -/
def c_slices_Contains__api_Color_api_Color : AC :=
 .seq (.ops [⟨(some 3), [.t 1], .n (.box), none⟩,
   ⟨(some 4), [.c (.bool false)], .p (.mov), none⟩])
 (.seq (.ops [⟨(some 5), [.t 0], .p (.mov), none⟩,
   ⟨(some 6), [.t 3], .r (.load (some 4)), none⟩,
   ⟨(some 7), [.t 5, .t 6], .w (.callF f_slices_Index__api_Color_api_Color), none⟩,
   ⟨(some 8), [.t 7, .c (.int .i64 0)], .p (.bin .geq), none⟩,
   ⟨(some 4), [.t 8], .p (.mov), none⟩])
 (.ret))
def r_slices_Contains__api_Color_api_Color : List ARes := [.tmp 4]
def F_slices_Contains__api_Color_api_Color : AFunc := .code c_slices_Contains__api_Color_api_Color r_slices_Contains__api_Color_api_Color
/- wire.Put -/
def c_wire_Put_l0 : AC :=
 .seq (.seq (.ops [⟨(some 7), [.t 1], .p (.mov), none⟩,
     ⟨(some 8), [.t 7, .c (.int .u64 128)], .p (.bin .geq), none⟩])
   (.cond (.t 8)
    (.skip)
    (.exit 0)))
   (.block 1
    (.seq (.ops [⟨(some 9), [.t 0], .p (.mov), none⟩,
      ⟨(some 10), [.t 1], .p (.mov), none⟩,
      ⟨(some 11), [.t 10], .p (.conv .u8), none⟩,
      ⟨(some 12), [.t 11, .c (.int .u8 128)], .p (.bin .or), none⟩,
      ⟨(some 13), [.t 12], .n (.bslice 1 [(.int .u8 0)] [(0, 1)]), none⟩,
      ⟨(some 14), [.t 9, .t 13], .w (.append 1 1), none⟩,
      ⟨(some 0), [.t 14], .p (.mov), none⟩])
    (.ops [⟨(some 15), [.t 1], .p (.mov), none⟩,
      ⟨(some 16), [.t 15, .c (.int .u64 7)], .p (.bin .shr), none⟩,
      ⟨(some 1), [.t 16], .p (.mov), none⟩])))
def c_wire_Put : AC :=
 .seq (.ops [⟨(some 4), [.c (.slice none 0 (.exact 0))], .p (.mov), none⟩])
 (.seq (.ops [⟨(some 5), [.t 0], .p (.mov), none⟩,
   ⟨(some 6), [.t 5], .w (.callF f_slices_Clone__byte_byte), none⟩,
   ⟨(some 0), [.t 6], .p (.mov), none⟩])
 (.seq (.block 0
  (.loop c_wire_Put_l0))
 (.seq (.ops [⟨(some 17), [.t 0], .p (.mov), none⟩,
   ⟨(some 18), [.t 1], .p (.mov), none⟩,
   ⟨(some 19), [.t 18], .p (.conv .u8), none⟩,
   ⟨(some 20), [.t 19], .n (.bslice 1 [(.int .u8 0)] [(0, 1)]), none⟩,
   ⟨(some 21), [.t 17, .t 20], .w (.append 1 1), none⟩,
   ⟨(some 4), [.t 21], .p (.mov), none⟩])
 (.ret))))
def r_wire_Put : List ARes := [.tmp 4]
def F_wire_Put : AFunc := .code c_wire_Put r_wire_Put
/- (*encode.writer).paint -/
def c_encode_writer_paint : AC :=
 .seq (.ops [⟨(some 3), [.t 1], .n (.box), none⟩])
 (.seq (.ops [⟨(some 4), [.t 0], .p (.mov), none⟩,
   ⟨(some 5), [.t 3], .p (.fAddr 1), none⟩,
   ⟨(some 6), [.t 5], .r (.load none), none⟩,
   ⟨(some 7), [.t 6], .n (.bslice 1 [(.int .i64 0)] [(0, 1)]), none⟩,
   ⟨(some 8), [.t 4, .t 7], .w (.callF f_encode_writer_num), none⟩])
 (.seq (.seq (.ops [⟨(some 9), [.t 3], .p (.fAddr 0), none⟩,
   ⟨(some 10), [.t 9], .r (.load none), none⟩,
   ⟨(some 11), [.t 10, .c (.int .i64 0)], .p (.bin .eql), none⟩])
 (.cond (.t 11)
  (.ret)
  (.skip)))
 (.seq (.ops [⟨(some 12), [.t 0], .p (.mov), none⟩,
   ⟨(some 13), [.t 3], .p (.fAddr 2), none⟩,
   ⟨(some 14), [.t 13], .r (.load none), none⟩,
   ⟨(some 15), [.t 14], .n (.bslice 1 [(.int .i64 0)] [(0, 1)]), none⟩,
   ⟨(some 16), [.t 12, .t 15], .w (.callF f_encode_writer_num), none⟩])
 (.seq (.ops [⟨(some 17), [.t 0], .p (.mov), none⟩,
   ⟨(some 18), [.t 3], .p (.fAddr 3), none⟩,
   ⟨(some 19), [.t 18], .r (.load (some 2)), none⟩,
   ⟨(some 20), [.t 17, .t 19], .w (.callF f_encode_writer_point), none⟩])
 (.seq (.ops [⟨(some 21), [.t 3], .p (.fAddr 0), none⟩,
   ⟨(some 22), [.t 21], .r (.load none), none⟩,
   ⟨(some 23), [.t 22, .c (.int .i64 1)], .p (.bin .eql), none⟩])
 (.cond (.t 23)
  (.ops [⟨(some 24), [.t 0], .p (.mov), none⟩,
    ⟨(some 25), [.t 3], .p (.fAddr 5), none⟩,
    ⟨(some 26), [.t 25], .r (.load (some 2)), none⟩,
    ⟨(some 27), [.t 24, .t 26], .w (.callF f_encode_writer_point), none⟩])
  (.ops [⟨(some 28), [.t 0], .p (.mov), none⟩,
    ⟨(some 29), [.t 3], .p (.fAddr 5), none⟩,
    ⟨(some 30), [.t 29], .p (.fAddr 0), none⟩,
    ⟨(some 31), [.t 30], .r (.load none), none⟩,
    ⟨(some 32), [.t 31], .n (.bslice 1 [(.int .i64 0)] [(0, 1)]), none⟩,
    ⟨(some 33), [.t 28, .t 32], .w (.callF f_encode_writer_num), none⟩])))))))
def r_encode_writer_paint : List ARes := []
def F_encode_writer_paint : AFunc := .code c_encode_writer_paint r_encode_writer_paint
/- encode.each[api.Path] -/
def c_encode_each__api_Path_l0 : AC :=
 .seq (.ops [⟨(some 9), [.t 8, .t 7], .p (.bin .lss), none⟩])
   (.seq (.cond (.t 9)
    (.skip)
    (.exit 0))
   (.seq (.block 1
    (.seq (.ops [⟨(some 10), [.t 6, .t 8], .p (.iAddrS 4), none⟩,
      ⟨(some 11), [.t 10], .r (.load (some 4)), none⟩,
      ⟨(some 5), [], .n (.alloc [(.int .i64 0), (.int .i64 0), (.slice none 0 (.exact 0)), (.bool false)]), none⟩,
      ⟨none, [.t 5, .t 11], .w (.store 4), none⟩])
    (.ops [⟨(some 12), [.t 1], .p (.mov), none⟩,
      ⟨(some 13), [.t 5], .r (.load (some 4)), none⟩,
      ⟨(some 14), [.t 12, .t 13], .w (.callV), none⟩])))
   (.ops [⟨(some 15), [.t 8, .c (.int .i64 1)], .p (.bin .add), none⟩,
     ⟨(some 8), [.t 15], .p (.mov), none⟩])))
def c_encode_each__api_Path : AC :=
 .seq (.ops [⟨(some 6), [.t 0], .p (.mov), none⟩,
   ⟨(some 7), [.t 6], .p (.lenSl), none⟩,
   ⟨(some 8), [.c (.int .i64 0)], .p (.mov), none⟩])
 (.block 0
  (.loop c_encode_each__api_Path_l0))
def r_encode_each__api_Path : List ARes := []
def F_encode_each__api_Path : AFunc := .code c_encode_each__api_Path r_encode_each__api_Path
/- (*encode.writer).path -/
def c_encode_writer_path_l0 : AC :=
 .seq (.ops [⟨(some 65), [.t 64, .t 63], .p (.bin .lss), none⟩])
         (.seq (.cond (.t 65)
          (.skip)
          (.exit 4))
         (.seq (.block 5
          (.seq (.ops [⟨(some 66), [.t 62, .t 64], .p (.iAddrS 2), none⟩,
            ⟨(some 67), [.t 66], .r (.load (some 2)), none⟩,
            ⟨(some 13), [], .n (.alloc [(.int .i64 0), (.int .i64 0)]), none⟩,
            ⟨none, [.t 13, .t 67], .w (.store 2), none⟩])
          (.seq (.ops [⟨(some 68), [.t 0], .p (.mov), none⟩,
            ⟨(some 69), [.t 13], .r (.load (some 2)), none⟩,
            ⟨(some 70), [.t 6], .r (.load (some 2)), none⟩,
            ⟨(some 71), [.t 69, .t 70], .w (.callF f_plane_Sub), none⟩,
            ⟨(some 72), [.t 68, .t 71], .w (.callF f_encode_writer_point), none⟩])
          (.ops [⟨(some 73), [.t 13], .r (.load (some 2)), none⟩,
            ⟨none, [.t 6, .t 73], .w (.store 2), none⟩]))))
         (.ops [⟨(some 74), [.t 64, .c (.int .i64 1)], .p (.bin .add), none⟩,
           ⟨(some 64), [.t 74], .p (.mov), none⟩])))
def c_encode_writer_path_l1 : AC :=
 .seq (.ops [⟨(some 56), [.t 55, .t 54], .p (.bin .lss), none⟩])
      (.seq (.cond (.t 56)
       (.skip)
       (.exit 2))
      (.seq (.block 3
       (.seq (.ops [⟨(some 57), [.t 53, .t 55], .p (.iAddrS 7), none⟩,
         ⟨(some 58), [.t 57], .r (.load (some 7)), none⟩,
         ⟨(some 11), [], .n (.alloc [(.int .i64 0), (.int .i64 0), (.int .i64 0), (.int .i64 0), (.int .i64 0), (.int .i64 0), (.int .i64 0)]), none⟩,
         ⟨none, [.t 11, .t 58], .w (.store 7), none⟩])
       (.seq (.ops [⟨(some 59), [.t 11], .p (.fAddr 1), none⟩,
         ⟨(some 60), [.t 11], .p (.fAddr 0), none⟩,
         ⟨(some 61), [.t 60], .r (.load none), none⟩,
         ⟨(some 62), [.t 59, .t 61], .p (.slArr 3 2 false true), none⟩,
         ⟨(some 63), [.t 62], .p (.lenSl), none⟩,
         ⟨(some 64), [.c (.int .i64 0)], .p (.mov), none⟩])
       (.block 4
        (.loop c_encode_writer_path_l0)))))
      (.ops [⟨(some 75), [.t 55, .c (.int .i64 1)], .p (.bin .add), none⟩,
        ⟨(some 55), [.t 75], .p (.mov), none⟩])))
def c_encode_writer_path_l2 : AC :=
 .seq (.ops [⟨(some 38), [.t 37, .t 36], .p (.bin .lss), none⟩])
   (.seq (.cond (.t 38)
    (.skip)
    (.exit 0))
   (.seq (.block 1
    (.seq (.ops [⟨(some 39), [.t 35, .t 37], .p (.iAddrS 2), none⟩,
      ⟨(some 40), [.t 39], .r (.load (some 2)), none⟩,
      ⟨(some 9), [], .n (.alloc [(.int .i64 0), (.int .i64 0)]), none⟩,
      ⟨none, [.t 9, .t 40], .w (.store 2), none⟩])
    (.seq (.ops [⟨(some 41), [.t 0], .p (.mov), none⟩,
      ⟨(some 42), [.t 9, .c (.int .i64 1)], .p (.iAddrA 2 1), none⟩,
      ⟨(some 43), [.t 42], .r (.load none), none⟩,
      ⟨(some 44), [.c (.int .i64 4), .t 43], .p (.bin .mul), none⟩,
      ⟨(some 45), [.t 9, .c (.int .i64 0)], .p (.iAddrA 2 1), none⟩,
      ⟨(some 46), [.t 45], .r (.load none), none⟩,
      ⟨(some 47), [.t 44, .t 46], .p (.bin .add), none⟩,
      ⟨(some 48), [.t 47], .n (.bslice 1 [(.int .i64 0)] [(0, 1)]), none⟩,
      ⟨(some 49), [.t 41, .t 48], .w (.callF f_encode_writer_num), none⟩])
    (.seq (.seq (.ops [⟨(some 50), [.t 7], .p (.mov), none⟩,
      ⟨(some 51), [.t 9, .c (.int .i64 1)], .p (.iAddrA 2 1), none⟩,
      ⟨(some 52), [.t 51], .r (.load none), none⟩,
      ⟨(some 53), [.t 50, .t 52], .p (.slSl 7 false true), none⟩,
      ⟨(some 54), [.t 53], .p (.lenSl), none⟩,
      ⟨(some 55), [.c (.int .i64 0)], .p (.mov), none⟩])
    (.block 2
     (.loop c_encode_writer_path_l1)))
    (.ops [⟨(some 76), [.t 7], .p (.mov), none⟩,
      ⟨(some 77), [.t 9, .c (.int .i64 1)], .p (.iAddrA 2 1), none⟩,
      ⟨(some 78), [.t 77], .r (.load none), none⟩,
      ⟨(some 79), [.t 76, .t 78], .p (.slSl 7 true false), none⟩,
      ⟨(some 7), [.t 79], .p (.mov), none⟩])))))
   (.ops [⟨(some 80), [.t 37, .c (.int .i64 1)], .p (.bin .add), none⟩,
     ⟨(some 37), [.t 80], .p (.mov), none⟩])))
def c_encode_writer_path : AC :=
 .seq (.ops [⟨(some 3), [.t 1], .n (.box), none⟩])
 (.seq (.ops [⟨(some 14), [.t 3], .p (.fAddr 2), none⟩,
   ⟨(some 15), [.t 14], .r (.load none), none⟩,
   ⟨(some 16), [.t 15], .w (.callF f_encode_Runs), none⟩,
   ⟨(some 4), [.t 16], .p (.mov), none⟩])
 (.seq (.ops [⟨(some 5), [.c (.int .i64 0)], .p (.mov), none⟩])
 (.seq (.seq (.ops [⟨(some 17), [.t 3], .p (.fAddr 3), none⟩,
   ⟨(some 18), [.t 17], .r (.load none), none⟩])
 (.cond (.t 18)
  (.ops [⟨(some 5), [.c (.int .i64 1)], .p (.mov), none⟩])
  (.skip)))
 (.seq (.ops [⟨(some 19), [.t 0], .p (.mov), none⟩,
   ⟨(some 20), [.t 4], .p (.mov), none⟩,
   ⟨(some 21), [.t 20], .p (.lenSl), none⟩,
   ⟨(some 22), [.c (.int .i64 2), .t 21], .p (.bin .mul), none⟩,
   ⟨(some 23), [.t 5], .p (.mov), none⟩,
   ⟨(some 24), [.t 22, .t 23], .p (.bin .add), none⟩,
   ⟨(some 25), [.t 24], .n (.bslice 1 [(.int .i64 0)] [(0, 1)]), none⟩,
   ⟨(some 26), [.t 19, .t 25], .w (.callF f_encode_writer_num), none⟩])
 (.seq (.ops [⟨(some 27), [.t 0], .p (.mov), none⟩,
   ⟨(some 28), [.t 3], .p (.fAddr 0), none⟩,
   ⟨(some 29), [.t 28], .r (.load (some 2)), none⟩,
   ⟨(some 30), [.t 27, .t 29], .w (.callF f_encode_writer_point), none⟩])
 (.seq (.draw [(⟨(some 31), [.t 3], .p (.fAddr 0), none⟩, 0),
   (⟨(some 32), [.t 31], .r (.load (some 2)), none⟩, 0),
   (⟨(some 6), [], .n (.alloc [(.int .i64 0), (.int .i64 0)]), none⟩, 0),
   (⟨none, [.t 6, .t 32], .w (.store 2), none⟩, 0),
   (⟨(some 33), [.t 3], .p (.fAddr 2), none⟩, 0),
   (⟨(some 34), [.t 33], .r (.load none), none⟩, 1),
   (⟨(some 7), [.t 34], .p (.mov), none⟩, 0)])
 (.seq (.ops [⟨(some 35), [.t 4], .p (.mov), none⟩,
   ⟨(some 36), [.t 35], .p (.lenSl), none⟩,
   ⟨(some 37), [.c (.int .i64 0)], .p (.mov), none⟩])
 (.block 0
  (.loop c_encode_writer_path_l2)))))))))
def r_encode_writer_path : List ARes := []
def F_encode_writer_path : AFunc := .code c_encode_writer_path r_encode_writer_path
/- glyphicref.SameCmd -/
def c_glyphicref_SameCmd : AC :=
 .seq (.ops [⟨(some 2), [.t 0], .n (.box), none⟩,
   ⟨(some 3), [.t 1], .n (.box), none⟩,
   ⟨(some 4), [.c (.bool false)], .p (.mov), none⟩])
 (.seq (.ops [⟨(some 5), [.t 2], .p (.fAddr 0), none⟩,
   ⟨(some 6), [.t 5], .r (.load none), none⟩,
   ⟨(some 7), [.t 3], .p (.fAddr 0), none⟩,
   ⟨(some 8), [.t 7], .r (.load none), none⟩,
   ⟨(some 9), [.t 6, .t 8], .p (.bin .eql), none⟩,
   ⟨(some 10), [.t 9], .p (.mov), none⟩,
   ⟨(some 11), [.t 2], .p (.fAddr 1), some (10, true)⟩,
   ⟨(some 12), [.t 11], .r (.load none), some (10, true)⟩,
   ⟨(some 13), [.t 3], .p (.fAddr 1), some (10, true)⟩,
   ⟨(some 14), [.t 13], .r (.load none), some (10, true)⟩,
   ⟨(some 15), [.t 12, .t 14], .p (.bin .eql), some (10, true)⟩,
   ⟨(some 16), [.t 10, .t 15, .c (.bool false)], .p (.pick), none⟩,
   ⟨(some 17), [.t 16], .p (.mov), none⟩,
   ⟨(some 18), [.t 2], .p (.fAddr 2), some (17, true)⟩,
   ⟨(some 19), [.t 18], .r (.load none), some (17, true)⟩,
   ⟨(some 20), [.t 3], .p (.fAddr 2), some (17, true)⟩,
   ⟨(some 21), [.t 20], .r (.load none), some (17, true)⟩,
   ⟨(some 22), [.t 19, .t 21], .p (.bin .eql), some (17, true)⟩,
   ⟨(some 23), [.t 17, .t 22, .c (.bool false)], .p (.pick), none⟩,
   ⟨(some 24), [.t 23], .p (.mov), none⟩,
   ⟨(some 25), [.t 2], .p (.fAddr 3), some (24, true)⟩,
   ⟨(some 26), [.t 25], .r (.load (some 7)), some (24, true)⟩,
   ⟨(some 27), [.t 3], .p (.fAddr 3), some (24, true)⟩,
   ⟨(some 28), [.t 27], .r (.load (some 7)), some (24, true)⟩,
   ⟨(some 29), [.t 26, .t 28], .w (.callF f_glyphicref_SamePaint), some (24, true)⟩,
   ⟨(some 30), [.t 24, .t 29, .c (.bool false)], .p (.pick), none⟩,
   ⟨(some 31), [.t 30], .p (.mov), none⟩,
   ⟨(some 32), [.t 2], .p (.fAddr 10), some (31, true)⟩,
   ⟨(some 33), [.t 32], .r (.load none), some (31, true)⟩,
   ⟨(some 34), [.t 3], .p (.fAddr 10), some (31, true)⟩,
   ⟨(some 35), [.t 34], .r (.load none), some (31, true)⟩,
   ⟨(some 36), [.t 33, .t 35], .w (.callF f_glyphicref_SamePaths), some (31, true)⟩,
   ⟨(some 37), [.t 31, .t 36, .c (.bool false)], .p (.pick), none⟩,
   ⟨(some 4), [.t 37], .p (.mov), none⟩])
 (.ret))
def r_glyphicref_SameCmd : List ARes := [.tmp 4]
def F_glyphicref_SameCmd : AFunc := .code c_glyphicref_SameCmd r_glyphicref_SameCmd
/- icon.in[int64] -/
def c_icon_in__int64 : AC :=
 .seq (.ops [⟨(some 6), [.c (.bool false)], .p (.mov), none⟩])
 (.seq (.ops [⟨(some 7), [.t 0], .p (.mov), none⟩,
   ⟨(some 8), [.t 1], .p (.mov), none⟩,
   ⟨(some 9), [.t 7, .t 8], .p (.bin .geq), none⟩,
   ⟨(some 10), [.t 9], .p (.mov), none⟩,
   ⟨(some 11), [.t 0], .p (.mov), some (10, true)⟩,
   ⟨(some 12), [.t 2], .p (.mov), some (10, true)⟩,
   ⟨(some 13), [.t 11, .t 12], .p (.bin .leq), some (10, true)⟩,
   ⟨(some 14), [.t 10, .t 13, .c (.bool false)], .p (.pick), none⟩,
   ⟨(some 6), [.t 14], .p (.mov), none⟩])
 (.ret))
def r_icon_in__int64 : List ARes := [.tmp 6]
def F_icon_in__int64 : AFunc := .code c_icon_in__int64 r_icon_in__int64
/- icon.far -/
def c_icon_far : AC :=
 .seq (.ops [⟨(some 2), [.t 0], .n (.box), none⟩,
   ⟨(some 4), [.c (.bool false)], .p (.mov), none⟩])
 (.seq (.ops [⟨(some 5), [.t 2], .p (.fAddr 0), none⟩,
   ⟨(some 6), [.t 5], .r (.load none), none⟩,
   ⟨(some 7), [.t 1], .p (.mov), none⟩,
   ⟨(some 8), [.t 7], .p (.un .neg), none⟩,
   ⟨(some 9), [.t 1], .p (.mov), none⟩,
   ⟨(some 10), [.t 6, .t 8, .t 9], .w (.callF f_icon_in__int64), none⟩,
   ⟨(some 11), [.t 10], .p (.un .not), none⟩,
   ⟨(some 12), [.t 11], .p (.mov), none⟩,
   ⟨(some 13), [.t 2], .p (.fAddr 1), some (12, false)⟩,
   ⟨(some 14), [.t 13], .r (.load none), some (12, false)⟩,
   ⟨(some 15), [.t 1], .p (.mov), some (12, false)⟩,
   ⟨(some 16), [.t 15], .p (.un .neg), some (12, false)⟩,
   ⟨(some 17), [.t 1], .p (.mov), some (12, false)⟩,
   ⟨(some 18), [.t 14, .t 16, .t 17], .w (.callF f_icon_in__int64), some (12, false)⟩,
   ⟨(some 19), [.t 18], .p (.un .not), some (12, false)⟩,
   ⟨(some 20), [.t 12, .c (.bool true), .t 19], .p (.pick), none⟩,
   ⟨(some 4), [.t 20], .p (.mov), none⟩])
 (.ret))
def r_icon_far : List ARes := [.tmp 4]
def F_icon_far : AFunc := .code c_icon_far r_icon_far
/- icon.seg -/
def c_icon_seg_l0 : AC :=
 .seq (.ops [⟨(some 34), [.t 33, .t 32], .p (.bin .lss), none⟩])
   (.seq (.cond (.t 34)
    (.skip)
    (.exit 2))
   (.seq (.block 3
    (.seq (.ops [⟨(some 35), [.t 31, .t 33], .p (.iAddrS 2), none⟩,
      ⟨(some 36), [.t 35], .r (.load (some 2)), none⟩,
      ⟨(some 8), [], .n (.alloc [(.int .i64 0), (.int .i64 0)]), none⟩,
      ⟨none, [.t 8, .t 36], .w (.store 2), none⟩])
    (.seq (.ops [⟨(some 37), [.t 8], .r (.load (some 2)), none⟩,
      ⟨(some 38), [], .p (.build [(.int .i64 0), (.int .i64 0)] []), none⟩,
      ⟨(some 39), [.t 37, .t 38], .r (.eq true (.agg [(0, none, .int), (1, none, .int)])), none⟩])
    (.cond (.t 39)
     (.seq (.ops [⟨(some 40), [.c (.ptr (some (g_ErrCanon, 0)))], .r (.load none), none⟩,
       ⟨(some 4), [.t 40], .p (.mov), none⟩])
     (.ret))
     (.skip)))))
   (.ops [⟨(some 41), [.t 33, .c (.int .i64 1)], .p (.bin .add), none⟩,
     ⟨(some 33), [.t 41], .p (.mov), none⟩])))
def c_icon_seg_l1 : AC :=
 .seq (.ops [⟨(some 20), [.t 19, .t 18], .p (.bin .lss), none⟩])
   (.seq (.cond (.t 20)
    (.skip)
    (.exit 0))
   (.seq (.block 1
    (.seq (.ops [⟨(some 21), [.t 17, .t 19], .p (.iAddrS 2), none⟩,
      ⟨(some 22), [.t 21], .r (.load (some 2)), none⟩,
      ⟨(some 6), [], .n (.alloc [(.int .i64 0), (.int .i64 0)]), none⟩,
      ⟨none, [.t 6, .t 22], .w (.store 2), none⟩])
    (.seq (.ops [⟨(some 23), [.t 6], .r (.load (some 2)), none⟩,
      ⟨(some 24), [.t 1], .p (.mov), none⟩,
      ⟨(some 25), [.t 23, .t 24], .w (.callF f_icon_far), none⟩])
    (.cond (.t 25)
     (.seq (.ops [⟨(some 26), [.c (.ptr (some (g_ErrRange, 0)))], .r (.load none), none⟩,
       ⟨(some 4), [.t 26], .p (.mov), none⟩])
     (.ret))
     (.skip)))))
   (.ops [⟨(some 27), [.t 19, .c (.int .i64 1)], .p (.bin .add), none⟩,
     ⟨(some 19), [.t 27], .p (.mov), none⟩])))
def c_icon_seg : AC :=
 .seq (.ops [⟨(some 2), [.t 0], .n (.box), none⟩,
   ⟨(some 4), [.c .nilIface], .p (.mov), none⟩])
 (.seq (.seq (.ops [⟨(some 9), [.t 2], .p (.fAddr 0), none⟩,
   ⟨(some 10), [.t 9], .r (.load none), none⟩,
   ⟨(some 11), [.t 10, .c (.int .i64 1), .c (.int .i64 3)], .w (.callF f_icon_in__int), none⟩,
   ⟨(some 12), [.t 11], .p (.un .not), none⟩])
 (.cond (.t 12)
  (.seq (.ops [⟨(some 13), [.c (.ptr (some (g_ErrRange, 0)))], .r (.load none), none⟩,
    ⟨(some 4), [.t 13], .p (.mov), none⟩])
  (.ret))
  (.skip)))
 (.seq (.seq (.ops [⟨(some 14), [.t 2], .p (.fAddr 1), none⟩,
   ⟨(some 15), [.t 2], .p (.fAddr 0), none⟩,
   ⟨(some 16), [.t 15], .r (.load none), none⟩,
   ⟨(some 17), [.t 14, .t 16], .p (.slArr 3 2 false true), none⟩,
   ⟨(some 18), [.t 17], .p (.lenSl), none⟩,
   ⟨(some 19), [.c (.int .i64 0)], .p (.mov), none⟩])
 (.block 0
  (.loop c_icon_seg_l1)))
 (.seq (.seq (.ops [⟨(some 28), [.t 2], .p (.fAddr 1), none⟩,
   ⟨(some 29), [.t 2], .p (.fAddr 0), none⟩,
   ⟨(some 30), [.t 29], .r (.load none), none⟩,
   ⟨(some 31), [.t 28, .t 30], .p (.slArr 3 2 true false), none⟩,
   ⟨(some 32), [.t 31], .p (.lenSl), none⟩,
   ⟨(some 33), [.c (.int .i64 0)], .p (.mov), none⟩])
 (.block 2
  (.loop c_icon_seg_l0)))
 (.seq (.ops [⟨(some 4), [.c .nilIface], .p (.mov), none⟩])
 (.ret)))))
def r_icon_seg : List ARes := [.tmp 4]
def F_icon_seg : AFunc := .code c_icon_seg r_icon_seg
/- slices.Index[[]api.Color,api.Color] -/
def c_slices_Index__api_Color_api_Color_l0 : AC :=
 .seq (.ops [⟨(some 9), [.t 8, .t 7], .p (.bin .lss), none⟩])
   (.seq (.cond (.t 9)
    (.skip)
    (.exit 0))
   (.seq (.block 1
    (.seq (.ops [⟨(some 10), [.t 8], .p (.mov), none⟩,
      ⟨(some 5), [.t 10], .p (.mov), none⟩])
    (.seq (.draw [(⟨(some 11), [.t 3], .r (.load (some 4)), none⟩, 0),
      (⟨(some 12), [.t 0], .p (.mov), none⟩, 0),
      (⟨(some 13), [.t 5], .p (.mov), none⟩, 0),
      (⟨(some 14), [.t 12, .t 13], .p (.iAddrS 4), none⟩, 0),
      (⟨(some 15), [.t 14], .r (.load (some 4)), none⟩, 0),
      (⟨(some 16), [.t 11, .t 15], .r (.eq false (.agg [(0, none, .int), (1, none, .int), (2, none, .int), (3, none, .int)])), none⟩, 0)])
    (.cond (.t 16)
     (.seq (.ops [⟨(some 17), [.t 5], .p (.mov), none⟩,
       ⟨(some 4), [.t 17], .p (.mov), none⟩])
     (.ret))
     (.skip)))))
   (.ops [⟨(some 18), [.t 8, .c (.int .i64 1)], .p (.bin .add), none⟩,
     ⟨(some 8), [.t 18], .p (.mov), none⟩])))
def c_slices_Index__api_Color_api_Color : AC :=
 .seq (.ops [⟨(some 3), [.t 1], .n (.box), none⟩,
   ⟨(some 4), [.c (.int .i64 0)], .p (.mov), none⟩])
 (.seq (.seq (.ops [⟨(some 6), [.t 0], .p (.mov), none⟩,
   ⟨(some 7), [.t 6], .p (.lenSl), none⟩,
   ⟨(some 8), [.c (.int .i64 0)], .p (.mov), none⟩])
 (.block 0
  (.loop c_slices_Index__api_Color_api_Color_l0)))
 (.seq (.ops [⟨(some 4), [.c (.int .i64 (-1))], .p (.mov), none⟩])
 (.ret)))
def r_slices_Index__api_Color_api_Color : List ARes := [.tmp 4]
def F_slices_Index__api_Color_api_Color : AFunc := .code c_slices_Index__api_Color_api_Color r_slices_Index__api_Color_api_Color
/- slices.Clone[[]byte,byte] -/
def c_slices_Clone__byte_byte : AC :=
 .seq (.ops [⟨(some 2), [.c (.slice none 0 (.exact 0))], .p (.mov), none⟩])
 (.seq (.seq (.ops [⟨(some 3), [.t 0], .p (.mov), none⟩,
   ⟨(some 4), [.t 3, .c (.slice none 0 (.exact 0))], .r (.eq false .nilS), none⟩])
 (.cond (.t 4)
  (.seq (.ops [⟨(some 2), [.c (.slice none 0 (.exact 0))], .p (.mov), none⟩])
  (.ret))
  (.skip)))
 (.seq (.ops [⟨(some 5), [], .n (.bslice 0 [] []), none⟩,
   ⟨(some 6), [.t 0], .p (.mov), none⟩,
   ⟨(some 7), [.t 5, .t 6], .w (.append 1 1), none⟩,
   ⟨(some 2), [.t 7], .p (.mov), none⟩])
 (.ret)))
def r_slices_Clone__byte_byte : List ARes := [.tmp 2]
def F_slices_Clone__byte_byte : AFunc := .code c_slices_Clone__byte_byte r_slices_Clone__byte_byte
/- (*encode.writer).point -/
def c_encode_writer_point : AC :=
 .seq (.ops [⟨(some 3), [.t 1], .n (.box), none⟩])
 (.draw [(⟨(some 9), [.t 3], .p (.fAddr 0), none⟩, 0),
   (⟨(some 10), [.t 9], .r (.load none), none⟩, 0),
   (⟨(some 11), [.t 10], .w (.callF f_wire_Zig), none⟩, 0),
   (⟨(some 12), [.c (.slice none 0 (.exact 0)), .t 11], .w (.callF f_wire_Put), none⟩, 0),
   (⟨(some 13), [.t 3], .p (.fAddr 1), none⟩, 0),
   (⟨(some 14), [.t 13], .r (.load none), none⟩, 2),
   (⟨(some 15), [.t 14], .w (.callF f_wire_Zig), none⟩, 0),
   (⟨(some 16), [.t 12, .t 15], .w (.callF f_wire_Put), none⟩, 0),
   (⟨(some 5), [.t 0], .p (.mov), none⟩, 0),
   (⟨(some 6), [.t 5], .p (.nilChk), none⟩, 0),
   (⟨(some 7), [.t 6], .p (.fAddr 0), none⟩, 0),
   (⟨(some 8), [.t 7], .r (.load none), none⟩, 4),
   (⟨(some 17), [.t 8, .t 16], .w (.append 1 1), none⟩, 0),
   (⟨(some 4), [.t 0], .p (.mov), none⟩, 0),
   (⟨(some 18), [.t 4], .p (.nilChk), none⟩, 0),
   (⟨(some 19), [.t 18], .p (.fAddr 0), none⟩, 0),
   (⟨none, [.t 19, .t 17], .w (.store 1), none⟩, 0)])
def r_encode_writer_point : List ARes := []
def F_encode_writer_point : AFunc := .code c_encode_writer_point r_encode_writer_point
/- plane.Sub -/
def c_plane_Sub : AC :=
 .seq (.ops [⟨(some 2), [.t 0], .n (.box), none⟩,
   ⟨(some 3), [.t 1], .n (.box), none⟩,
   ⟨(some 4), [], .n (.alloc [(.int .i64 0), (.int .i64 0)]), none⟩])
 (.seq (.ops [⟨(some 5), [.t 2], .p (.fAddr 0), none⟩,
   ⟨(some 6), [.t 5], .r (.load none), none⟩,
   ⟨(some 7), [.t 3], .p (.fAddr 0), none⟩,
   ⟨(some 8), [.t 7], .r (.load none), none⟩,
   ⟨(some 9), [.t 6, .t 8], .p (.bin .sub), none⟩,
   ⟨(some 10), [.t 2], .p (.fAddr 1), none⟩,
   ⟨(some 11), [.t 10], .r (.load none), none⟩,
   ⟨(some 12), [.t 3], .p (.fAddr 1), none⟩,
   ⟨(some 13), [.t 12], .r (.load none), none⟩,
   ⟨(some 14), [.t 11, .t 13], .p (.bin .sub), none⟩,
   ⟨(some 15), [.t 9, .t 14], .p (.build [(.int .i64 0), (.int .i64 0)] [(0, 1), (1, 1)]), none⟩,
   ⟨none, [.t 4, .t 15], .w (.store 2), none⟩])
 (.ret))
def r_plane_Sub : List ARes := [.cell 4 (some 2)]
def F_plane_Sub : AFunc := .code c_plane_Sub r_plane_Sub
/- glyphicref.SamePaint -/
def c_glyphicref_SamePaint : AC :=
 .seq (.ops [⟨(some 2), [.t 0], .n (.box), none⟩,
   ⟨(some 3), [.t 1], .n (.box), none⟩,
   ⟨(some 4), [.c (.bool false)], .p (.mov), none⟩])
 (.seq (.ops [⟨(some 5), [.t 2], .p (.fAddr 0), none⟩,
   ⟨(some 6), [.t 5], .r (.load none), none⟩,
   ⟨(some 7), [.t 3], .p (.fAddr 0), none⟩,
   ⟨(some 8), [.t 7], .r (.load none), none⟩,
   ⟨(some 9), [.t 6, .t 8], .p (.bin .eql), none⟩,
   ⟨(some 10), [.t 9], .p (.mov), none⟩,
   ⟨(some 11), [.t 2], .p (.fAddr 1), some (10, true)⟩,
   ⟨(some 12), [.t 11], .r (.load none), some (10, true)⟩,
   ⟨(some 13), [.t 3], .p (.fAddr 1), some (10, true)⟩,
   ⟨(some 14), [.t 13], .r (.load none), some (10, true)⟩,
   ⟨(some 15), [.t 12, .t 14], .p (.bin .eql), some (10, true)⟩,
   ⟨(some 16), [.t 10, .t 15, .c (.bool false)], .p (.pick), none⟩,
   ⟨(some 17), [.t 16], .p (.mov), none⟩,
   ⟨(some 18), [.t 2], .p (.fAddr 2), some (17, true)⟩,
   ⟨(some 19), [.t 18], .r (.load none), some (17, true)⟩,
   ⟨(some 20), [.t 3], .p (.fAddr 2), some (17, true)⟩,
   ⟨(some 21), [.t 20], .r (.load none), some (17, true)⟩,
   ⟨(some 22), [.t 19, .t 21], .p (.bin .eql), some (17, true)⟩,
   ⟨(some 23), [.t 17, .t 22, .c (.bool false)], .p (.pick), none⟩,
   ⟨(some 24), [.t 23], .p (.mov), none⟩,
   ⟨(some 25), [.t 2], .p (.fAddr 3), some (24, true)⟩,
   ⟨(some 26), [.t 25], .r (.load (some 2)), some (24, true)⟩,
   ⟨(some 27), [.t 3], .p (.fAddr 3), some (24, true)⟩,
   ⟨(some 28), [.t 27], .r (.load (some 2)), some (24, true)⟩,
   ⟨(some 29), [.t 26, .t 28], .w (.callF f_glyphicref_SamePoint), some (24, true)⟩,
   ⟨(some 30), [.t 24, .t 29, .c (.bool false)], .p (.pick), none⟩,
   ⟨(some 31), [.t 30], .p (.mov), none⟩,
   ⟨(some 32), [.t 2], .p (.fAddr 5), some (31, true)⟩,
   ⟨(some 33), [.t 32], .r (.load (some 2)), some (31, true)⟩,
   ⟨(some 34), [.t 3], .p (.fAddr 5), some (31, true)⟩,
   ⟨(some 35), [.t 34], .r (.load (some 2)), some (31, true)⟩,
   ⟨(some 36), [.t 33, .t 35], .w (.callF f_glyphicref_SamePoint), some (31, true)⟩,
   ⟨(some 37), [.t 31, .t 36, .c (.bool false)], .p (.pick), none⟩,
   ⟨(some 4), [.t 37], .p (.mov), none⟩])
 (.ret))
def r_glyphicref_SamePaint : List ARes := [.tmp 4]
def F_glyphicref_SamePaint : AFunc := .code c_glyphicref_SamePaint r_glyphicref_SamePaint
/- glyphicref.SamePaths -/
def c_glyphicref_SamePaths_l0 : AC :=
 .seq (.seq (.ops [⟨(some 12), [.t 5], .p (.mov), none⟩,
     ⟨(some 13), [.t 0], .p (.mov), none⟩,
     ⟨(some 14), [.t 13], .p (.lenSl), none⟩,
     ⟨(some 15), [.t 12, .t 14], .p (.bin .lss), none⟩])
   (.cond (.t 15)
    (.skip)
    (.exit 0)))
   (.seq (.block 1
    (.seq (.draw [(⟨(some 18), [.t 0], .p (.mov), none⟩, 0),
      (⟨(some 19), [.t 5], .p (.mov), none⟩, 0),
      (⟨(some 20), [.t 18, .t 19], .p (.iAddrS 4), none⟩, 0),
      (⟨(some 21), [.t 20], .r (.load (some 4)), none⟩, 0),
      (⟨(some 22), [.t 1], .p (.mov), none⟩, 0),
      (⟨(some 23), [.t 5], .p (.mov), none⟩, 0),
      (⟨(some 24), [.t 22, .t 23], .p (.iAddrS 4), none⟩, 0),
      (⟨(some 25), [.t 24], .r (.load (some 4)), none⟩, 0),
      (⟨(some 26), [.t 21, .t 25], .w (.callF f_glyphicref_SamePath), none⟩, 0),
      (⟨(some 6), [.t 26], .p (.mov), none⟩, 0)])
    (.seq (.ops [⟨(some 27), [.t 6], .p (.mov), none⟩,
      ⟨(some 28), [.t 27], .p (.un .not), none⟩])
    (.cond (.t 28)
     (.seq (.ops [⟨(some 4), [.c (.bool false)], .p (.mov), none⟩])
     (.ret))
     (.skip)))))
   (.ops [⟨(some 16), [.t 5], .p (.mov), none⟩,
     ⟨(some 17), [.t 16, .c (.int .i64 1)], .p (.bin .add), none⟩,
     ⟨(some 5), [.t 17], .p (.mov), none⟩]))
def c_glyphicref_SamePaths : AC :=
 .seq (.ops [⟨(some 4), [.c (.bool false)], .p (.mov), none⟩])
 (.seq (.seq (.ops [⟨(some 7), [.t 0], .p (.mov), none⟩,
   ⟨(some 8), [.t 7], .p (.lenSl), none⟩,
   ⟨(some 9), [.t 1], .p (.mov), none⟩,
   ⟨(some 10), [.t 9], .p (.lenSl), none⟩,
   ⟨(some 11), [.t 8, .t 10], .p (.bin .neq), none⟩])
 (.cond (.t 11)
  (.seq (.ops [⟨(some 4), [.c (.bool false)], .p (.mov), none⟩])
  (.ret))
  (.skip)))
 (.seq (.seq (.ops [⟨(some 5), [.c (.int .i64 0)], .p (.mov), none⟩])
 (.block 0
  (.loop c_glyphicref_SamePaths_l0)))
 (.seq (.ops [⟨(some 4), [.c (.bool true)], .p (.mov), none⟩])
 (.ret))))
def r_glyphicref_SamePaths : List ARes := [.tmp 4]
def F_glyphicref_SamePaths : AFunc := .code c_glyphicref_SamePaths r_glyphicref_SamePaths
/- wire.Zig -/
def c_wire_Zig : AC :=
 .seq (.ops [⟨(some 2), [.c (.int .u64 0)], .p (.mov), none⟩])
 (.seq (.ops [⟨(some 3), [.t 0], .p (.mov), none⟩,
   ⟨(some 4), [.t 3], .p (.conv .u64), none⟩,
   ⟨(some 5), [.t 4, .c (.int .u64 1)], .p (.bin .shl), none⟩,
   ⟨(some 6), [.t 0], .p (.mov), none⟩,
   ⟨(some 7), [.t 6, .c (.int .u64 63)], .p (.bin .shr), none⟩,
   ⟨(some 8), [.t 7], .p (.conv .u64), none⟩,
   ⟨(some 9), [.t 5, .t 8], .p (.bin .xor), none⟩,
   ⟨(some 2), [.t 9], .p (.mov), none⟩])
 (.ret))
def r_wire_Zig : List ARes := [.tmp 2]
def F_wire_Zig : AFunc := .code c_wire_Zig r_wire_Zig
/- glyphicref.SamePath -/
def c_glyphicref_SamePath : AC :=
 .seq (.ops [⟨(some 2), [.t 0], .n (.box), none⟩,
   ⟨(some 3), [.t 1], .n (.box), none⟩,
   ⟨(some 4), [.c (.bool false)], .p (.mov), none⟩])
 (.seq (.ops [⟨(some 5), [.t 2], .p (.fAddr 0), none⟩,
   ⟨(some 6), [.t 5], .r (.load (some 2)), none⟩,
   ⟨(some 7), [.t 3], .p (.fAddr 0), none⟩,
   ⟨(some 8), [.t 7], .r (.load (some 2)), none⟩,
   ⟨(some 9), [.t 6, .t 8], .w (.callF f_glyphicref_SamePoint), none⟩,
   ⟨(some 10), [.t 9], .p (.mov), none⟩,
   ⟨(some 11), [.t 2], .p (.fAddr 3), some (10, true)⟩,
   ⟨(some 12), [.t 11], .r (.load none), some (10, true)⟩,
   ⟨(some 13), [.t 3], .p (.fAddr 3), some (10, true)⟩,
   ⟨(some 14), [.t 13], .r (.load none), some (10, true)⟩,
   ⟨(some 15), [.t 12, .t 14], .r (.eq false .bool), some (10, true)⟩,
   ⟨(some 16), [.t 10, .t 15, .c (.bool false)], .p (.pick), none⟩,
   ⟨(some 17), [.t 16], .p (.mov), none⟩,
   ⟨(some 18), [.t 2], .p (.fAddr 2), some (17, true)⟩,
   ⟨(some 19), [.t 18], .r (.load none), some (17, true)⟩,
   ⟨(some 20), [.t 3], .p (.fAddr 2), some (17, true)⟩,
   ⟨(some 21), [.t 20], .r (.load none), some (17, true)⟩,
   ⟨(some 22), [.t 19, .t 21], .w (.callF f_glyphicref_SameSegs), some (17, true)⟩,
   ⟨(some 23), [.t 17, .t 22, .c (.bool false)], .p (.pick), none⟩,
   ⟨(some 4), [.t 23], .p (.mov), none⟩])
 (.ret))
def r_glyphicref_SamePath : List ARes := [.tmp 4]
def F_glyphicref_SamePath : AFunc := .code c_glyphicref_SamePath r_glyphicref_SamePath
/- glyphicref.SameSegs -/
def c_glyphicref_SameSegs_l0 : AC :=
 .seq (.seq (.ops [⟨(some 12), [.t 5], .p (.mov), none⟩,
     ⟨(some 13), [.t 0], .p (.mov), none⟩,
     ⟨(some 14), [.t 13], .p (.lenSl), none⟩,
     ⟨(some 15), [.t 12, .t 14], .p (.bin .lss), none⟩])
   (.cond (.t 15)
    (.skip)
    (.exit 0)))
   (.seq (.block 1
    (.seq (.draw [(⟨(some 18), [.t 0], .p (.mov), none⟩, 0),
      (⟨(some 19), [.t 5], .p (.mov), none⟩, 0),
      (⟨(some 20), [.t 18, .t 19], .p (.iAddrS 7), none⟩, 0),
      (⟨(some 21), [.t 20], .r (.load (some 7)), none⟩, 0),
      (⟨(some 22), [.t 1], .p (.mov), none⟩, 0),
      (⟨(some 23), [.t 5], .p (.mov), none⟩, 0),
      (⟨(some 24), [.t 22, .t 23], .p (.iAddrS 7), none⟩, 0),
      (⟨(some 25), [.t 24], .r (.load (some 7)), none⟩, 0),
      (⟨(some 26), [.t 21, .t 25], .w (.callF f_glyphicref_SameSeg), none⟩, 0),
      (⟨(some 6), [.t 26], .p (.mov), none⟩, 0)])
    (.seq (.ops [⟨(some 27), [.t 6], .p (.mov), none⟩,
      ⟨(some 28), [.t 27], .p (.un .not), none⟩])
    (.cond (.t 28)
     (.seq (.ops [⟨(some 4), [.c (.bool false)], .p (.mov), none⟩])
     (.ret))
     (.skip)))))
   (.ops [⟨(some 16), [.t 5], .p (.mov), none⟩,
     ⟨(some 17), [.t 16, .c (.int .i64 1)], .p (.bin .add), none⟩,
     ⟨(some 5), [.t 17], .p (.mov), none⟩]))
def c_glyphicref_SameSegs : AC :=
 .seq (.ops [⟨(some 4), [.c (.bool false)], .p (.mov), none⟩])
 (.seq (.seq (.ops [⟨(some 7), [.t 0], .p (.mov), none⟩,
   ⟨(some 8), [.t 7], .p (.lenSl), none⟩,
   ⟨(some 9), [.t 1], .p (.mov), none⟩,
   ⟨(some 10), [.t 9], .p (.lenSl), none⟩,
   ⟨(some 11), [.t 8, .t 10], .p (.bin .neq), none⟩])
 (.cond (.t 11)
  (.seq (.ops [⟨(some 4), [.c (.bool false)], .p (.mov), none⟩])
  (.ret))
  (.skip)))
 (.seq (.seq (.ops [⟨(some 5), [.c (.int .i64 0)], .p (.mov), none⟩])
 (.block 0
  (.loop c_glyphicref_SameSegs_l0)))
 (.seq (.ops [⟨(some 4), [.c (.bool true)], .p (.mov), none⟩])
 (.ret))))
def r_glyphicref_SameSegs : List ARes := [.tmp 4]
def F_glyphicref_SameSegs : AFunc := .code c_glyphicref_SameSegs r_glyphicref_SameSegs
/- glyphicref.SameSeg -/
def c_glyphicref_SameSeg : AC :=
 .seq (.ops [⟨(some 2), [.t 0], .n (.box), none⟩,
   ⟨(some 3), [.t 1], .n (.box), none⟩,
   ⟨(some 4), [.c (.bool false)], .p (.mov), none⟩])
 (.seq (.ops [⟨(some 5), [.t 2], .p (.fAddr 0), none⟩,
   ⟨(some 6), [.t 5], .r (.load none), none⟩,
   ⟨(some 7), [.t 3], .p (.fAddr 0), none⟩,
   ⟨(some 8), [.t 7], .r (.load none), none⟩,
   ⟨(some 9), [.t 6, .t 8], .p (.bin .eql), none⟩,
   ⟨(some 10), [.t 9], .p (.mov), none⟩,
   ⟨(some 11), [.t 2], .p (.fAddr 1), some (10, true)⟩,
   ⟨(some 12), [.t 11, .c (.int .i64 0)], .p (.iAddrA 3 2), some (10, true)⟩,
   ⟨(some 13), [.t 12], .r (.load (some 2)), some (10, true)⟩,
   ⟨(some 14), [.t 3], .p (.fAddr 1), some (10, true)⟩,
   ⟨(some 15), [.t 14, .c (.int .i64 0)], .p (.iAddrA 3 2), some (10, true)⟩,
   ⟨(some 16), [.t 15], .r (.load (some 2)), some (10, true)⟩,
   ⟨(some 17), [.t 13, .t 16], .w (.callF f_glyphicref_SamePoint), some (10, true)⟩,
   ⟨(some 18), [.t 10, .t 17, .c (.bool false)], .p (.pick), none⟩,
   ⟨(some 19), [.t 18], .p (.mov), none⟩,
   ⟨(some 20), [.t 2], .p (.fAddr 1), some (19, true)⟩,
   ⟨(some 21), [.t 20, .c (.int .i64 1)], .p (.iAddrA 3 2), some (19, true)⟩,
   ⟨(some 22), [.t 21], .r (.load (some 2)), some (19, true)⟩,
   ⟨(some 23), [.t 3], .p (.fAddr 1), some (19, true)⟩,
   ⟨(some 24), [.t 23, .c (.int .i64 1)], .p (.iAddrA 3 2), some (19, true)⟩,
   ⟨(some 25), [.t 24], .r (.load (some 2)), some (19, true)⟩,
   ⟨(some 26), [.t 22, .t 25], .w (.callF f_glyphicref_SamePoint), some (19, true)⟩,
   ⟨(some 27), [.t 19, .t 26, .c (.bool false)], .p (.pick), none⟩,
   ⟨(some 28), [.t 27], .p (.mov), none⟩,
   ⟨(some 29), [.t 2], .p (.fAddr 1), some (28, true)⟩,
   ⟨(some 30), [.t 29, .c (.int .i64 2)], .p (.iAddrA 3 2), some (28, true)⟩,
   ⟨(some 31), [.t 30], .r (.load (some 2)), some (28, true)⟩,
   ⟨(some 32), [.t 3], .p (.fAddr 1), some (28, true)⟩,
   ⟨(some 33), [.t 32, .c (.int .i64 2)], .p (.iAddrA 3 2), some (28, true)⟩,
   ⟨(some 34), [.t 33], .r (.load (some 2)), some (28, true)⟩,
   ⟨(some 35), [.t 31, .t 34], .w (.callF f_glyphicref_SamePoint), some (28, true)⟩,
   ⟨(some 36), [.t 28, .t 35, .c (.bool false)], .p (.pick), none⟩,
   ⟨(some 4), [.t 36], .p (.mov), none⟩])
 (.ret))
def r_glyphicref_SameSeg : List ARes := [.tmp 4]
def F_glyphicref_SameSeg : AFunc := .code c_glyphicref_SameSeg r_glyphicref_SameSeg
def cfg : Cfg := ⟨[(0, 0), (1, 2), (2, 4)], [t_p_api_At, t_p_errors_errorString]⟩
def envL : List (Nat × AFunc) := [(f_glyphiclaw6_EncodeShort, F_glyphiclaw6_EncodeShort), (f_glyphicmake_Icon, F_glyphicmake_Icon), (f_icon_Greatest, F_icon_Greatest), (f_icon_Check, F_icon_Check), (f_icon_Points, F_icon_Points), (f_glyphiclaw6_first, F_glyphiclaw6_first), (f_encode_Bytes, F_encode_Bytes), (f_encode_Runs, F_encode_Runs), (f_glyphicworld_Number, F_glyphicworld_Number), (f_glyphicmake_Seq_Next, F_glyphicmake_Seq_Next), (f_glyphicmake_Point, F_glyphicmake_Point), (f_glyphicref_SamePoint, F_glyphicref_SamePoint), (f_glyphicmake_Path, F_glyphicmake_Path), (f_icon_sized, F_icon_sized), (f_icon_cmd, F_icon_cmd), (f_icon_used, F_icon_used), (f_encode_writer_num, F_encode_writer_num), (f_encode_each__api_Color, F_encode_each__api_Color), (f_encode_writer_color, F_encode_writer_color), (f_encode_each__api_Cmd, F_encode_each__api_Cmd), (f_encode_writer_cmd, F_encode_writer_cmd), (f_glyphicmake_inside, F_glyphicmake_inside), (f_icon_in__int, F_icon_in__int), (f_icon_head, F_icon_head), (f_icon_paint, F_icon_paint), (f_icon_path, F_icon_path), (f_slices_Contains__api_Color_api_Color, F_slices_Contains__api_Color_api_Color), (f_wire_Put, F_wire_Put), (f_encode_writer_paint, F_encode_writer_paint), (f_encode_each__api_Path, F_encode_each__api_Path), (f_encode_writer_path, F_encode_writer_path), (f_glyphicref_SameCmd, F_glyphicref_SameCmd), (f_icon_in__int64, F_icon_in__int64), (f_icon_far, F_icon_far), (f_icon_seg, F_icon_seg), (f_slices_Index__api_Color_api_Color, F_slices_Index__api_Color_api_Color), (f_slices_Clone__byte_byte, F_slices_Clone__byte_byte), (f_encode_writer_point, F_encode_writer_point), (f_plane_Sub, F_plane_Sub), (f_glyphicref_SamePaint, F_glyphicref_SamePaint), (f_glyphicref_SamePaths, F_glyphicref_SamePaths), (f_wire_Zig, F_wire_Zig), (f_glyphicref_SamePath, F_glyphicref_SamePath), (f_glyphicref_SameSegs, F_glyphicref_SameSegs), (f_glyphicref_SameSeg, F_glyphicref_SameSeg)]
theorem E_glyphiclaw6_EncodeShort : lookE envL f_glyphiclaw6_EncodeShort = some F_glyphiclaw6_EncodeShort := rfl
theorem E_glyphicmake_Icon : lookE envL f_glyphicmake_Icon = some F_glyphicmake_Icon := rfl
theorem E_icon_Greatest : lookE envL f_icon_Greatest = some F_icon_Greatest := rfl
theorem E_icon_Check : lookE envL f_icon_Check = some F_icon_Check := rfl
theorem E_icon_Points : lookE envL f_icon_Points = some F_icon_Points := rfl
theorem E_glyphiclaw6_first : lookE envL f_glyphiclaw6_first = some F_glyphiclaw6_first := rfl
theorem E_encode_Bytes : lookE envL f_encode_Bytes = some F_encode_Bytes := rfl
theorem E_encode_Runs : lookE envL f_encode_Runs = some F_encode_Runs := rfl
theorem E_glyphicworld_Number : lookE envL f_glyphicworld_Number = some F_glyphicworld_Number := rfl
theorem E_glyphicmake_Seq_Next : lookE envL f_glyphicmake_Seq_Next = some F_glyphicmake_Seq_Next := rfl
theorem E_glyphicmake_Point : lookE envL f_glyphicmake_Point = some F_glyphicmake_Point := rfl
theorem E_glyphicref_SamePoint : lookE envL f_glyphicref_SamePoint = some F_glyphicref_SamePoint := rfl
theorem E_glyphicmake_Path : lookE envL f_glyphicmake_Path = some F_glyphicmake_Path := rfl
theorem E_icon_sized : lookE envL f_icon_sized = some F_icon_sized := rfl
theorem E_icon_cmd : lookE envL f_icon_cmd = some F_icon_cmd := rfl
theorem E_icon_used : lookE envL f_icon_used = some F_icon_used := rfl
theorem E_encode_writer_num : lookE envL f_encode_writer_num = some F_encode_writer_num := rfl
theorem E_encode_each__api_Color : lookE envL f_encode_each__api_Color = some F_encode_each__api_Color := rfl
theorem E_encode_writer_color : lookE envL f_encode_writer_color = some F_encode_writer_color := rfl
theorem E_encode_each__api_Cmd : lookE envL f_encode_each__api_Cmd = some F_encode_each__api_Cmd := rfl
theorem E_encode_writer_cmd : lookE envL f_encode_writer_cmd = some F_encode_writer_cmd := rfl
theorem E_glyphicmake_inside : lookE envL f_glyphicmake_inside = some F_glyphicmake_inside := rfl
theorem E_icon_in__int : lookE envL f_icon_in__int = some F_icon_in__int := rfl
theorem E_icon_head : lookE envL f_icon_head = some F_icon_head := rfl
theorem E_icon_paint : lookE envL f_icon_paint = some F_icon_paint := rfl
theorem E_icon_path : lookE envL f_icon_path = some F_icon_path := rfl
theorem E_slices_Contains__api_Color_api_Color : lookE envL f_slices_Contains__api_Color_api_Color = some F_slices_Contains__api_Color_api_Color := rfl
theorem E_wire_Put : lookE envL f_wire_Put = some F_wire_Put := rfl
theorem E_encode_writer_paint : lookE envL f_encode_writer_paint = some F_encode_writer_paint := rfl
theorem E_encode_each__api_Path : lookE envL f_encode_each__api_Path = some F_encode_each__api_Path := rfl
theorem E_encode_writer_path : lookE envL f_encode_writer_path = some F_encode_writer_path := rfl
theorem E_glyphicref_SameCmd : lookE envL f_glyphicref_SameCmd = some F_glyphicref_SameCmd := rfl
theorem E_icon_in__int64 : lookE envL f_icon_in__int64 = some F_icon_in__int64 := rfl
theorem E_icon_far : lookE envL f_icon_far = some F_icon_far := rfl
theorem E_icon_seg : lookE envL f_icon_seg = some F_icon_seg := rfl
theorem E_slices_Index__api_Color_api_Color : lookE envL f_slices_Index__api_Color_api_Color = some F_slices_Index__api_Color_api_Color := rfl
theorem E_slices_Clone__byte_byte : lookE envL f_slices_Clone__byte_byte = some F_slices_Clone__byte_byte := rfl
theorem E_encode_writer_point : lookE envL f_encode_writer_point = some F_encode_writer_point := rfl
theorem E_plane_Sub : lookE envL f_plane_Sub = some F_plane_Sub := rfl
theorem E_glyphicref_SamePaint : lookE envL f_glyphicref_SamePaint = some F_glyphicref_SamePaint := rfl
theorem E_glyphicref_SamePaths : lookE envL f_glyphicref_SamePaths = some F_glyphicref_SamePaths := rfl
theorem E_wire_Zig : lookE envL f_wire_Zig = some F_wire_Zig := rfl
theorem E_glyphicref_SamePath : lookE envL f_glyphicref_SamePath = some F_glyphicref_SamePath := rfl
theorem E_glyphicref_SameSegs : lookE envL f_glyphicref_SameSegs = some F_glyphicref_SameSegs := rfl
theorem E_glyphicref_SameSeg : lookE envL f_glyphicref_SameSeg = some F_glyphicref_SameSeg := rfl
end Go.IR
