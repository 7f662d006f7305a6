/- The functions that the seat's laws reach, as the fast run has them; under names that do not hang on the seat. By program (wip/pr2.py). -/
import Derived.Test.YthojeoldjhghpabDoorFrT
namespace Go.IR
set_option linter.unusedVariables false
set_option linter.unusedSimpArgs false
open Go Go.FR
abbrev f_glyphiclaw3_ColorBack : Nat := 3
abbrev f_glyphiclaw3_first : Nat := 11
abbrev f_color_Show : Nat := 12
abbrev f_color_Parse : Nat := 13
abbrev f_glyphicref_SameColor : Nat := 14
abbrev f_strings_IndexByte : Nat := 38
abbrev f_internal_stringslite_IndexByte : Nat := 49
abbrev f_internal_bytealg_IndexByteString : Nat := 52
abbrev t_p_api_At : Nat := 96
abbrev t_p_errors_errorString : Nat := 134
abbrev g_ErrText : Nat := 0
/- glyphiclaw3.ColorBack -/
def c_glyphiclaw3_ColorBack : AC :=
 .seq (.ops [⟨(some 3), [.t 0], .n (.box), none⟩,
   ⟨(some 6), [.c (.bool false)], .p (.mov), none⟩])
 (.seq (.ops [⟨(some 23), [], .w (.callF f_glyphiclaw3_first), none⟩,
   ⟨(some 7), [.t 23], .p (.mov), none⟩])
 (.seq (.seq (.ops [⟨(some 24), [.t 7], .p (.mov), none⟩,
   ⟨(some 25), [.t 24], .p (.un .not), none⟩])
 (.cond (.t 25)
  (.seq (.ops [⟨(some 6), [.c (.bool false)], .p (.mov), none⟩])
  (.ret))
  (.skip)))
 (.seq (.ops [⟨(some 26), [.t 3], .r (.load (some 4)), none⟩,
   ⟨(some 27), [.t 26], .w (.callF f_color_Show), none⟩,
   ⟨(some 8), [.t 27], .p (.mov), none⟩])
 (.seq (.ops [⟨(some 29), [.t 8], .p (.mov), none⟩,
   ⟨(some 30), [.t 29], .w (.callF f_color_Parse), none⟩,
   ⟨(some 28), [.t 30], .p (.mov), none⟩,
   ⟨(some 31), [.t 28], .p (.ext 0), none⟩,
   ⟨(some 32), [.t 28], .p (.ext 1), none⟩,
   ⟨(some 9), [], .n (.alloc [(.int .u8 0), (.int .u8 0), (.int .u8 0), (.int .u8 0)]), none⟩,
   ⟨none, [.t 9, .t 31], .w (.store 4), none⟩,
   ⟨(some 10), [.t 32], .p (.mov), none⟩])
 (.seq (.seq (.ops [⟨(some 33), [.t 10], .p (.mov), none⟩,
   ⟨(some 34), [.t 33, .c .nilIface], .r (.eq true (.iface [t_p_api_At, t_p_errors_errorString] true)), none⟩,
   ⟨(some 35), [.t 34], .p (.mov), none⟩,
   ⟨(some 36), [.t 3], .r (.load (some 4)), some (35, false)⟩,
   ⟨(some 37), [.t 9], .r (.load (some 4)), some (35, false)⟩,
   ⟨(some 38), [.t 36, .t 37], .w (.callF f_glyphicref_SameColor), some (35, false)⟩,
   ⟨(some 39), [.t 38], .p (.un .not), some (35, false)⟩,
   ⟨(some 40), [.t 35, .c (.bool true), .t 39], .p (.pick), none⟩,
   ⟨(some 41), [.t 40], .p (.mov), none⟩,
   ⟨(some 42), [.t 8], .p (.mov), some (41, false)⟩,
   ⟨(some 43), [.t 42], .p (.lenStr), some (41, false)⟩,
   ⟨(some 44), [.t 43, .c (.int .i64 7)], .p (.bin .neq), some (41, false)⟩,
   ⟨(some 45), [.t 44], .p (.mov), some (41, false)⟩,
   ⟨(some 46), [.t 8], .p (.mov), some (45, true)⟩,
   ⟨(some 47), [.t 46], .p (.lenStr), some (45, true)⟩,
   ⟨(some 48), [.t 47, .c (.int .i64 9)], .p (.bin .neq), some (45, true)⟩,
   ⟨(some 49), [.t 45, .t 48, .c (.bool false)], .p (.pick), some (41, false)⟩,
   ⟨(some 50), [.t 41, .c (.bool true), .t 49], .p (.pick), none⟩])
 (.cond (.t 50)
  (.seq (.ops [⟨(some 6), [.c (.bool false)], .p (.mov), none⟩])
  (.ret))
  (.skip)))
 (.seq (.ops [⟨(some 51), [.t 8], .p (.mov), none⟩,
   ⟨(some 11), [.t 51], .p (.mov), none⟩])
 (.seq (.seq (.ops [⟨(some 52), [.t 8], .p (.mov), none⟩,
   ⟨(some 53), [.t 52], .p (.lenStr), none⟩,
   ⟨(some 54), [.t 53, .c (.int .i64 7)], .p (.bin .eql), none⟩])
 (.cond (.t 54)
  (.ops [⟨(some 55), [.t 8], .p (.mov), none⟩,
    ⟨(some 56), [.t 55, .c (.str [102, 102])], .p (.bin .add), none⟩,
    ⟨(some 11), [.t 56], .p (.mov), none⟩])
  (.skip)))
 (.seq (.ops [⟨(some 58), [.t 11], .p (.mov), none⟩,
   ⟨(some 59), [.t 58], .w (.callF f_color_Parse), none⟩,
   ⟨(some 57), [.t 59], .p (.mov), none⟩,
   ⟨(some 60), [.t 57], .p (.ext 0), none⟩,
   ⟨(some 61), [.t 57], .p (.ext 1), none⟩,
   ⟨(some 12), [], .n (.alloc [(.int .u8 0), (.int .u8 0), (.int .u8 0), (.int .u8 0)]), none⟩,
   ⟨none, [.t 12, .t 60], .w (.store 4), none⟩,
   ⟨(some 13), [.t 61], .p (.mov), none⟩])
 (.seq (.ops [⟨(some 63), [.t 8], .p (.mov), none⟩,
   ⟨(some 64), [.t 8], .p (.mov), none⟩,
   ⟨(some 65), [.t 64], .p (.lenStr), none⟩,
   ⟨(some 66), [.t 65, .c (.int .i64 1)], .p (.bin .sub), none⟩,
   ⟨(some 67), [.t 63, .t 66], .p (.slStr false true), none⟩,
   ⟨(some 68), [.t 67], .w (.callF f_color_Parse), none⟩,
   ⟨(some 62), [.t 68], .p (.mov), none⟩,
   ⟨(some 69), [.t 62], .p (.ext 0), none⟩,
   ⟨(some 70), [.t 62], .p (.ext 1), none⟩,
   ⟨(some 14), [], .n (.alloc [(.int .u8 0), (.int .u8 0), (.int .u8 0), (.int .u8 0)]), none⟩,
   ⟨none, [.t 14, .t 69], .w (.store 4), none⟩,
   ⟨(some 15), [.t 70], .p (.mov), none⟩])
 (.seq (.ops [⟨(some 72), [.t 11], .p (.mov), none⟩,
   ⟨(some 73), [.t 72, .c (.str [48])], .p (.bin .add), none⟩,
   ⟨(some 74), [.t 73], .w (.callF f_color_Parse), none⟩,
   ⟨(some 71), [.t 74], .p (.mov), none⟩,
   ⟨(some 75), [.t 71], .p (.ext 0), none⟩,
   ⟨(some 76), [.t 71], .p (.ext 1), none⟩,
   ⟨(some 16), [], .n (.alloc [(.int .u8 0), (.int .u8 0), (.int .u8 0), (.int .u8 0)]), none⟩,
   ⟨none, [.t 16, .t 75], .w (.store 4), none⟩,
   ⟨(some 17), [.t 76], .p (.mov), none⟩])
 (.seq (.ops [⟨(some 77), [.t 8], .p (.mov), none⟩,
   ⟨(some 78), [.t 77], .n (.s2b), none⟩,
   ⟨(some 18), [.t 78], .p (.mov), none⟩])
 (.seq (.ops [⟨(some 79), [.t 1], .p (.mov), none⟩,
   ⟨(some 80), [.t 18], .p (.mov), none⟩,
   ⟨(some 81), [.t 80], .p (.lenSl), none⟩,
   ⟨(some 82), [.t 79, .t 81], .p (.bin .rem), none⟩,
   ⟨(some 83), [.t 18], .p (.mov), none⟩,
   ⟨(some 84), [.t 83], .p (.lenSl), none⟩,
   ⟨(some 85), [.t 82, .t 84], .p (.bin .add), none⟩,
   ⟨(some 86), [.t 18], .p (.mov), none⟩,
   ⟨(some 87), [.t 86], .p (.lenSl), none⟩,
   ⟨(some 88), [.t 85, .t 87], .p (.bin .rem), none⟩,
   ⟨(some 19), [.t 88], .p (.mov), none⟩])
 (.seq (.ops [⟨(some 89), [.t 2], .p (.mov), none⟩,
   ⟨(some 90), [.t 89, .c (.int .u8 48)], .p (.bin .geq), none⟩,
   ⟨(some 91), [.t 90], .p (.mov), none⟩,
   ⟨(some 92), [.t 2], .p (.mov), some (91, true)⟩,
   ⟨(some 93), [.t 92, .c (.int .u8 57)], .p (.bin .leq), some (91, true)⟩,
   ⟨(some 94), [.t 91, .t 93, .c (.bool false)], .p (.pick), none⟩,
   ⟨(some 95), [.t 94], .p (.mov), none⟩,
   ⟨(some 96), [.t 2], .p (.mov), some (95, false)⟩,
   ⟨(some 97), [.t 96, .c (.int .u8 97)], .p (.bin .geq), some (95, false)⟩,
   ⟨(some 98), [.t 97], .p (.mov), some (95, false)⟩,
   ⟨(some 99), [.t 2], .p (.mov), some (98, true)⟩,
   ⟨(some 100), [.t 99, .c (.int .u8 102)], .p (.bin .leq), some (98, true)⟩,
   ⟨(some 101), [.t 98, .t 100, .c (.bool false)], .p (.pick), some (95, false)⟩,
   ⟨(some 102), [.t 95, .c (.bool true), .t 101], .p (.pick), none⟩,
   ⟨(some 20), [.t 102], .p (.mov), none⟩])
 (.seq (.seq (.ops [⟨(some 103), [.t 19], .p (.mov), none⟩,
   ⟨(some 104), [.t 103, .c (.int .i64 0)], .p (.bin .eql), none⟩])
 (.cond (.t 104)
  (.ops [⟨(some 105), [.t 2], .p (.mov), none⟩,
    ⟨(some 106), [.t 105, .c (.int .u8 35)], .p (.bin .eql), none⟩,
    ⟨(some 20), [.t 106], .p (.mov), none⟩])
  (.skip)))
 (.seq (.ops [⟨(some 107), [.t 18], .p (.mov), none⟩,
   ⟨(some 108), [.t 19], .p (.mov), none⟩,
   ⟨(some 109), [.t 2], .p (.mov), none⟩,
   ⟨(some 110), [.t 107, .t 108], .p (.iAddrS 1), none⟩,
   ⟨none, [.t 110, .t 109], .w (.store 1), none⟩])
 (.seq (.ops [⟨(some 112), [.t 18], .p (.mov), none⟩,
   ⟨(some 113), [.t 112], .r (.b2s), none⟩,
   ⟨(some 114), [.t 113], .w (.callF f_color_Parse), none⟩,
   ⟨(some 111), [.t 114], .p (.mov), none⟩,
   ⟨(some 115), [.t 111], .p (.ext 0), none⟩,
   ⟨(some 116), [.t 111], .p (.ext 1), none⟩,
   ⟨(some 21), [], .n (.alloc [(.int .u8 0), (.int .u8 0), (.int .u8 0), (.int .u8 0)]), none⟩,
   ⟨none, [.t 21, .t 115], .w (.store 4), none⟩,
   ⟨(some 22), [.t 116], .p (.mov), none⟩])
 (.seq (.ops [⟨(some 117), [.t 7], .p (.mov), none⟩,
   ⟨(some 118), [.t 117], .p (.mov), none⟩,
   ⟨(some 119), [.t 13], .p (.mov), some (118, true)⟩,
   ⟨(some 120), [.t 119, .c .nilIface], .r (.eq false (.iface [t_p_api_At, t_p_errors_errorString] true)), some (118, true)⟩,
   ⟨(some 121), [.t 118, .t 120, .c (.bool false)], .p (.pick), none⟩,
   ⟨(some 122), [.t 121], .p (.mov), none⟩,
   ⟨(some 123), [.t 3], .r (.load (some 4)), some (122, true)⟩,
   ⟨(some 124), [.t 12], .r (.load (some 4)), some (122, true)⟩,
   ⟨(some 125), [.t 123, .t 124], .w (.callF f_glyphicref_SameColor), some (122, true)⟩,
   ⟨(some 126), [.t 122, .t 125, .c (.bool false)], .p (.pick), none⟩,
   ⟨(some 127), [.t 126], .p (.mov), none⟩,
   ⟨(some 128), [.t 15], .p (.mov), some (127, true)⟩,
   ⟨(some 129), [.t 128, .c .nilIface], .r (.eq true (.iface [t_p_api_At, t_p_errors_errorString] true)), some (127, true)⟩,
   ⟨(some 130), [.t 127, .t 129, .c (.bool false)], .p (.pick), none⟩,
   ⟨(some 131), [.t 130], .p (.mov), none⟩,
   ⟨(some 132), [.t 17], .p (.mov), some (131, true)⟩,
   ⟨(some 133), [.t 132, .c .nilIface], .r (.eq true (.iface [t_p_api_At, t_p_errors_errorString] true)), some (131, true)⟩,
   ⟨(some 134), [.t 131, .t 133, .c (.bool false)], .p (.pick), none⟩,
   ⟨(some 135), [.t 134], .p (.mov), none⟩,
   ⟨(some 136), [.t 22], .p (.mov), some (135, true)⟩,
   ⟨(some 137), [.t 136, .c .nilIface], .r (.eq false (.iface [t_p_api_At, t_p_errors_errorString] true)), some (135, true)⟩,
   ⟨(some 138), [.t 20], .p (.mov), some (135, true)⟩,
   ⟨(some 139), [.t 137, .t 138], .r (.eq false .bool), some (135, true)⟩,
   ⟨(some 140), [.t 135, .t 139, .c (.bool false)], .p (.pick), none⟩,
   ⟨(some 6), [.t 140], .p (.mov), none⟩])
 (.ret))))))))))))))))))
def r_glyphiclaw3_ColorBack : List ARes := [.tmp 6]
def F_glyphiclaw3_ColorBack : AFunc := .code c_glyphiclaw3_ColorBack r_glyphiclaw3_ColorBack
/- glyphiclaw3.first -/
def c_glyphiclaw3_first : AC :=
 .seq (.ops [⟨(some 0), [.c (.bool false)], .p (.mov), none⟩])
 (.seq (.ops [⟨(some 1), [.c (.int .u8 255), .c (.int .u8 255)], .p (.build [(.int .u8 0), (.int .u8 0), (.int .u8 0), (.int .u8 0)] [(0, 1), (3, 1)]), none⟩,
   ⟨(some 2), [.t 1], .w (.callF f_color_Show), none⟩,
   ⟨(some 3), [.t 2, .c (.str [35, 102, 102, 48, 48, 48, 48])], .p (.bin .eql), none⟩,
   ⟨(some 0), [.t 3], .p (.mov), none⟩])
 (.ret))
def r_glyphiclaw3_first : List ARes := [.tmp 0]
def F_glyphiclaw3_first : AFunc := .code c_glyphiclaw3_first r_glyphiclaw3_first
/- color.Show -/
def c_color_Show_l0 : AC :=
 .seq (.ops [⟨(some 17), [.t 16, .c (.int .i64 4)], .p (.bin .lss), none⟩])
   (.seq (.cond (.t 17)
    (.skip)
    (.exit 0))
   (.seq (.block 1
    (.seq (.ops [⟨(some 18), [.t 16], .p (.mov), none⟩,
      ⟨(some 19), [.t 15, .t 16], .p (.idxArr 4 1 none), none⟩,
      ⟨(some 4), [.t 18], .p (.mov), none⟩,
      ⟨(some 5), [.t 19], .p (.mov), none⟩])
    (.seq (.ops [⟨(some 20), [.t 4], .p (.mov), none⟩,
      ⟨(some 21), [.t 20, .c (.int .i64 3)], .p (.bin .lss), none⟩,
      ⟨(some 22), [.t 21], .p (.mov), none⟩,
      ⟨(some 23), [.t 5], .p (.mov), some (22, false)⟩,
      ⟨(some 24), [.t 23, .c (.int .u8 255)], .p (.bin .neq), some (22, false)⟩,
      ⟨(some 25), [.t 22, .c (.bool true), .t 24], .p (.pick), none⟩])
    (.cond (.t 25)
     (.draw [(⟨(some 26), [.t 3], .p (.mov), none⟩, 0),
       (⟨(some 27), [.t 5], .p (.mov), none⟩, 0),
       (⟨(some 28), [.t 27, .c (.int .u64 4)], .p (.bin .shr), none⟩, 0),
       (⟨(some 29), [.c (.str [48, 49, 50, 51, 52, 53, 54, 55, 56, 57, 97, 98, 99, 100, 101, 102]), .t 28], .p (.idxStr), none⟩, 0),
       (⟨(some 30), [.t 5], .p (.mov), none⟩, 0),
       (⟨(some 31), [.t 30, .c (.int .u8 15)], .p (.bin .and), none⟩, 0),
       (⟨(some 32), [.c (.str [48, 49, 50, 51, 52, 53, 54, 55, 56, 57, 97, 98, 99, 100, 101, 102]), .t 31], .p (.idxStr), none⟩, 0),
       (⟨(some 33), [.t 29, .t 32], .n (.bslice 2 [(.int .u8 0), (.int .u8 0)] [(0, 1), (1, 1)]), none⟩, 0),
       (⟨(some 34), [.t 26, .t 33], .w (.append 1 1), none⟩, 0),
       (⟨(some 3), [.t 34], .p (.mov), none⟩, 0)])
     (.skip)))))
   (.ops [⟨(some 35), [.t 16, .c (.int .i64 1)], .p (.bin .add), none⟩,
     ⟨(some 16), [.t 35], .p (.mov), none⟩])))
def c_color_Show : AC :=
 .seq (.ops [⟨(some 1), [.t 0], .n (.box), none⟩,
   ⟨(some 2), [.c (.str [])], .p (.mov), none⟩])
 (.seq (.ops [⟨(some 6), [.c (.int .u8 35)], .n (.bslice 1 [(.int .u8 0)] [(0, 1)]), none⟩,
   ⟨(some 3), [.t 6], .p (.mov), none⟩])
 (.seq (.seq (.ops [⟨(some 7), [.t 1], .p (.fAddr 0), none⟩,
   ⟨(some 8), [.t 7], .r (.load none), none⟩,
   ⟨(some 9), [.t 1], .p (.fAddr 1), none⟩,
   ⟨(some 10), [.t 9], .r (.load none), none⟩,
   ⟨(some 11), [.t 1], .p (.fAddr 2), none⟩,
   ⟨(some 12), [.t 11], .r (.load none), none⟩,
   ⟨(some 13), [.t 1], .p (.fAddr 3), none⟩,
   ⟨(some 14), [.t 13], .r (.load none), none⟩,
   ⟨(some 15), [.t 8, .t 10, .t 12, .t 14], .p (.build [(.int .u8 0), (.int .u8 0), (.int .u8 0), (.int .u8 0)] [(0, 1), (1, 1), (2, 1), (3, 1)]), none⟩,
   ⟨(some 16), [.c (.int .i64 0)], .p (.mov), none⟩])
 (.block 0
  (.loop c_color_Show_l0)))
 (.seq (.ops [⟨(some 36), [.t 3], .p (.mov), none⟩,
   ⟨(some 37), [.t 36], .r (.b2s), none⟩,
   ⟨(some 2), [.t 37], .p (.mov), none⟩])
 (.ret))))
def r_color_Show : List ARes := [.tmp 2]
def F_color_Show : AFunc := .code c_color_Show r_color_Show
/- color.Parse -/
def c_color_Parse_l0 : AC :=
 .seq (.seq (.ops [⟨(some 23), [.t 5], .p (.mov), none⟩,
     ⟨(some 24), [.t 0], .p (.mov), none⟩,
     ⟨(some 25), [.t 24], .p (.lenStr), none⟩,
     ⟨(some 26), [.t 23, .t 25], .p (.bin .lss), none⟩])
   (.cond (.t 26)
    (.skip)
    (.exit 0)))
   (.seq (.block 1
    (.seq (.ops [⟨(some 29), [.t 0], .p (.mov), none⟩,
      ⟨(some 30), [.t 5], .p (.mov), none⟩,
      ⟨(some 31), [.t 29, .t 30], .p (.idxStr), none⟩,
      ⟨(some 32), [.c (.str [48, 49, 50, 51, 52, 53, 54, 55, 56, 57, 97, 98, 99, 100, 101, 102]), .t 31], .w (.callF f_strings_IndexByte), none⟩,
      ⟨(some 6), [.t 32], .p (.mov), none⟩])
    (.seq (.seq (.ops [⟨(some 33), [.t 6], .p (.mov), none⟩,
      ⟨(some 34), [.t 33, .c (.int .i64 0)], .p (.bin .lss), none⟩])
    (.cond (.t 34)
     (.seq (.draw [(⟨(some 35), [], .p (.build [(.int .u8 0), (.int .u8 0), (.int .u8 0), (.int .u8 0)] []), none⟩, 0),
       (⟨none, [.t 2, .t 35], .w (.store 4), none⟩, 0),
       (⟨(some 36), [.c (.ptr (some (g_ErrText, 0)))], .r (.load none), none⟩, 1),
       (⟨(some 3), [.t 36], .p (.mov), none⟩, 0)])
     (.ret))
     (.skip)))
    (.ops [⟨(some 37), [.t 5], .p (.mov), none⟩,
      ⟨(some 38), [.t 37, .c (.int .i64 1)], .p (.bin .sub), none⟩,
      ⟨(some 39), [.t 38, .c (.int .i64 2)], .p (.bin .quo), none⟩,
      ⟨(some 40), [.t 5], .p (.mov), none⟩,
      ⟨(some 41), [.t 40, .c (.int .i64 1)], .p (.bin .sub), none⟩,
      ⟨(some 42), [.t 41, .c (.int .i64 2)], .p (.bin .quo), none⟩,
      ⟨(some 43), [.t 4, .t 42], .p (.iAddrA 4 1), none⟩,
      ⟨(some 44), [.t 43], .r (.load none), none⟩,
      ⟨(some 45), [.t 44, .c (.int .u64 4)], .p (.bin .shl), none⟩,
      ⟨(some 46), [.t 6], .p (.mov), none⟩,
      ⟨(some 47), [.t 46], .p (.conv .u8), none⟩,
      ⟨(some 48), [.t 45, .t 47], .p (.bin .or), none⟩,
      ⟨(some 49), [.t 4, .t 39], .p (.iAddrA 4 1), none⟩,
      ⟨none, [.t 49, .t 48], .w (.store 1), none⟩]))))
   (.ops [⟨(some 27), [.t 5], .p (.mov), none⟩,
     ⟨(some 28), [.t 27, .c (.int .i64 1)], .p (.bin .add), none⟩,
     ⟨(some 5), [.t 28], .p (.mov), none⟩]))
def c_color_Parse : AC :=
 .seq (.ops [⟨(some 2), [], .n (.alloc [(.int .u8 0), (.int .u8 0), (.int .u8 0), (.int .u8 0)]), none⟩,
   ⟨(some 3), [.c .nilIface], .p (.mov), none⟩])
 (.seq (.seq (.ops [⟨(some 7), [.t 0], .p (.mov), none⟩,
   ⟨(some 8), [.t 7], .p (.lenStr), none⟩,
   ⟨(some 9), [.t 8, .c (.int .i64 7)], .p (.bin .neq), none⟩,
   ⟨(some 10), [.t 9], .p (.mov), none⟩,
   ⟨(some 11), [.t 0], .p (.mov), some (10, true)⟩,
   ⟨(some 12), [.t 11], .p (.lenStr), some (10, true)⟩,
   ⟨(some 13), [.t 12, .c (.int .i64 9)], .p (.bin .neq), some (10, true)⟩,
   ⟨(some 14), [.t 10, .t 13, .c (.bool false)], .p (.pick), none⟩,
   ⟨(some 15), [.t 14], .p (.mov), none⟩,
   ⟨(some 16), [.t 0], .p (.mov), some (15, false)⟩,
   ⟨(some 17), [.t 16, .c (.int .i64 0)], .p (.idxStr), some (15, false)⟩,
   ⟨(some 18), [.t 17, .c (.int .u8 35)], .p (.bin .neq), some (15, false)⟩,
   ⟨(some 19), [.t 15, .c (.bool true), .t 18], .p (.pick), none⟩])
 (.cond (.t 19)
  (.seq (.draw [(⟨(some 20), [], .p (.build [(.int .u8 0), (.int .u8 0), (.int .u8 0), (.int .u8 0)] []), none⟩, 0),
    (⟨none, [.t 2, .t 20], .w (.store 4), none⟩, 0),
    (⟨(some 21), [.c (.ptr (some (g_ErrText, 0)))], .r (.load none), none⟩, 1),
    (⟨(some 3), [.t 21], .p (.mov), none⟩, 0)])
  (.ret))
  (.skip)))
 (.seq (.ops [⟨(some 22), [.c (.int .u8 255)], .p (.build [(.int .u8 0), (.int .u8 0), (.int .u8 0), (.int .u8 0)] [(3, 1)]), none⟩,
   ⟨(some 4), [], .n (.alloc [(.int .u8 0), (.int .u8 0), (.int .u8 0), (.int .u8 0)]), none⟩,
   ⟨none, [.t 4, .t 22], .w (.store 4), none⟩])
 (.seq (.seq (.ops [⟨(some 5), [.c (.int .i64 1)], .p (.mov), none⟩])
 (.block 0
  (.loop c_color_Parse_l0)))
 (.seq (.ops [⟨(some 50), [.t 4, .c (.int .i64 0)], .p (.iAddrA 4 1), none⟩,
   ⟨(some 51), [.t 50], .r (.load none), none⟩,
   ⟨(some 52), [.t 4, .c (.int .i64 1)], .p (.iAddrA 4 1), none⟩,
   ⟨(some 53), [.t 52], .r (.load none), none⟩,
   ⟨(some 54), [.t 4, .c (.int .i64 2)], .p (.iAddrA 4 1), none⟩,
   ⟨(some 55), [.t 54], .r (.load none), none⟩,
   ⟨(some 56), [.t 4, .c (.int .i64 3)], .p (.iAddrA 4 1), none⟩,
   ⟨(some 57), [.t 56], .r (.load none), none⟩,
   ⟨(some 58), [.t 51, .t 53, .t 55, .t 57], .p (.build [(.int .u8 0), (.int .u8 0), (.int .u8 0), (.int .u8 0)] [(0, 1), (1, 1), (2, 1), (3, 1)]), none⟩,
   ⟨none, [.t 2, .t 58], .w (.store 4), none⟩,
   ⟨(some 3), [.c .nilIface], .p (.mov), none⟩])
 (.ret)))))
def r_color_Parse : List ARes := [.cell 2 (some 4), .tmp 3]
def F_color_Parse : AFunc := .code c_color_Parse r_color_Parse
/- glyphicref.SameColor -/
def c_glyphicref_SameColor : AC :=
 .seq (.ops [⟨(some 2), [.t 0], .n (.box), none⟩,
   ⟨(some 3), [.t 1], .n (.box), none⟩,
   ⟨(some 4), [.c (.bool false)], .p (.mov), none⟩])
 (.seq (.ops [⟨(some 5), [.t 2], .p (.fAddr 0), none⟩,
   ⟨(some 6), [.t 5], .r (.load none), none⟩,
   ⟨(some 7), [.t 3], .p (.fAddr 0), none⟩,
   ⟨(some 8), [.t 7], .r (.load none), none⟩,
   ⟨(some 9), [.t 6, .t 8], .p (.bin .eql), none⟩,
   ⟨(some 10), [.t 9], .p (.mov), none⟩,
   ⟨(some 11), [.t 2], .p (.fAddr 1), some (10, true)⟩,
   ⟨(some 12), [.t 11], .r (.load none), some (10, true)⟩,
   ⟨(some 13), [.t 3], .p (.fAddr 1), some (10, true)⟩,
   ⟨(some 14), [.t 13], .r (.load none), some (10, true)⟩,
   ⟨(some 15), [.t 12, .t 14], .p (.bin .eql), some (10, true)⟩,
   ⟨(some 16), [.t 10, .t 15, .c (.bool false)], .p (.pick), none⟩,
   ⟨(some 17), [.t 16], .p (.mov), none⟩,
   ⟨(some 18), [.t 2], .p (.fAddr 2), some (17, true)⟩,
   ⟨(some 19), [.t 18], .r (.load none), some (17, true)⟩,
   ⟨(some 20), [.t 3], .p (.fAddr 2), some (17, true)⟩,
   ⟨(some 21), [.t 20], .r (.load none), some (17, true)⟩,
   ⟨(some 22), [.t 19, .t 21], .p (.bin .eql), some (17, true)⟩,
   ⟨(some 23), [.t 17, .t 22, .c (.bool false)], .p (.pick), none⟩,
   ⟨(some 24), [.t 23], .p (.mov), none⟩,
   ⟨(some 25), [.t 2], .p (.fAddr 3), some (24, true)⟩,
   ⟨(some 26), [.t 25], .r (.load none), some (24, true)⟩,
   ⟨(some 27), [.t 3], .p (.fAddr 3), some (24, true)⟩,
   ⟨(some 28), [.t 27], .r (.load none), some (24, true)⟩,
   ⟨(some 29), [.t 26, .t 28], .p (.bin .eql), some (24, true)⟩,
   ⟨(some 30), [.t 24, .t 29, .c (.bool false)], .p (.pick), none⟩,
   ⟨(some 4), [.t 30], .p (.mov), none⟩])
 (.ret))
def r_glyphicref_SameColor : List ARes := [.tmp 4]
def F_glyphicref_SameColor : AFunc := .code c_glyphicref_SameColor r_glyphicref_SameColor
/- strings.IndexByte -/
def c_strings_IndexByte : AC :=
 .seq (.ops [⟨(some 4), [.c (.int .i64 0)], .p (.mov), none⟩])
 (.seq (.ops [⟨(some 5), [.t 0], .p (.mov), none⟩,
   ⟨(some 6), [.t 1], .p (.mov), none⟩,
   ⟨(some 7), [.t 5, .t 6], .w (.callF f_internal_stringslite_IndexByte), none⟩,
   ⟨(some 4), [.t 7], .p (.mov), none⟩])
 (.ret))
def r_strings_IndexByte : List ARes := [.tmp 4]
def F_strings_IndexByte : AFunc := .code c_strings_IndexByte r_strings_IndexByte
/- internal/stringslite.IndexByte -/
def c_internal_stringslite_IndexByte : AC :=
 .seq (.ops [⟨(some 4), [.c (.int .i64 0)], .p (.mov), none⟩])
 (.seq (.ops [⟨(some 5), [.t 0], .p (.mov), none⟩,
   ⟨(some 6), [.t 1], .p (.mov), none⟩,
   ⟨(some 7), [.t 5, .t 6], .w (.callF f_internal_bytealg_IndexByteString), none⟩,
   ⟨(some 4), [.t 7], .p (.mov), none⟩])
 (.ret))
def r_internal_stringslite_IndexByte : List ARes := [.tmp 4]
def F_internal_stringslite_IndexByte : AFunc := .code c_internal_stringslite_IndexByte r_internal_stringslite_IndexByte
/- internal/bytealg.IndexByteString -/
def F_internal_bytealg_IndexByteString : AFunc := .prim .indexByte
def cfg : Cfg := ⟨[(0, 0)], [t_p_api_At, t_p_errors_errorString]⟩
def envL : List (Nat × AFunc) := [(f_glyphiclaw3_ColorBack, F_glyphiclaw3_ColorBack), (f_glyphiclaw3_first, F_glyphiclaw3_first), (f_color_Show, F_color_Show), (f_color_Parse, F_color_Parse), (f_glyphicref_SameColor, F_glyphicref_SameColor), (f_strings_IndexByte, F_strings_IndexByte), (f_internal_stringslite_IndexByte, F_internal_stringslite_IndexByte), (f_internal_bytealg_IndexByteString, F_internal_bytealg_IndexByteString)]
theorem E_glyphiclaw3_ColorBack : lookE envL f_glyphiclaw3_ColorBack = some F_glyphiclaw3_ColorBack := rfl
theorem E_glyphiclaw3_first : lookE envL f_glyphiclaw3_first = some F_glyphiclaw3_first := rfl
theorem E_color_Show : lookE envL f_color_Show = some F_color_Show := rfl
theorem E_color_Parse : lookE envL f_color_Parse = some F_color_Parse := rfl
theorem E_glyphicref_SameColor : lookE envL f_glyphicref_SameColor = some F_glyphicref_SameColor := rfl
theorem E_strings_IndexByte : lookE envL f_strings_IndexByte = some F_strings_IndexByte := rfl
theorem E_internal_stringslite_IndexByte : lookE envL f_internal_stringslite_IndexByte = some F_internal_stringslite_IndexByte := rfl
theorem E_internal_bytealg_IndexByteString : lookE envL f_internal_bytealg_IndexByteString = some F_internal_bytealg_IndexByteString := rfl
end Go.IR
