/- The functions that the seat's laws reach, as the fast run has them; under names that do not hang on the seat. By program (wip/pr2.py). -/
import Derived.Test.YthojeoldjhghpabDoorFrT
namespace Go.IR
set_option linter.unusedVariables false
set_option linter.unusedSimpArgs false
open Go Go.FR
abbrev f_glyphiclaw2_WireBack : Nat := 8
abbrev f_glyphicsee_Is : Nat := 17
abbrev f_glyphiclaw2_first : Nat := 20
abbrev f_wire_Get : Nat := 21
abbrev f_glyphicref_SameBytes : Nat := 22
abbrev f_wire_Put : Nat := 23
abbrev f_glyphicsee_Same : Nat := 24
abbrev f_glyphicref_Placed : Nat := 25
abbrev f_wire_Size : Nat := 26
abbrev f_wire_Zag : Nat := 27
abbrev f_wire_Zig : Nat := 28
abbrev f_glyphicref_None : Nat := 34
abbrev f_glyphicref_SameFault : Nat := 36
abbrev f_glyphicref_Bare : Nat := 41
abbrev f_slices_Clone__byte_byte : Nat := 42
abbrev f_glyphicsee_Fault : Nat := 43
abbrev f_glyphicsee_sentinel : Nat := 50
abbrev f_glyphicsee_sentinels : Nat := 53
abbrev f_glyphicsee_Alike : Nat := 54
abbrev t_p_api_At : Nat := 96
abbrev t_p_errors_errorString : Nat := 134
abbrev g_ErrText : Nat := 0
abbrev g_ErrName : Nat := 2
abbrev g_ErrTwice : Nat := 4
abbrev g_ErrPath : Nat := 6
abbrev g_ErrRange : Nat := 8
abbrev g_ErrLimit : Nat := 10
abbrev g_ErrShort : Nat := 12
abbrev g_ErrMagic : Nat := 14
abbrev g_ErrVarint : Nat := 16
abbrev g_ErrCanon : Nat := 18
abbrev g_ErrTrail : Nat := 20
abbrev g_ErrWidth : Nat := 22
abbrev g_ErrBudget : Nat := 24
/- glyphiclaw2.WireBack -/
def c_glyphiclaw2_WireBack : AC :=
 .seq (.ops [⟨(some 8), [.c (.bool false)], .p (.mov), none⟩])
 (.seq (.ops [⟨(some 21), [], .w (.callF f_glyphiclaw2_first), none⟩,
   ⟨(some 9), [.t 21], .p (.mov), none⟩])
 (.seq (.seq (.ops [⟨(some 22), [.t 9], .p (.mov), none⟩,
   ⟨(some 23), [.t 22], .p (.un .not), none⟩])
 (.cond (.t 23)
  (.seq (.ops [⟨(some 8), [.c (.bool false)], .p (.mov), none⟩])
  (.ret))
  (.skip)))
 (.seq (.seq (.ops [⟨(some 24), [.t 0], .p (.mov), none⟩,
   ⟨(some 25), [.t 24], .p (.lenSl), none⟩,
   ⟨(some 26), [.t 25, .c (.int .i64 30)], .p (.bin .gtr), none⟩,
   ⟨(some 27), [.t 26], .p (.mov), none⟩,
   ⟨(some 28), [.t 2], .p (.mov), some (27, false)⟩,
   ⟨(some 29), [.t 28], .p (.lenSl), some (27, false)⟩,
   ⟨(some 30), [.t 29, .c (.int .i64 30)], .p (.bin .gtr), some (27, false)⟩,
   ⟨(some 31), [.t 27, .c (.bool true), .t 30], .p (.pick), none⟩])
 (.cond (.t 31)
  (.seq (.ops [⟨(some 32), [.t 9], .p (.mov), none⟩,
    ⟨(some 8), [.t 32], .p (.mov), none⟩])
  (.ret))
  (.skip)))
 (.seq (.ops [⟨(some 33), [], .n (.bslice 0 [] []), none⟩,
   ⟨(some 34), [.t 0], .p (.mov), none⟩,
   ⟨(some 35), [.t 33, .t 34], .w (.append 1 1), none⟩,
   ⟨(some 36), [.t 1], .p (.mov), none⟩,
   ⟨(some 37), [.t 35, .t 36], .w (.callF f_wire_Put), none⟩,
   ⟨(some 10), [.t 37], .p (.mov), none⟩])
 (.seq (.ops [⟨(some 38), [.t 10], .p (.mov), none⟩,
   ⟨(some 39), [.t 38], .p (.lenSl), none⟩,
   ⟨(some 11), [.t 39], .p (.mov), none⟩])
 (.seq (.ops [⟨(some 40), [.t 10], .p (.mov), none⟩,
   ⟨(some 41), [.t 2], .p (.mov), none⟩,
   ⟨(some 42), [.t 40, .t 41], .w (.append 1 1), none⟩,
   ⟨(some 10), [.t 42], .p (.mov), none⟩])
 (.seq (.ops [⟨(some 44), [.t 10], .p (.mov), none⟩,
   ⟨(some 45), [.t 0], .p (.mov), none⟩,
   ⟨(some 46), [.t 45], .p (.lenSl), none⟩,
   ⟨(some 47), [.t 44, .t 46], .w (.callF f_wire_Get), none⟩,
   ⟨(some 43), [.t 47], .p (.mov), none⟩,
   ⟨(some 48), [.t 43], .p (.ext 0), none⟩,
   ⟨(some 49), [.t 43], .p (.ext 1), none⟩,
   ⟨(some 50), [.t 43], .p (.ext 2), none⟩,
   ⟨(some 12), [.t 48], .p (.mov), none⟩,
   ⟨(some 13), [.t 49], .p (.mov), none⟩,
   ⟨(some 14), [.t 50], .p (.mov), none⟩])
 (.seq (.ops [⟨(some 52), [.t 10], .p (.mov), none⟩,
   ⟨(some 53), [.t 11], .p (.mov), none⟩,
   ⟨(some 54), [.t 53, .c (.int .i64 1)], .p (.bin .sub), none⟩,
   ⟨(some 55), [.t 52, .t 54], .p (.slSl 1 false true), none⟩,
   ⟨(some 56), [.t 0], .p (.mov), none⟩,
   ⟨(some 57), [.t 56], .p (.lenSl), none⟩,
   ⟨(some 58), [.t 55, .t 57], .w (.callF f_wire_Get), none⟩,
   ⟨(some 51), [.t 58], .p (.mov), none⟩,
   ⟨(some 59), [.t 51], .p (.ext 0), none⟩,
   ⟨(some 60), [.t 51], .p (.ext 1), none⟩,
   ⟨(some 61), [.t 51], .p (.ext 2), none⟩,
   ⟨(some 15), [.t 59], .p (.mov), none⟩,
   ⟨(some 16), [.t 60], .p (.mov), none⟩,
   ⟨(some 17), [.t 61], .p (.mov), none⟩])
 (.seq (.ops [⟨(some 63), [.t 10], .p (.mov), none⟩,
   ⟨(some 64), [.t 10], .p (.mov), none⟩,
   ⟨(some 65), [.t 64], .p (.lenSl), none⟩,
   ⟨(some 66), [.t 63, .t 65], .w (.callF f_wire_Get), none⟩,
   ⟨(some 62), [.t 66], .p (.mov), none⟩,
   ⟨(some 67), [.t 62], .p (.ext 0), none⟩,
   ⟨(some 68), [.t 62], .p (.ext 1), none⟩,
   ⟨(some 69), [.t 62], .p (.ext 2), none⟩,
   ⟨(some 18), [.t 67], .p (.mov), none⟩,
   ⟨(some 19), [.t 68], .p (.mov), none⟩,
   ⟨(some 20), [.t 69], .p (.mov), none⟩])
 (.seq (.ops [⟨(some 70), [.t 9], .p (.mov), none⟩,
   ⟨(some 71), [.t 70], .p (.mov), none⟩,
   ⟨(some 72), [.t 14], .p (.mov), some (71, true)⟩,
   ⟨(some 73), [.t 72, .c .nilIface], .r (.eq false (.iface [t_p_api_At, t_p_errors_errorString] true)), some (71, true)⟩,
   ⟨(some 74), [.t 71, .t 73, .c (.bool false)], .p (.pick), none⟩,
   ⟨(some 75), [.t 74], .p (.mov), none⟩,
   ⟨(some 76), [.t 12], .p (.mov), some (75, true)⟩,
   ⟨(some 77), [.t 1], .p (.mov), some (75, true)⟩,
   ⟨(some 78), [.t 76, .t 77], .p (.bin .eql), some (75, true)⟩,
   ⟨(some 79), [.t 75, .t 78, .c (.bool false)], .p (.pick), none⟩,
   ⟨(some 80), [.t 79], .p (.mov), none⟩,
   ⟨(some 81), [.t 13], .p (.mov), some (80, true)⟩,
   ⟨(some 82), [.t 11], .p (.mov), some (80, true)⟩,
   ⟨(some 83), [.t 81, .t 82], .p (.bin .eql), some (80, true)⟩,
   ⟨(some 84), [.t 80, .t 83, .c (.bool false)], .p (.pick), none⟩,
   ⟨(some 85), [.t 84], .p (.mov), none⟩,
   ⟨(some 86), [.t 11], .p (.mov), some (85, true)⟩,
   ⟨(some 87), [.t 0], .p (.mov), some (85, true)⟩,
   ⟨(some 88), [.t 87], .p (.lenSl), some (85, true)⟩,
   ⟨(some 89), [.t 86, .t 88], .p (.bin .sub), some (85, true)⟩,
   ⟨(some 90), [.t 1], .p (.mov), some (85, true)⟩,
   ⟨(some 91), [.t 90], .w (.callF f_wire_Size), some (85, true)⟩,
   ⟨(some 92), [.t 89, .t 91], .p (.bin .eql), some (85, true)⟩,
   ⟨(some 93), [.t 85, .t 92, .c (.bool false)], .p (.pick), none⟩,
   ⟨(some 94), [.t 93], .p (.mov), none⟩,
   ⟨(some 95), [.t 17], .p (.mov), some (94, true)⟩,
   ⟨(some 96), [.t 0], .p (.mov), some (94, true)⟩,
   ⟨(some 97), [.t 96], .p (.lenSl), some (94, true)⟩,
   ⟨(some 98), [.c (.int .i64 107), .t 97], .w (.callF f_glyphicref_Placed), some (94, true)⟩,
   ⟨(some 99), [.t 95, .t 98], .w (.callF f_glyphicsee_Same), some (94, true)⟩,
   ⟨(some 100), [.t 94, .t 99, .c (.bool false)], .p (.pick), none⟩,
   ⟨(some 101), [.t 100], .p (.mov), none⟩,
   ⟨(some 102), [.t 20], .p (.mov), some (101, true)⟩,
   ⟨(some 103), [.t 10], .p (.mov), some (101, true)⟩,
   ⟨(some 104), [.t 103], .p (.lenSl), some (101, true)⟩,
   ⟨(some 105), [.c (.int .i64 107), .t 104], .w (.callF f_glyphicref_Placed), some (101, true)⟩,
   ⟨(some 106), [.t 102, .t 105], .w (.callF f_glyphicsee_Same), some (101, true)⟩,
   ⟨(some 107), [.t 101, .t 106, .c (.bool false)], .p (.pick), none⟩,
   ⟨(some 108), [.t 107], .p (.mov), none⟩,
   ⟨(some 109), [.t 3], .p (.mov), some (108, true)⟩,
   ⟨(some 110), [.t 109], .w (.callF f_wire_Zig), some (108, true)⟩,
   ⟨(some 111), [.t 110], .w (.callF f_wire_Zag), some (108, true)⟩,
   ⟨(some 112), [.t 3], .p (.mov), some (108, true)⟩,
   ⟨(some 113), [.t 111, .t 112], .p (.bin .eql), some (108, true)⟩,
   ⟨(some 114), [.t 108, .t 113, .c (.bool false)], .p (.pick), none⟩,
   ⟨(some 115), [.t 114], .p (.mov), none⟩,
   ⟨(some 116), [.t 1], .p (.mov), some (115, true)⟩,
   ⟨(some 117), [.t 116], .w (.callF f_wire_Zag), some (115, true)⟩,
   ⟨(some 118), [.t 117], .w (.callF f_wire_Zig), some (115, true)⟩,
   ⟨(some 119), [.t 1], .p (.mov), some (115, true)⟩,
   ⟨(some 120), [.t 118, .t 119], .p (.bin .eql), some (115, true)⟩,
   ⟨(some 121), [.t 115, .t 120, .c (.bool false)], .p (.pick), none⟩,
   ⟨(some 8), [.t 121], .p (.mov), none⟩])
 (.ret)))))))))))
def r_glyphiclaw2_WireBack : List ARes := [.tmp 8]
def F_glyphiclaw2_WireBack : AFunc := .code c_glyphiclaw2_WireBack r_glyphiclaw2_WireBack
/- glyphicsee.Is -/
def c_glyphicsee_Is : AC :=
 .seq (.ops [⟨(some 4), [.c (.bool false)], .p (.mov), none⟩])
 (.seq (.ops [⟨(some 5), [.t 0], .p (.mov), none⟩,
   ⟨(some 6), [.t 1], .p (.mov), none⟩,
   ⟨(some 7), [.t 6], .w (.callF f_glyphicref_Bare), none⟩,
   ⟨(some 8), [.t 5, .t 7], .w (.callF f_glyphicsee_Same), none⟩,
   ⟨(some 4), [.t 8], .p (.mov), none⟩])
 (.ret))
def r_glyphicsee_Is : List ARes := [.tmp 4]
def F_glyphicsee_Is : AFunc := .code c_glyphicsee_Is r_glyphicsee_Is
/- glyphiclaw2.first -/
def c_glyphiclaw2_first : AC :=
 .seq (.ops [⟨(some 0), [.c (.bool false)], .p (.mov), none⟩])
 (.seq (.ops [⟨(some 2), [.c (.slice none 0 (.exact 0)), .c (.int .u64 300)], .w (.callF f_wire_Put), none⟩,
   ⟨(some 1), [.t 2], .p (.mov), none⟩])
 (.seq (.ops [⟨(some 3), [.t 1], .p (.mov), none⟩,
   ⟨(some 4), [.t 3], .p (.lenSl), none⟩,
   ⟨(some 5), [.t 4, .c (.int .i64 2)], .p (.bin .eql), none⟩,
   ⟨(some 6), [.t 5], .p (.mov), none⟩,
   ⟨(some 7), [.t 1], .p (.mov), some (6, true)⟩,
   ⟨(some 8), [.t 7, .c (.int .i64 0)], .p (.iAddrS 1), some (6, true)⟩,
   ⟨(some 9), [.t 8], .r (.load none), some (6, true)⟩,
   ⟨(some 10), [.t 9, .c (.int .u8 172)], .p (.bin .eql), some (6, true)⟩,
   ⟨(some 11), [.t 6, .t 10, .c (.bool false)], .p (.pick), none⟩,
   ⟨(some 12), [.t 11], .p (.mov), none⟩,
   ⟨(some 13), [.t 1], .p (.mov), some (12, true)⟩,
   ⟨(some 14), [.t 13, .c (.int .i64 1)], .p (.iAddrS 1), some (12, true)⟩,
   ⟨(some 15), [.t 14], .r (.load none), some (12, true)⟩,
   ⟨(some 16), [.t 15, .c (.int .u8 2)], .p (.bin .eql), some (12, true)⟩,
   ⟨(some 17), [.t 12, .t 16, .c (.bool false)], .p (.pick), none⟩,
   ⟨(some 18), [.t 17], .p (.mov), none⟩,
   ⟨(some 19), [.c (.int .i64 (-1))], .w (.callF f_wire_Zig), some (18, true)⟩,
   ⟨(some 20), [.t 19, .c (.int .u64 1)], .p (.bin .eql), some (18, true)⟩,
   ⟨(some 21), [.t 18, .t 20, .c (.bool false)], .p (.pick), none⟩,
   ⟨(some 0), [.t 21], .p (.mov), none⟩])
 (.ret)))
def r_glyphiclaw2_first : List ARes := [.tmp 0]
def F_glyphiclaw2_first : AFunc := .code c_glyphiclaw2_first r_glyphiclaw2_first
/- wire.Get -/
def c_wire_Get_l0 : AC :=
 .seq (.ops [⟨(some 29), [.t 28, .t 27], .p (.bin .lss), none⟩])
   (.seq (.cond (.t 29)
    (.skip)
    (.exit 0))
   (.seq (.block 1
    (.seq (.ops [⟨(some 30), [.t 28], .p (.mov), none⟩,
      ⟨(some 31), [.t 26, .t 28], .p (.iAddrS 1), none⟩,
      ⟨(some 32), [.t 31], .r (.load none), none⟩,
      ⟨(some 8), [.t 30], .p (.mov), none⟩,
      ⟨(some 9), [.t 32], .p (.mov), none⟩])
    (.seq (.ops [⟨(some 33), [.t 9], .p (.mov), none⟩,
      ⟨(some 34), [.t 33, .c (.int .u8 128)], .p (.bin .lss), none⟩,
      ⟨(some 10), [.t 34], .p (.mov), none⟩])
    (.seq (.block 2
     (.seq (.seq (.ops [⟨(some 36), [.t 8], .p (.mov), none⟩,
       ⟨(some 37), [.t 36, .c (.int .i64 9)], .p (.bin .eql), none⟩,
       ⟨(some 38), [.t 37], .p (.mov), none⟩,
       ⟨(some 39), [.t 9], .p (.mov), some (38, true)⟩,
       ⟨(some 40), [.t 39, .c (.int .u8 1)], .p (.bin .gtr), some (38, true)⟩,
       ⟨(some 41), [.t 38, .t 40, .c (.bool false)], .p (.pick), none⟩,
       ⟨(some 35), [.t 41], .p (.mov), none⟩])
     (.cond (.t 35)
      (.skip)
      (.ops [⟨(some 42), [.t 10], .p (.mov), none⟩,
        ⟨(some 43), [.t 42], .p (.mov), none⟩,
        ⟨(some 44), [.t 9], .p (.mov), some (43, true)⟩,
        ⟨(some 45), [.t 44, .c (.int .u8 0)], .p (.bin .eql), some (43, true)⟩,
        ⟨(some 46), [.t 43, .t 45, .c (.bool false)], .p (.pick), none⟩,
        ⟨(some 47), [.t 46], .p (.mov), none⟩,
        ⟨(some 48), [.t 8], .p (.mov), some (47, true)⟩,
        ⟨(some 49), [.t 48, .c (.int .i64 0)], .p (.bin .gtr), some (47, true)⟩,
        ⟨(some 50), [.t 47, .t 49, .c (.bool false)], .p (.pick), none⟩,
        ⟨(some 35), [.t 50], .p (.mov), none⟩])))
     (.cond (.t 35)
      (.seq (.draw [(⟨(some 51), [.t 1], .p (.mov), none⟩, 0),
        (⟨(some 52), [.c (.ptr (some (g_ErrVarint, 0)))], .r (.load none), none⟩, 0),
        (⟨(some 53), [.t 51, .t 52], .p (.build [(.int .i64 0), .nilIface] [(0, 1), (1, 1)]), none⟩, 0),
        (⟨(some 54), [.t 53], .n (.box), none⟩, 0),
        (⟨(some 55), [.t 54], .p (.mkI t_p_api_At), none⟩, 0),
        (⟨(some 4), [.c (.int .u64 0)], .p (.mov), none⟩, 0),
        (⟨(some 5), [.c (.int .i64 0)], .p (.mov), none⟩, 0),
        (⟨(some 6), [.t 55], .p (.mov), none⟩, 0)])
      (.ret))
      (.skip))))
    (.seq (.ops [⟨(some 56), [.t 7], .p (.mov), none⟩,
      ⟨(some 57), [.t 9], .p (.mov), none⟩,
      ⟨(some 58), [.t 57, .c (.int .u8 128)], .p (.bin .andNot), none⟩,
      ⟨(some 59), [.t 58], .p (.conv .u64), none⟩,
      ⟨(some 60), [.t 8], .p (.mov), none⟩,
      ⟨(some 61), [.c (.int .i64 7), .t 60], .p (.bin .mul), none⟩,
      ⟨(some 62), [.t 59, .t 61], .p (.bin .shl), none⟩,
      ⟨(some 63), [.t 56, .t 62], .p (.bin .or), none⟩,
      ⟨(some 7), [.t 63], .p (.mov), none⟩])
    (.seq (.ops [⟨(some 64), [.t 10], .p (.mov), none⟩])
    (.cond (.t 64)
     (.seq (.ops [⟨(some 65), [.t 7], .p (.mov), none⟩,
       ⟨(some 66), [.t 1], .p (.mov), none⟩,
       ⟨(some 67), [.t 8], .p (.mov), none⟩,
       ⟨(some 68), [.t 66, .t 67], .p (.bin .add), none⟩,
       ⟨(some 69), [.t 68, .c (.int .i64 1)], .p (.bin .add), none⟩,
       ⟨(some 4), [.t 65], .p (.mov), none⟩,
       ⟨(some 5), [.t 69], .p (.mov), none⟩,
       ⟨(some 6), [.c .nilIface], .p (.mov), none⟩])
     (.ret))
     (.skip))))))))
   (.ops [⟨(some 70), [.t 28, .c (.int .i64 1)], .p (.bin .add), none⟩,
     ⟨(some 28), [.t 70], .p (.mov), none⟩])))
def c_wire_Get : AC :=
 .seq (.ops [⟨(some 4), [.c (.int .u64 0)], .p (.mov), none⟩,
   ⟨(some 5), [.c (.int .i64 0)], .p (.mov), none⟩,
   ⟨(some 6), [.c .nilIface], .p (.mov), none⟩])
 (.seq (.seq (.ops [⟨(some 11), [.t 1], .p (.mov), none⟩,
   ⟨(some 12), [.t 11, .c (.int .i64 0)], .p (.bin .lss), none⟩,
   ⟨(some 13), [.t 12], .p (.mov), none⟩,
   ⟨(some 14), [.t 1], .p (.mov), some (13, false)⟩,
   ⟨(some 15), [.t 0], .p (.mov), some (13, false)⟩,
   ⟨(some 16), [.t 15], .p (.lenSl), some (13, false)⟩,
   ⟨(some 17), [.t 14, .t 16], .p (.bin .gtr), some (13, false)⟩,
   ⟨(some 18), [.t 13, .c (.bool true), .t 17], .p (.pick), none⟩])
 (.cond (.t 18)
  (.seq (.draw [(⟨(some 19), [.t 1], .p (.mov), none⟩, 0),
    (⟨(some 20), [.c (.ptr (some (g_ErrShort, 0)))], .r (.load none), none⟩, 0),
    (⟨(some 21), [.t 19, .t 20], .p (.build [(.int .i64 0), .nilIface] [(0, 1), (1, 1)]), none⟩, 0),
    (⟨(some 22), [.t 21], .n (.box), none⟩, 0),
    (⟨(some 23), [.t 22], .p (.mkI t_p_api_At), none⟩, 0),
    (⟨(some 4), [.c (.int .u64 0)], .p (.mov), none⟩, 0),
    (⟨(some 5), [.c (.int .i64 0)], .p (.mov), none⟩, 0),
    (⟨(some 6), [.t 23], .p (.mov), none⟩, 0)])
  (.ret))
  (.skip)))
 (.seq (.ops [⟨(some 7), [.c (.int .u64 0)], .p (.mov), none⟩])
 (.seq (.seq (.ops [⟨(some 24), [.t 0], .p (.mov), none⟩,
   ⟨(some 25), [.t 1], .p (.mov), none⟩,
   ⟨(some 26), [.t 24, .t 25], .p (.slSl 1 true false), none⟩,
   ⟨(some 27), [.t 26], .p (.lenSl), none⟩,
   ⟨(some 28), [.c (.int .i64 0)], .p (.mov), none⟩])
 (.block 0
  (.loop c_wire_Get_l0)))
 (.seq (.draw [(⟨(some 71), [.t 1], .p (.mov), none⟩, 0),
   (⟨(some 72), [.c (.ptr (some (g_ErrShort, 0)))], .r (.load none), none⟩, 0),
   (⟨(some 73), [.t 71, .t 72], .p (.build [(.int .i64 0), .nilIface] [(0, 1), (1, 1)]), none⟩, 0),
   (⟨(some 74), [.t 73], .n (.box), none⟩, 0),
   (⟨(some 75), [.t 74], .p (.mkI t_p_api_At), none⟩, 0),
   (⟨(some 4), [.c (.int .u64 0)], .p (.mov), none⟩, 0),
   (⟨(some 5), [.c (.int .i64 0)], .p (.mov), none⟩, 0),
   (⟨(some 6), [.t 75], .p (.mov), none⟩, 0)])
 (.ret)))))
def r_wire_Get : List ARes := [.tmp 4, .tmp 5, .tmp 6]
def F_wire_Get : AFunc := .code c_wire_Get r_wire_Get
/- glyphicref.SameBytes -/
def c_glyphicref_SameBytes_l0 : AC :=
 .seq (.seq (.ops [⟨(some 12), [.t 5], .p (.mov), none⟩,
     ⟨(some 13), [.t 0], .p (.mov), none⟩,
     ⟨(some 14), [.t 13], .p (.lenSl), none⟩,
     ⟨(some 15), [.t 12, .t 14], .p (.bin .lss), none⟩])
   (.cond (.t 15)
    (.skip)
    (.exit 0)))
   (.seq (.block 1
    (.seq (.draw [(⟨(some 18), [.t 0], .p (.mov), none⟩, 0),
      (⟨(some 19), [.t 5], .p (.mov), none⟩, 0),
      (⟨(some 20), [.t 18, .t 19], .p (.iAddrS 1), none⟩, 0),
      (⟨(some 21), [.t 20], .r (.load none), none⟩, 0),
      (⟨(some 22), [.t 1], .p (.mov), none⟩, 0),
      (⟨(some 23), [.t 5], .p (.mov), none⟩, 0),
      (⟨(some 24), [.t 22, .t 23], .p (.iAddrS 1), none⟩, 0),
      (⟨(some 25), [.t 24], .r (.load none), none⟩, 0),
      (⟨(some 26), [.t 21, .t 25], .p (.bin .eql), none⟩, 0),
      (⟨(some 6), [.t 26], .p (.mov), none⟩, 0)])
    (.seq (.ops [⟨(some 27), [.t 6], .p (.mov), none⟩,
      ⟨(some 28), [.t 27], .p (.un .not), none⟩])
    (.cond (.t 28)
     (.seq (.ops [⟨(some 4), [.c (.bool false)], .p (.mov), none⟩])
     (.ret))
     (.skip)))))
   (.ops [⟨(some 16), [.t 5], .p (.mov), none⟩,
     ⟨(some 17), [.t 16, .c (.int .i64 1)], .p (.bin .add), none⟩,
     ⟨(some 5), [.t 17], .p (.mov), none⟩]))
def c_glyphicref_SameBytes : AC :=
 .seq (.ops [⟨(some 4), [.c (.bool false)], .p (.mov), none⟩])
 (.seq (.seq (.ops [⟨(some 7), [.t 0], .p (.mov), none⟩,
   ⟨(some 8), [.t 7], .p (.lenSl), none⟩,
   ⟨(some 9), [.t 1], .p (.mov), none⟩,
   ⟨(some 10), [.t 9], .p (.lenSl), none⟩,
   ⟨(some 11), [.t 8, .t 10], .p (.bin .neq), none⟩])
 (.cond (.t 11)
  (.seq (.ops [⟨(some 4), [.c (.bool false)], .p (.mov), none⟩])
  (.ret))
  (.skip)))
 (.seq (.seq (.ops [⟨(some 5), [.c (.int .i64 0)], .p (.mov), none⟩])
 (.block 0
  (.loop c_glyphicref_SameBytes_l0)))
 (.seq (.ops [⟨(some 4), [.c (.bool true)], .p (.mov), none⟩])
 (.ret))))
def r_glyphicref_SameBytes : List ARes := [.tmp 4]
def F_glyphicref_SameBytes : AFunc := .code c_glyphicref_SameBytes r_glyphicref_SameBytes
/- wire.Put -/
def c_wire_Put_l0 : AC :=
 .seq (.seq (.ops [⟨(some 7), [.t 1], .p (.mov), none⟩,
     ⟨(some 8), [.t 7, .c (.int .u64 128)], .p (.bin .geq), none⟩])
   (.cond (.t 8)
    (.skip)
    (.exit 0)))
   (.block 1
    (.seq (.ops [⟨(some 9), [.t 0], .p (.mov), none⟩,
      ⟨(some 10), [.t 1], .p (.mov), none⟩,
      ⟨(some 11), [.t 10], .p (.conv .u8), none⟩,
      ⟨(some 12), [.t 11, .c (.int .u8 128)], .p (.bin .or), none⟩,
      ⟨(some 13), [.t 12], .n (.bslice 1 [(.int .u8 0)] [(0, 1)]), none⟩,
      ⟨(some 14), [.t 9, .t 13], .w (.append 1 1), none⟩,
      ⟨(some 0), [.t 14], .p (.mov), none⟩])
    (.ops [⟨(some 15), [.t 1], .p (.mov), none⟩,
      ⟨(some 16), [.t 15, .c (.int .u64 7)], .p (.bin .shr), none⟩,
      ⟨(some 1), [.t 16], .p (.mov), none⟩])))
def c_wire_Put : AC :=
 .seq (.ops [⟨(some 4), [.c (.slice none 0 (.exact 0))], .p (.mov), none⟩])
 (.seq (.ops [⟨(some 5), [.t 0], .p (.mov), none⟩,
   ⟨(some 6), [.t 5], .w (.callF f_slices_Clone__byte_byte), none⟩,
   ⟨(some 0), [.t 6], .p (.mov), none⟩])
 (.seq (.block 0
  (.loop c_wire_Put_l0))
 (.seq (.ops [⟨(some 17), [.t 0], .p (.mov), none⟩,
   ⟨(some 18), [.t 1], .p (.mov), none⟩,
   ⟨(some 19), [.t 18], .p (.conv .u8), none⟩,
   ⟨(some 20), [.t 19], .n (.bslice 1 [(.int .u8 0)] [(0, 1)]), none⟩,
   ⟨(some 21), [.t 17, .t 20], .w (.append 1 1), none⟩,
   ⟨(some 4), [.t 21], .p (.mov), none⟩])
 (.ret))))
def r_wire_Put : List ARes := [.tmp 4]
def F_wire_Put : AFunc := .code c_wire_Put r_wire_Put
/- glyphicsee.Same -/
def c_glyphicsee_Same : AC :=
 .seq (.ops [⟨(some 3), [.t 1], .n (.box), none⟩,
   ⟨(some 4), [.c (.bool false)], .p (.mov), none⟩])
 (.seq (.draw [(⟨(some 5), [.t 0], .p (.mov), none⟩, 0),
   (⟨(some 6), [.t 5], .w (.callF f_glyphicsee_Fault), none⟩, 0),
   (⟨(some 7), [.t 3], .r (.load (some 3)), none⟩, 1),
   (⟨(some 8), [.t 6, .t 7], .w (.callF f_glyphicref_SameFault), none⟩, 0),
   (⟨(some 4), [.t 8], .p (.mov), none⟩, 0)])
 (.ret))
def r_glyphicsee_Same : List ARes := [.tmp 4]
def F_glyphicsee_Same : AFunc := .code c_glyphicsee_Same r_glyphicsee_Same
/- glyphicref.Placed -/
def c_glyphicref_Placed : AC :=
 .seq (.ops [⟨(some 4), [], .n (.alloc [(.int .i64 0), (.bool false), (.int .i64 0)]), none⟩])
 (.seq (.seq (.ops [⟨(some 5), [.t 0], .p (.mov), none⟩,
   ⟨(some 6), [.t 5, .c (.int .i64 0)], .p (.bin .eql), none⟩])
 (.cond (.t 6)
  (.seq (.ops [⟨(some 7), [], .w (.callF f_glyphicref_None), none⟩,
    ⟨none, [.t 4, .t 7], .w (.store 3), none⟩])
  (.ret))
  (.skip)))
 (.seq (.ops [⟨(some 8), [.t 0], .p (.mov), none⟩,
   ⟨(some 9), [.t 1], .p (.mov), none⟩,
   ⟨(some 10), [.t 8, .c (.bool true), .t 9], .p (.build [(.int .i64 0), (.bool false), (.int .i64 0)] [(0, 1), (1, 1), (2, 1)]), none⟩,
   ⟨none, [.t 4, .t 10], .w (.store 3), none⟩])
 (.ret)))
def r_glyphicref_Placed : List ARes := [.cell 4 (some 3)]
def F_glyphicref_Placed : AFunc := .code c_glyphicref_Placed r_glyphicref_Placed
/- wire.Size -/
def c_wire_Size : AC :=
 .seq (.ops [⟨(some 2), [.c (.int .i64 0)], .p (.mov), none⟩])
 (.seq (.ops [⟨(some 3), [.t 0], .p (.mov), none⟩,
   ⟨(some 4), [.c (.slice none 0 (.exact 0)), .t 3], .w (.callF f_wire_Put), none⟩,
   ⟨(some 5), [.t 4], .p (.lenSl), none⟩,
   ⟨(some 2), [.t 5], .p (.mov), none⟩])
 (.ret))
def r_wire_Size : List ARes := [.tmp 2]
def F_wire_Size : AFunc := .code c_wire_Size r_wire_Size
/- wire.Zag -/
def c_wire_Zag : AC :=
 .seq (.ops [⟨(some 2), [.c (.int .i64 0)], .p (.mov), none⟩])
 (.seq (.ops [⟨(some 3), [.t 0], .p (.mov), none⟩,
   ⟨(some 4), [.t 3, .c (.int .u64 1)], .p (.bin .shr), none⟩,
   ⟨(some 5), [.t 4], .p (.conv .i64), none⟩,
   ⟨(some 6), [.t 0], .p (.mov), none⟩,
   ⟨(some 7), [.t 6, .c (.int .u64 1)], .p (.bin .and), none⟩,
   ⟨(some 8), [.t 7], .p (.conv .i64), none⟩,
   ⟨(some 9), [.t 8], .p (.un .neg), none⟩,
   ⟨(some 10), [.t 5, .t 9], .p (.bin .xor), none⟩,
   ⟨(some 2), [.t 10], .p (.mov), none⟩])
 (.ret))
def r_wire_Zag : List ARes := [.tmp 2]
def F_wire_Zag : AFunc := .code c_wire_Zag r_wire_Zag
/- wire.Zig -/
def c_wire_Zig : AC :=
 .seq (.ops [⟨(some 2), [.c (.int .u64 0)], .p (.mov), none⟩])
 (.seq (.ops [⟨(some 3), [.t 0], .p (.mov), none⟩,
   ⟨(some 4), [.t 3], .p (.conv .u64), none⟩,
   ⟨(some 5), [.t 4, .c (.int .u64 1)], .p (.bin .shl), none⟩,
   ⟨(some 6), [.t 0], .p (.mov), none⟩,
   ⟨(some 7), [.t 6, .c (.int .u64 63)], .p (.bin .shr), none⟩,
   ⟨(some 8), [.t 7], .p (.conv .u64), none⟩,
   ⟨(some 9), [.t 5, .t 8], .p (.bin .xor), none⟩,
   ⟨(some 2), [.t 9], .p (.mov), none⟩])
 (.ret))
def r_wire_Zig : List ARes := [.tmp 2]
def F_wire_Zig : AFunc := .code c_wire_Zig r_wire_Zig
/- glyphicref.None -/
def c_glyphicref_None : AC :=
 .seq (.ops [⟨(some 0), [], .n (.alloc [(.int .i64 0), (.bool false), (.int .i64 0)]), none⟩])
 (.seq (.ops [⟨(some 1), [], .p (.build [(.int .i64 0), (.bool false), (.int .i64 0)] []), none⟩,
   ⟨none, [.t 0, .t 1], .w (.store 3), none⟩])
 (.ret))
def r_glyphicref_None : List ARes := [.cell 0 (some 3)]
def F_glyphicref_None : AFunc := .code c_glyphicref_None r_glyphicref_None
/- glyphicref.SameFault -/
def c_glyphicref_SameFault : AC :=
 .seq (.ops [⟨(some 2), [.t 0], .n (.box), none⟩,
   ⟨(some 3), [.t 1], .n (.box), none⟩,
   ⟨(some 4), [.c (.bool false)], .p (.mov), none⟩])
 (.seq (.ops [⟨(some 5), [.t 2], .p (.fAddr 0), none⟩,
   ⟨(some 6), [.t 5], .r (.load none), none⟩,
   ⟨(some 7), [.t 3], .p (.fAddr 0), none⟩,
   ⟨(some 8), [.t 7], .r (.load none), none⟩,
   ⟨(some 9), [.t 6, .t 8], .p (.bin .eql), none⟩,
   ⟨(some 10), [.t 9], .p (.mov), none⟩,
   ⟨(some 11), [.t 2], .p (.fAddr 1), some (10, true)⟩,
   ⟨(some 12), [.t 11], .r (.load none), some (10, true)⟩,
   ⟨(some 13), [.t 3], .p (.fAddr 1), some (10, true)⟩,
   ⟨(some 14), [.t 13], .r (.load none), some (10, true)⟩,
   ⟨(some 15), [.t 12, .t 14], .r (.eq false .bool), some (10, true)⟩,
   ⟨(some 16), [.t 10, .t 15, .c (.bool false)], .p (.pick), none⟩,
   ⟨(some 17), [.t 16], .p (.mov), none⟩,
   ⟨(some 18), [.t 2], .p (.fAddr 2), some (17, true)⟩,
   ⟨(some 19), [.t 18], .r (.load none), some (17, true)⟩,
   ⟨(some 20), [.t 3], .p (.fAddr 2), some (17, true)⟩,
   ⟨(some 21), [.t 20], .r (.load none), some (17, true)⟩,
   ⟨(some 22), [.t 19, .t 21], .p (.bin .eql), some (17, true)⟩,
   ⟨(some 23), [.t 17, .t 22, .c (.bool false)], .p (.pick), none⟩,
   ⟨(some 4), [.t 23], .p (.mov), none⟩])
 (.ret))
def r_glyphicref_SameFault : List ARes := [.tmp 4]
def F_glyphicref_SameFault : AFunc := .code c_glyphicref_SameFault r_glyphicref_SameFault
/- glyphicref.Bare -/
def c_glyphicref_Bare : AC :=
 .seq (.ops [⟨(some 2), [], .n (.alloc [(.int .i64 0), (.bool false), (.int .i64 0)]), none⟩])
 (.seq (.ops [⟨(some 3), [.t 0], .p (.mov), none⟩,
   ⟨(some 4), [.t 3], .p (.build [(.int .i64 0), (.bool false), (.int .i64 0)] [(0, 1)]), none⟩,
   ⟨none, [.t 2, .t 4], .w (.store 3), none⟩])
 (.ret))
def r_glyphicref_Bare : List ARes := [.cell 2 (some 3)]
def F_glyphicref_Bare : AFunc := .code c_glyphicref_Bare r_glyphicref_Bare
/- slices.Clone[[]byte,byte] -/
def c_slices_Clone__byte_byte : AC :=
 .seq (.ops [⟨(some 2), [.c (.slice none 0 (.exact 0))], .p (.mov), none⟩])
 (.seq (.seq (.ops [⟨(some 3), [.t 0], .p (.mov), none⟩,
   ⟨(some 4), [.t 3, .c (.slice none 0 (.exact 0))], .r (.eq false .nilS), none⟩])
 (.cond (.t 4)
  (.seq (.ops [⟨(some 2), [.c (.slice none 0 (.exact 0))], .p (.mov), none⟩])
  (.ret))
  (.skip)))
 (.seq (.ops [⟨(some 5), [], .n (.bslice 0 [] []), none⟩,
   ⟨(some 6), [.t 0], .p (.mov), none⟩,
   ⟨(some 7), [.t 5, .t 6], .w (.append 1 1), none⟩,
   ⟨(some 2), [.t 7], .p (.mov), none⟩])
 (.ret)))
def r_slices_Clone__byte_byte : List ARes := [.tmp 2]
def F_slices_Clone__byte_byte : AFunc := .code c_slices_Clone__byte_byte r_slices_Clone__byte_byte
/- glyphicsee.Fault -/
def c_glyphicsee_Fault : AC :=
 .seq (.ops [⟨(some 2), [], .n (.alloc [(.int .i64 0), (.bool false), (.int .i64 0)]), none⟩])
 (.seq (.seq (.ops [⟨(some 5), [.t 0], .p (.mov), none⟩,
   ⟨(some 6), [.t 5, .c .nilIface], .r (.eq false (.iface [t_p_api_At, t_p_errors_errorString] true)), none⟩])
 (.cond (.t 6)
  (.seq (.ops [⟨(some 7), [], .w (.callF f_glyphicref_None), none⟩,
    ⟨none, [.t 2, .t 7], .w (.store 3), none⟩])
  (.ret))
  (.skip)))
 (.seq (.ops [⟨(some 9), [.t 0], .p (.mov), none⟩,
   ⟨(some 10), [.t 9], .p (.tAss t_p_api_At true (.ptr none)), none⟩,
   ⟨(some 8), [.t 10], .p (.mov), none⟩,
   ⟨(some 11), [.t 8], .p (.ext 0), none⟩,
   ⟨(some 12), [.t 8], .p (.ext 1), none⟩,
   ⟨(some 3), [.t 11], .p (.mov), none⟩,
   ⟨(some 4), [.t 12], .p (.mov), none⟩])
 (.seq (.seq (.ops [⟨(some 13), [.t 4], .p (.mov), none⟩,
   ⟨(some 14), [.t 13], .p (.un .not), none⟩])
 (.cond (.t 14)
  (.seq (.ops [⟨(some 15), [.t 0], .p (.mov), none⟩,
    ⟨(some 16), [.t 15], .w (.callF f_glyphicsee_sentinel), none⟩,
    ⟨(some 17), [.t 16], .w (.callF f_glyphicref_Bare), none⟩,
    ⟨none, [.t 2, .t 17], .w (.store 3), none⟩])
  (.ret))
  (.skip)))
 (.seq (.seq (.ops [⟨(some 18), [.t 3], .p (.mov), none⟩,
   ⟨(some 19), [.t 18, .c (.ptr none)], .r (.eq false .ptr), none⟩,
   ⟨(some 20), [.t 19], .p (.mov), none⟩,
   ⟨(some 21), [.t 3], .p (.mov), some (20, false)⟩,
   ⟨(some 22), [.t 21], .p (.nilChk), some (20, false)⟩,
   ⟨(some 23), [.t 22], .p (.fAddr 1), some (20, false)⟩,
   ⟨(some 24), [.t 23], .r (.load none), some (20, false)⟩,
   ⟨(some 25), [.t 24, .c .nilIface], .r (.eq false (.iface [t_p_api_At, t_p_errors_errorString] true)), some (20, false)⟩,
   ⟨(some 26), [.t 20, .c (.bool true), .t 25], .p (.pick), none⟩])
 (.cond (.t 26)
  (.seq (.ops [⟨(some 27), [.c (.int .i64 (-1))], .w (.callF f_glyphicref_Bare), none⟩,
    ⟨none, [.t 2, .t 27], .w (.store 3), none⟩])
  (.ret))
  (.skip)))
 (.seq (.draw [(⟨(some 28), [.t 3], .p (.mov), none⟩, 0),
   (⟨(some 29), [.t 28], .p (.nilChk), none⟩, 0),
   (⟨(some 30), [.t 29], .p (.fAddr 1), none⟩, 0),
   (⟨(some 31), [.t 30], .r (.load none), none⟩, 0),
   (⟨(some 32), [.t 31], .w (.callF f_glyphicsee_sentinel), none⟩, 0),
   (⟨(some 33), [.t 3], .p (.mov), none⟩, 0),
   (⟨(some 34), [.t 33], .p (.nilChk), none⟩, 0),
   (⟨(some 35), [.t 34], .p (.fAddr 0), none⟩, 0),
   (⟨(some 36), [.t 35], .r (.load none), none⟩, 1),
   (⟨(some 37), [.t 32, .t 36], .w (.callF f_glyphicref_Placed), none⟩, 0),
   (⟨none, [.t 2, .t 37], .w (.store 3), none⟩, 0)])
 (.ret))))))
def r_glyphicsee_Fault : List ARes := [.cell 2 (some 3)]
def F_glyphicsee_Fault : AFunc := .code c_glyphicsee_Fault r_glyphicsee_Fault
/- glyphicsee.sentinel -/
def c_glyphicsee_sentinel_l0 : AC :=
 .seq (.seq (.ops [⟨(some 6), [.t 4], .p (.mov), none⟩,
     ⟨(some 7), [.t 3], .p (.mov), none⟩,
     ⟨(some 8), [.t 7], .p (.lenSl), none⟩,
     ⟨(some 9), [.t 6, .t 8], .p (.bin .lss), none⟩])
   (.cond (.t 9)
    (.skip)
    (.exit 0)))
   (.seq (.block 1
    (.seq (.ops [⟨(some 12), [.t 0], .p (.mov), none⟩,
      ⟨(some 13), [.t 3], .p (.mov), none⟩,
      ⟨(some 14), [.t 4], .p (.mov), none⟩,
      ⟨(some 15), [.t 13, .t 14], .p (.iAddrS 1), none⟩,
      ⟨(some 16), [.t 15], .r (.load none), none⟩,
      ⟨(some 17), [.t 12, .t 16], .w (.callF f_glyphicsee_Alike), none⟩])
    (.cond (.t 17)
     (.seq (.ops [⟨(some 18), [.t 4], .p (.mov), none⟩,
       ⟨(some 19), [.c (.int .i64 101), .t 18], .p (.bin .add), none⟩,
       ⟨(some 2), [.t 19], .p (.mov), none⟩])
     (.ret))
     (.skip))))
   (.ops [⟨(some 10), [.t 4], .p (.mov), none⟩,
     ⟨(some 11), [.t 10, .c (.int .i64 1)], .p (.bin .add), none⟩,
     ⟨(some 4), [.t 11], .p (.mov), none⟩]))
def c_glyphicsee_sentinel : AC :=
 .seq (.ops [⟨(some 2), [.c (.int .i64 0)], .p (.mov), none⟩])
 (.seq (.ops [⟨(some 5), [], .w (.callF f_glyphicsee_sentinels), none⟩,
   ⟨(some 3), [.t 5], .p (.mov), none⟩])
 (.seq (.seq (.ops [⟨(some 4), [.c (.int .i64 0)], .p (.mov), none⟩])
 (.block 0
  (.loop c_glyphicsee_sentinel_l0)))
 (.seq (.ops [⟨(some 2), [.c (.int .i64 (-1))], .p (.mov), none⟩])
 (.ret))))
def r_glyphicsee_sentinel : List ARes := [.tmp 2]
def F_glyphicsee_sentinel : AFunc := .code c_glyphicsee_sentinel r_glyphicsee_sentinel
/- glyphicsee.sentinels -/
def c_glyphicsee_sentinels : AC :=
 .seq (.ops [⟨(some 0), [.c (.slice none 0 (.exact 0))], .p (.mov), none⟩])
 (.seq (.ops [⟨(some 1), [.c (.ptr (some (g_ErrText, 0)))], .r (.load none), none⟩,
   ⟨(some 2), [.c (.ptr (some (g_ErrName, 0)))], .r (.load none), none⟩,
   ⟨(some 3), [.c (.ptr (some (g_ErrTwice, 0)))], .r (.load none), none⟩,
   ⟨(some 4), [.c (.ptr (some (g_ErrPath, 0)))], .r (.load none), none⟩,
   ⟨(some 5), [.c (.ptr (some (g_ErrRange, 0)))], .r (.load none), none⟩,
   ⟨(some 6), [.c (.ptr (some (g_ErrLimit, 0)))], .r (.load none), none⟩,
   ⟨(some 7), [.c (.ptr (some (g_ErrShort, 0)))], .r (.load none), none⟩,
   ⟨(some 8), [.c (.ptr (some (g_ErrMagic, 0)))], .r (.load none), none⟩,
   ⟨(some 9), [.c (.ptr (some (g_ErrVarint, 0)))], .r (.load none), none⟩,
   ⟨(some 10), [.c (.ptr (some (g_ErrCanon, 0)))], .r (.load none), none⟩,
   ⟨(some 11), [.c (.ptr (some (g_ErrTrail, 0)))], .r (.load none), none⟩,
   ⟨(some 12), [.c (.ptr (some (g_ErrWidth, 0)))], .r (.load none), none⟩,
   ⟨(some 13), [.c (.ptr (some (g_ErrBudget, 0)))], .r (.load none), none⟩,
   ⟨(some 14), [.t 1, .t 2, .t 3, .t 4, .t 5, .t 6, .t 7, .t 8, .t 9, .t 10, .t 11, .t 12, .t 13], .n (.bslice 13 [.nilIface, .nilIface, .nilIface, .nilIface, .nilIface, .nilIface, .nilIface, .nilIface, .nilIface, .nilIface, .nilIface, .nilIface, .nilIface] [(0, 1), (1, 1), (2, 1), (3, 1), (4, 1), (5, 1), (6, 1), (7, 1), (8, 1), (9, 1), (10, 1), (11, 1), (12, 1)]), none⟩,
   ⟨(some 0), [.t 14], .p (.mov), none⟩])
 (.ret))
def r_glyphicsee_sentinels : List ARes := [.tmp 0]
def F_glyphicsee_sentinels : AFunc := .code c_glyphicsee_sentinels r_glyphicsee_sentinels
/- glyphicsee.Alike -/
def c_glyphicsee_Alike : AC :=
 .seq (.ops [⟨(some 4), [.c (.bool false)], .p (.mov), none⟩])
 (.seq (.seq (.ops [⟨(some 5), [.t 0], .p (.mov), none⟩,
   ⟨(some 6), [.t 5, .c .nilIface], .r (.eq false (.iface [t_p_api_At, t_p_errors_errorString] true)), none⟩,
   ⟨(some 7), [.t 6], .p (.mov), none⟩,
   ⟨(some 8), [.t 1], .p (.mov), some (7, false)⟩,
   ⟨(some 9), [.t 8, .c .nilIface], .r (.eq false (.iface [t_p_api_At, t_p_errors_errorString] true)), some (7, false)⟩,
   ⟨(some 10), [.t 7, .c (.bool true), .t 9], .p (.pick), none⟩])
 (.cond (.t 10)
  (.seq (.ops [⟨(some 11), [.t 0], .p (.mov), none⟩,
    ⟨(some 12), [.t 11, .c .nilIface], .r (.eq false (.iface [t_p_api_At, t_p_errors_errorString] true)), none⟩,
    ⟨(some 13), [.t 12], .p (.mov), none⟩,
    ⟨(some 14), [.t 1], .p (.mov), some (13, true)⟩,
    ⟨(some 15), [.t 14, .c .nilIface], .r (.eq false (.iface [t_p_api_At, t_p_errors_errorString] true)), some (13, true)⟩,
    ⟨(some 16), [.t 13, .t 15, .c (.bool false)], .p (.pick), none⟩,
    ⟨(some 4), [.t 16], .p (.mov), none⟩])
  (.ret))
  (.skip)))
 (.seq (.ops [⟨(some 17), [.t 0], .p (.mov), none⟩,
   ⟨(some 18), [.t 1], .p (.mov), none⟩,
   ⟨(some 19), [.t 17, .t 18], .r (.eq false (.iface [t_p_api_At, t_p_errors_errorString] false)), none⟩,
   ⟨(some 4), [.t 19], .p (.mov), none⟩])
 (.ret)))
def r_glyphicsee_Alike : List ARes := [.tmp 4]
def F_glyphicsee_Alike : AFunc := .code c_glyphicsee_Alike r_glyphicsee_Alike
def cfg : Cfg := ⟨[(0, 0), (3, 2), (4, 4), (6, 6), (7, 8), (8, 10), (1, 12), (9, 14), (2, 16), (10, 18), (11, 20), (12, 22), (13, 24)], [t_p_api_At, t_p_errors_errorString]⟩
def envL : List (Nat × AFunc) := [(f_glyphiclaw2_WireBack, F_glyphiclaw2_WireBack), (f_glyphicsee_Is, F_glyphicsee_Is), (f_glyphiclaw2_first, F_glyphiclaw2_first), (f_wire_Get, F_wire_Get), (f_glyphicref_SameBytes, F_glyphicref_SameBytes), (f_wire_Put, F_wire_Put), (f_glyphicsee_Same, F_glyphicsee_Same), (f_glyphicref_Placed, F_glyphicref_Placed), (f_wire_Size, F_wire_Size), (f_wire_Zag, F_wire_Zag), (f_wire_Zig, F_wire_Zig), (f_glyphicref_None, F_glyphicref_None), (f_glyphicref_SameFault, F_glyphicref_SameFault), (f_glyphicref_Bare, F_glyphicref_Bare), (f_slices_Clone__byte_byte, F_slices_Clone__byte_byte), (f_glyphicsee_Fault, F_glyphicsee_Fault), (f_glyphicsee_sentinel, F_glyphicsee_sentinel), (f_glyphicsee_sentinels, F_glyphicsee_sentinels), (f_glyphicsee_Alike, F_glyphicsee_Alike)]
theorem E_glyphiclaw2_WireBack : lookE envL f_glyphiclaw2_WireBack = some F_glyphiclaw2_WireBack := rfl
theorem E_glyphicsee_Is : lookE envL f_glyphicsee_Is = some F_glyphicsee_Is := rfl
theorem E_glyphiclaw2_first : lookE envL f_glyphiclaw2_first = some F_glyphiclaw2_first := rfl
theorem E_wire_Get : lookE envL f_wire_Get = some F_wire_Get := rfl
theorem E_glyphicref_SameBytes : lookE envL f_glyphicref_SameBytes = some F_glyphicref_SameBytes := rfl
theorem E_wire_Put : lookE envL f_wire_Put = some F_wire_Put := rfl
theorem E_glyphicsee_Same : lookE envL f_glyphicsee_Same = some F_glyphicsee_Same := rfl
theorem E_glyphicref_Placed : lookE envL f_glyphicref_Placed = some F_glyphicref_Placed := rfl
theorem E_wire_Size : lookE envL f_wire_Size = some F_wire_Size := rfl
theorem E_wire_Zag : lookE envL f_wire_Zag = some F_wire_Zag := rfl
theorem E_wire_Zig : lookE envL f_wire_Zig = some F_wire_Zig := rfl
theorem E_glyphicref_None : lookE envL f_glyphicref_None = some F_glyphicref_None := rfl
theorem E_glyphicref_SameFault : lookE envL f_glyphicref_SameFault = some F_glyphicref_SameFault := rfl
theorem E_glyphicref_Bare : lookE envL f_glyphicref_Bare = some F_glyphicref_Bare := rfl
theorem E_slices_Clone__byte_byte : lookE envL f_slices_Clone__byte_byte = some F_slices_Clone__byte_byte := rfl
theorem E_glyphicsee_Fault : lookE envL f_glyphicsee_Fault = some F_glyphicsee_Fault := rfl
theorem E_glyphicsee_sentinel : lookE envL f_glyphicsee_sentinel = some F_glyphicsee_sentinel := rfl
theorem E_glyphicsee_sentinels : lookE envL f_glyphicsee_sentinels = some F_glyphicsee_sentinels := rfl
theorem E_glyphicsee_Alike : lookE envL f_glyphicsee_Alike = some F_glyphicsee_Alike := rfl
end Go.IR
