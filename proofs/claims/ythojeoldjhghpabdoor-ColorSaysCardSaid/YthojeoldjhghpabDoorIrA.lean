/- The functions that the seat's laws reach, as the fast run has them; under names that do not hang on the seat. By program (wip/pr2.py). -/
import Derived.Test.YthojeoldjhghpabDoorFrT
namespace Go.IR
set_option linter.unusedVariables false
set_option linter.unusedSimpArgs false
open Go Go.FR
abbrev f_glyphiclaw3_ColorSays : Nat := 5
abbrev f_glyphiclaw3_first : Nat := 11
abbrev f_color_Show : Nat := 12
abbrev f_color_Parse : Nat := 13
abbrev f_glyphicref_SameColor : Nat := 14
abbrev f_glyphicref1_ParseColor : Nat := 15
abbrev f_glyphicref1_ShowColor : Nat := 16
abbrev f_glyphicsee_Is : Nat := 17
abbrev f_color_Wide : Nat := 18
abbrev f_glyphicref1_Wide : Nat := 19
abbrev f_glyphicsee_Same : Nat := 24
abbrev f_glyphicref_Placed : Nat := 25
abbrev f_glyphicref_None : Nat := 34
abbrev f_glyphicref_SameFault : Nat := 36
abbrev f_strings_IndexByte : Nat := 38
abbrev f_glyphicref1_digit : Nat := 39
abbrev f_glyphicref1_hex : Nat := 40
abbrev f_glyphicref_Bare : Nat := 41
abbrev f_glyphicsee_Fault : Nat := 43
abbrev f_internal_stringslite_IndexByte : Nat := 49
abbrev f_glyphicsee_sentinel : Nat := 50
abbrev f_internal_bytealg_IndexByteString : Nat := 52
abbrev f_glyphicsee_sentinels : Nat := 53
abbrev f_glyphicsee_Alike : Nat := 54
abbrev t_p_api_At : Nat := 96
abbrev t_p_errors_errorString : Nat := 134
abbrev g_ErrText : Nat := 0
abbrev g_ErrName : Nat := 2
abbrev g_ErrTwice : Nat := 4
abbrev g_ErrPath : Nat := 6
abbrev g_ErrRange : Nat := 8
abbrev g_ErrLimit : Nat := 10
abbrev g_ErrShort : Nat := 12
abbrev g_ErrMagic : Nat := 14
abbrev g_ErrVarint : Nat := 16
abbrev g_ErrCanon : Nat := 18
abbrev g_ErrTrail : Nat := 20
abbrev g_ErrWidth : Nat := 22
abbrev g_ErrBudget : Nat := 24
/- glyphiclaw3.ColorSays -/
def c_glyphiclaw3_ColorSays : AC :=
 .seq (.ops [⟨(some 2), [.t 0], .n (.box), none⟩,
   ⟨(some 4), [.c (.bool false)], .p (.mov), none⟩])
 (.seq (.ops [⟨(some 11), [], .w (.callF f_glyphiclaw3_first), none⟩,
   ⟨(some 5), [.t 11], .p (.mov), none⟩])
 (.seq (.seq (.ops [⟨(some 12), [.t 5], .p (.mov), none⟩,
   ⟨(some 13), [.t 12], .p (.un .not), none⟩])
 (.cond (.t 13)
  (.seq (.ops [⟨(some 4), [.c (.bool false)], .p (.mov), none⟩])
  (.ret))
  (.skip)))
 (.seq (.seq (.ops [⟨(some 14), [.t 1], .p (.mov), none⟩,
   ⟨(some 15), [.t 14], .p (.lenStr), none⟩,
   ⟨(some 16), [.t 15, .c (.int .i64 30)], .p (.bin .gtr), none⟩])
 (.cond (.t 16)
  (.seq (.ops [⟨(some 17), [.t 5], .p (.mov), none⟩,
    ⟨(some 4), [.t 17], .p (.mov), none⟩])
  (.ret))
  (.skip)))
 (.seq (.ops [⟨(some 19), [.t 1], .p (.mov), none⟩,
   ⟨(some 20), [.t 19], .w (.callF f_color_Parse), none⟩,
   ⟨(some 18), [.t 20], .p (.mov), none⟩,
   ⟨(some 21), [.t 18], .p (.ext 0), none⟩,
   ⟨(some 22), [.t 18], .p (.ext 1), none⟩,
   ⟨(some 6), [], .n (.alloc [(.int .u8 0), (.int .u8 0), (.int .u8 0), (.int .u8 0)]), none⟩,
   ⟨none, [.t 6, .t 21], .w (.store 4), none⟩,
   ⟨(some 7), [.t 22], .p (.mov), none⟩])
 (.seq (.ops [⟨(some 24), [.t 1], .p (.mov), none⟩,
   ⟨(some 25), [.t 24], .w (.callF f_glyphicref1_ParseColor), none⟩,
   ⟨(some 23), [.t 25], .p (.mov), none⟩,
   ⟨(some 26), [.t 23], .p (.ext 0), none⟩,
   ⟨(some 27), [.t 23], .p (.ext 1), none⟩,
   ⟨(some 8), [], .n (.alloc [(.int .u8 0), (.int .u8 0), (.int .u8 0), (.int .u8 0)]), none⟩,
   ⟨none, [.t 8, .t 26], .w (.store 4), none⟩,
   ⟨(some 9), [.t 27], .p (.mov), none⟩])
 (.seq (.ops [⟨(some 10), [.c (.int .i64 0)], .p (.mov), none⟩])
 (.seq (.seq (.ops [⟨(some 28), [.t 9], .p (.mov), none⟩,
   ⟨(some 29), [.t 28], .p (.un .not), none⟩])
 (.cond (.t 29)
  (.ops [⟨(some 10), [.c (.int .i64 101)], .p (.mov), none⟩])
  (.skip)))
 (.seq (.draw [(⟨(some 30), [.t 5], .p (.mov), none⟩, 0),
   (⟨(some 31), [.t 30], .p (.mov), none⟩, 0),
   (⟨(some 32), [.t 2], .r (.load (some 4)), some (31, true)⟩, 0),
   (⟨(some 33), [.t 32], .w (.callF f_color_Show), some (31, true)⟩, 0),
   (⟨(some 34), [.t 2], .r (.load (some 4)), some (31, true)⟩, 1),
   (⟨(some 35), [.t 34], .w (.callF f_glyphicref1_ShowColor), some (31, true)⟩, 0),
   (⟨(some 36), [.t 33, .t 35], .p (.bin .eql), some (31, true)⟩, 0),
   (⟨(some 37), [.t 31, .t 36, .c (.bool false)], .p (.pick), none⟩, 0),
   (⟨(some 38), [.t 37], .p (.mov), none⟩, 0),
   (⟨(some 39), [.t 6], .r (.load (some 4)), some (38, true)⟩, 0),
   (⟨(some 40), [.t 8], .r (.load (some 4)), some (38, true)⟩, 0),
   (⟨(some 41), [.t 39, .t 40], .w (.callF f_glyphicref_SameColor), some (38, true)⟩, 0),
   (⟨(some 42), [.t 38, .t 41, .c (.bool false)], .p (.pick), none⟩, 0),
   (⟨(some 43), [.t 42], .p (.mov), none⟩, 0),
   (⟨(some 44), [.t 7], .p (.mov), some (43, true)⟩, 0),
   (⟨(some 45), [.t 10], .p (.mov), some (43, true)⟩, 0),
   (⟨(some 46), [.t 44, .t 45], .w (.callF f_glyphicsee_Is), some (43, true)⟩, 0),
   (⟨(some 47), [.t 43, .t 46, .c (.bool false)], .p (.pick), none⟩, 0),
   (⟨(some 48), [.t 47], .p (.mov), none⟩, 0),
   (⟨(some 49), [.t 2], .r (.load (some 4)), some (48, true)⟩, 0),
   (⟨(some 50), [.t 49], .w (.callF f_color_Wide), some (48, true)⟩, 0),
   (⟨(some 51), [.t 2], .r (.load (some 4)), some (48, true)⟩, 1),
   (⟨(some 52), [.t 51], .w (.callF f_glyphicref1_Wide), some (48, true)⟩, 0),
   (⟨(some 53), [.t 50, .t 52], .r (.eq false (.agg [(0, none, .int), (1, none, .int), (2, none, .int), (3, none, .int)])), some (48, true)⟩, 0),
   (⟨(some 54), [.t 48, .t 53, .c (.bool false)], .p (.pick), none⟩, 0),
   (⟨(some 4), [.t 54], .p (.mov), none⟩, 0)])
 (.ret)))))))))
def r_glyphiclaw3_ColorSays : List ARes := [.tmp 4]
def F_glyphiclaw3_ColorSays : AFunc := .code c_glyphiclaw3_ColorSays r_glyphiclaw3_ColorSays
/- glyphiclaw3.first -/
def c_glyphiclaw3_first : AC :=
 .seq (.ops [⟨(some 0), [.c (.bool false)], .p (.mov), none⟩])
 (.seq (.ops [⟨(some 1), [.c (.int .u8 255), .c (.int .u8 255)], .p (.build [(.int .u8 0), (.int .u8 0), (.int .u8 0), (.int .u8 0)] [(0, 1), (3, 1)]), none⟩,
   ⟨(some 2), [.t 1], .w (.callF f_color_Show), none⟩,
   ⟨(some 3), [.t 2, .c (.str [35, 102, 102, 48, 48, 48, 48])], .p (.bin .eql), none⟩,
   ⟨(some 0), [.t 3], .p (.mov), none⟩])
 (.ret))
def r_glyphiclaw3_first : List ARes := [.tmp 0]
def F_glyphiclaw3_first : AFunc := .code c_glyphiclaw3_first r_glyphiclaw3_first
/- color.Show -/
def c_color_Show_l0 : AC :=
 .seq (.ops [⟨(some 17), [.t 16, .c (.int .i64 4)], .p (.bin .lss), none⟩])
   (.seq (.cond (.t 17)
    (.skip)
    (.exit 0))
   (.seq (.block 1
    (.seq (.ops [⟨(some 18), [.t 16], .p (.mov), none⟩,
      ⟨(some 19), [.t 15, .t 16], .p (.idxArr 4 1 none), none⟩,
      ⟨(some 4), [.t 18], .p (.mov), none⟩,
      ⟨(some 5), [.t 19], .p (.mov), none⟩])
    (.seq (.ops [⟨(some 20), [.t 4], .p (.mov), none⟩,
      ⟨(some 21), [.t 20, .c (.int .i64 3)], .p (.bin .lss), none⟩,
      ⟨(some 22), [.t 21], .p (.mov), none⟩,
      ⟨(some 23), [.t 5], .p (.mov), some (22, false)⟩,
      ⟨(some 24), [.t 23, .c (.int .u8 255)], .p (.bin .neq), some (22, false)⟩,
      ⟨(some 25), [.t 22, .c (.bool true), .t 24], .p (.pick), none⟩])
    (.cond (.t 25)
     (.draw [(⟨(some 26), [.t 3], .p (.mov), none⟩, 0),
       (⟨(some 27), [.t 5], .p (.mov), none⟩, 0),
       (⟨(some 28), [.t 27, .c (.int .u64 4)], .p (.bin .shr), none⟩, 0),
       (⟨(some 29), [.c (.str [48, 49, 50, 51, 52, 53, 54, 55, 56, 57, 97, 98, 99, 100, 101, 102]), .t 28], .p (.idxStr), none⟩, 0),
       (⟨(some 30), [.t 5], .p (.mov), none⟩, 0),
       (⟨(some 31), [.t 30, .c (.int .u8 15)], .p (.bin .and), none⟩, 0),
       (⟨(some 32), [.c (.str [48, 49, 50, 51, 52, 53, 54, 55, 56, 57, 97, 98, 99, 100, 101, 102]), .t 31], .p (.idxStr), none⟩, 0),
       (⟨(some 33), [.t 29, .t 32], .n (.bslice 2 [(.int .u8 0), (.int .u8 0)] [(0, 1), (1, 1)]), none⟩, 0),
       (⟨(some 34), [.t 26, .t 33], .w (.append 1 1), none⟩, 0),
       (⟨(some 3), [.t 34], .p (.mov), none⟩, 0)])
     (.skip)))))
   (.ops [⟨(some 35), [.t 16, .c (.int .i64 1)], .p (.bin .add), none⟩,
     ⟨(some 16), [.t 35], .p (.mov), none⟩])))
def c_color_Show : AC :=
 .seq (.ops [⟨(some 1), [.t 0], .n (.box), none⟩,
   ⟨(some 2), [.c (.str [])], .p (.mov), none⟩])
 (.seq (.ops [⟨(some 6), [.c (.int .u8 35)], .n (.bslice 1 [(.int .u8 0)] [(0, 1)]), none⟩,
   ⟨(some 3), [.t 6], .p (.mov), none⟩])
 (.seq (.seq (.ops [⟨(some 7), [.t 1], .p (.fAddr 0), none⟩,
   ⟨(some 8), [.t 7], .r (.load none), none⟩,
   ⟨(some 9), [.t 1], .p (.fAddr 1), none⟩,
   ⟨(some 10), [.t 9], .r (.load none), none⟩,
   ⟨(some 11), [.t 1], .p (.fAddr 2), none⟩,
   ⟨(some 12), [.t 11], .r (.load none), none⟩,
   ⟨(some 13), [.t 1], .p (.fAddr 3), none⟩,
   ⟨(some 14), [.t 13], .r (.load none), none⟩,
   ⟨(some 15), [.t 8, .t 10, .t 12, .t 14], .p (.build [(.int .u8 0), (.int .u8 0), (.int .u8 0), (.int .u8 0)] [(0, 1), (1, 1), (2, 1), (3, 1)]), none⟩,
   ⟨(some 16), [.c (.int .i64 0)], .p (.mov), none⟩])
 (.block 0
  (.loop c_color_Show_l0)))
 (.seq (.ops [⟨(some 36), [.t 3], .p (.mov), none⟩,
   ⟨(some 37), [.t 36], .r (.b2s), none⟩,
   ⟨(some 2), [.t 37], .p (.mov), none⟩])
 (.ret))))
def r_color_Show : List ARes := [.tmp 2]
def F_color_Show : AFunc := .code c_color_Show r_color_Show
/- color.Parse -/
def c_color_Parse_l0 : AC :=
 .seq (.seq (.ops [⟨(some 23), [.t 5], .p (.mov), none⟩,
     ⟨(some 24), [.t 0], .p (.mov), none⟩,
     ⟨(some 25), [.t 24], .p (.lenStr), none⟩,
     ⟨(some 26), [.t 23, .t 25], .p (.bin .lss), none⟩])
   (.cond (.t 26)
    (.skip)
    (.exit 0)))
   (.seq (.block 1
    (.seq (.ops [⟨(some 29), [.t 0], .p (.mov), none⟩,
      ⟨(some 30), [.t 5], .p (.mov), none⟩,
      ⟨(some 31), [.t 29, .t 30], .p (.idxStr), none⟩,
      ⟨(some 32), [.c (.str [48, 49, 50, 51, 52, 53, 54, 55, 56, 57, 97, 98, 99, 100, 101, 102]), .t 31], .w (.callF f_strings_IndexByte), none⟩,
      ⟨(some 6), [.t 32], .p (.mov), none⟩])
    (.seq (.seq (.ops [⟨(some 33), [.t 6], .p (.mov), none⟩,
      ⟨(some 34), [.t 33, .c (.int .i64 0)], .p (.bin .lss), none⟩])
    (.cond (.t 34)
     (.seq (.draw [(⟨(some 35), [], .p (.build [(.int .u8 0), (.int .u8 0), (.int .u8 0), (.int .u8 0)] []), none⟩, 0),
       (⟨none, [.t 2, .t 35], .w (.store 4), none⟩, 0),
       (⟨(some 36), [.c (.ptr (some (g_ErrText, 0)))], .r (.load none), none⟩, 1),
       (⟨(some 3), [.t 36], .p (.mov), none⟩, 0)])
     (.ret))
     (.skip)))
    (.ops [⟨(some 37), [.t 5], .p (.mov), none⟩,
      ⟨(some 38), [.t 37, .c (.int .i64 1)], .p (.bin .sub), none⟩,
      ⟨(some 39), [.t 38, .c (.int .i64 2)], .p (.bin .quo), none⟩,
      ⟨(some 40), [.t 5], .p (.mov), none⟩,
      ⟨(some 41), [.t 40, .c (.int .i64 1)], .p (.bin .sub), none⟩,
      ⟨(some 42), [.t 41, .c (.int .i64 2)], .p (.bin .quo), none⟩,
      ⟨(some 43), [.t 4, .t 42], .p (.iAddrA 4 1), none⟩,
      ⟨(some 44), [.t 43], .r (.load none), none⟩,
      ⟨(some 45), [.t 44, .c (.int .u64 4)], .p (.bin .shl), none⟩,
      ⟨(some 46), [.t 6], .p (.mov), none⟩,
      ⟨(some 47), [.t 46], .p (.conv .u8), none⟩,
      ⟨(some 48), [.t 45, .t 47], .p (.bin .or), none⟩,
      ⟨(some 49), [.t 4, .t 39], .p (.iAddrA 4 1), none⟩,
      ⟨none, [.t 49, .t 48], .w (.store 1), none⟩]))))
   (.ops [⟨(some 27), [.t 5], .p (.mov), none⟩,
     ⟨(some 28), [.t 27, .c (.int .i64 1)], .p (.bin .add), none⟩,
     ⟨(some 5), [.t 28], .p (.mov), none⟩]))
def c_color_Parse : AC :=
 .seq (.ops [⟨(some 2), [], .n (.alloc [(.int .u8 0), (.int .u8 0), (.int .u8 0), (.int .u8 0)]), none⟩,
   ⟨(some 3), [.c .nilIface], .p (.mov), none⟩])
 (.seq (.seq (.ops [⟨(some 7), [.t 0], .p (.mov), none⟩,
   ⟨(some 8), [.t 7], .p (.lenStr), none⟩,
   ⟨(some 9), [.t 8, .c (.int .i64 7)], .p (.bin .neq), none⟩,
   ⟨(some 10), [.t 9], .p (.mov), none⟩,
   ⟨(some 11), [.t 0], .p (.mov), some (10, true)⟩,
   ⟨(some 12), [.t 11], .p (.lenStr), some (10, true)⟩,
   ⟨(some 13), [.t 12, .c (.int .i64 9)], .p (.bin .neq), some (10, true)⟩,
   ⟨(some 14), [.t 10, .t 13, .c (.bool false)], .p (.pick), none⟩,
   ⟨(some 15), [.t 14], .p (.mov), none⟩,
   ⟨(some 16), [.t 0], .p (.mov), some (15, false)⟩,
   ⟨(some 17), [.t 16, .c (.int .i64 0)], .p (.idxStr), some (15, false)⟩,
   ⟨(some 18), [.t 17, .c (.int .u8 35)], .p (.bin .neq), some (15, false)⟩,
   ⟨(some 19), [.t 15, .c (.bool true), .t 18], .p (.pick), none⟩])
 (.cond (.t 19)
  (.seq (.draw [(⟨(some 20), [], .p (.build [(.int .u8 0), (.int .u8 0), (.int .u8 0), (.int .u8 0)] []), none⟩, 0),
    (⟨none, [.t 2, .t 20], .w (.store 4), none⟩, 0),
    (⟨(some 21), [.c (.ptr (some (g_ErrText, 0)))], .r (.load none), none⟩, 1),
    (⟨(some 3), [.t 21], .p (.mov), none⟩, 0)])
  (.ret))
  (.skip)))
 (.seq (.ops [⟨(some 22), [.c (.int .u8 255)], .p (.build [(.int .u8 0), (.int .u8 0), (.int .u8 0), (.int .u8 0)] [(3, 1)]), none⟩,
   ⟨(some 4), [], .n (.alloc [(.int .u8 0), (.int .u8 0), (.int .u8 0), (.int .u8 0)]), none⟩,
   ⟨none, [.t 4, .t 22], .w (.store 4), none⟩])
 (.seq (.seq (.ops [⟨(some 5), [.c (.int .i64 1)], .p (.mov), none⟩])
 (.block 0
  (.loop c_color_Parse_l0)))
 (.seq (.ops [⟨(some 50), [.t 4, .c (.int .i64 0)], .p (.iAddrA 4 1), none⟩,
   ⟨(some 51), [.t 50], .r (.load none), none⟩,
   ⟨(some 52), [.t 4, .c (.int .i64 1)], .p (.iAddrA 4 1), none⟩,
   ⟨(some 53), [.t 52], .r (.load none), none⟩,
   ⟨(some 54), [.t 4, .c (.int .i64 2)], .p (.iAddrA 4 1), none⟩,
   ⟨(some 55), [.t 54], .r (.load none), none⟩,
   ⟨(some 56), [.t 4, .c (.int .i64 3)], .p (.iAddrA 4 1), none⟩,
   ⟨(some 57), [.t 56], .r (.load none), none⟩,
   ⟨(some 58), [.t 51, .t 53, .t 55, .t 57], .p (.build [(.int .u8 0), (.int .u8 0), (.int .u8 0), (.int .u8 0)] [(0, 1), (1, 1), (2, 1), (3, 1)]), none⟩,
   ⟨none, [.t 2, .t 58], .w (.store 4), none⟩,
   ⟨(some 3), [.c .nilIface], .p (.mov), none⟩])
 (.ret)))))
def r_color_Parse : List ARes := [.cell 2 (some 4), .tmp 3]
def F_color_Parse : AFunc := .code c_color_Parse r_color_Parse
/- glyphicref.SameColor -/
def c_glyphicref_SameColor : AC :=
 .seq (.ops [⟨(some 2), [.t 0], .n (.box), none⟩,
   ⟨(some 3), [.t 1], .n (.box), none⟩,
   ⟨(some 4), [.c (.bool false)], .p (.mov), none⟩])
 (.seq (.ops [⟨(some 5), [.t 2], .p (.fAddr 0), none⟩,
   ⟨(some 6), [.t 5], .r (.load none), none⟩,
   ⟨(some 7), [.t 3], .p (.fAddr 0), none⟩,
   ⟨(some 8), [.t 7], .r (.load none), none⟩,
   ⟨(some 9), [.t 6, .t 8], .p (.bin .eql), none⟩,
   ⟨(some 10), [.t 9], .p (.mov), none⟩,
   ⟨(some 11), [.t 2], .p (.fAddr 1), some (10, true)⟩,
   ⟨(some 12), [.t 11], .r (.load none), some (10, true)⟩,
   ⟨(some 13), [.t 3], .p (.fAddr 1), some (10, true)⟩,
   ⟨(some 14), [.t 13], .r (.load none), some (10, true)⟩,
   ⟨(some 15), [.t 12, .t 14], .p (.bin .eql), some (10, true)⟩,
   ⟨(some 16), [.t 10, .t 15, .c (.bool false)], .p (.pick), none⟩,
   ⟨(some 17), [.t 16], .p (.mov), none⟩,
   ⟨(some 18), [.t 2], .p (.fAddr 2), some (17, true)⟩,
   ⟨(some 19), [.t 18], .r (.load none), some (17, true)⟩,
   ⟨(some 20), [.t 3], .p (.fAddr 2), some (17, true)⟩,
   ⟨(some 21), [.t 20], .r (.load none), some (17, true)⟩,
   ⟨(some 22), [.t 19, .t 21], .p (.bin .eql), some (17, true)⟩,
   ⟨(some 23), [.t 17, .t 22, .c (.bool false)], .p (.pick), none⟩,
   ⟨(some 24), [.t 23], .p (.mov), none⟩,
   ⟨(some 25), [.t 2], .p (.fAddr 3), some (24, true)⟩,
   ⟨(some 26), [.t 25], .r (.load none), some (24, true)⟩,
   ⟨(some 27), [.t 3], .p (.fAddr 3), some (24, true)⟩,
   ⟨(some 28), [.t 27], .r (.load none), some (24, true)⟩,
   ⟨(some 29), [.t 26, .t 28], .p (.bin .eql), some (24, true)⟩,
   ⟨(some 30), [.t 24, .t 29, .c (.bool false)], .p (.pick), none⟩,
   ⟨(some 4), [.t 30], .p (.mov), none⟩])
 (.ret))
def r_glyphicref_SameColor : List ARes := [.tmp 4]
def F_glyphicref_SameColor : AFunc := .code c_glyphicref_SameColor r_glyphicref_SameColor
/- glyphicref1.ParseColor -/
def c_glyphicref1_ParseColor_l0 : AC :=
 .seq (.seq (.ops [⟨(some 23), [.t 5], .p (.mov), none⟩,
     ⟨(some 24), [.c (.int .i64 2), .t 23], .p (.bin .mul), none⟩,
     ⟨(some 25), [.t 24, .c (.int .i64 2)], .p (.bin .add), none⟩,
     ⟨(some 26), [.t 0], .p (.mov), none⟩,
     ⟨(some 27), [.t 26], .p (.lenStr), none⟩,
     ⟨(some 28), [.t 25, .t 27], .p (.bin .lss), none⟩])
   (.cond (.t 28)
    (.skip)
    (.exit 0)))
   (.seq (.block 1
    (.seq (.ops [⟨(some 31), [.t 0], .p (.mov), none⟩,
      ⟨(some 32), [.t 5], .p (.mov), none⟩,
      ⟨(some 33), [.c (.int .i64 2), .t 32], .p (.bin .mul), none⟩,
      ⟨(some 34), [.c (.int .i64 1), .t 33], .p (.bin .add), none⟩,
      ⟨(some 35), [.t 31, .t 34], .p (.idxStr), none⟩,
      ⟨(some 36), [.t 35], .w (.callF f_glyphicref1_digit), none⟩,
      ⟨(some 6), [.t 36], .p (.mov), none⟩])
    (.seq (.ops [⟨(some 37), [.t 0], .p (.mov), none⟩,
      ⟨(some 38), [.t 5], .p (.mov), none⟩,
      ⟨(some 39), [.c (.int .i64 2), .t 38], .p (.bin .mul), none⟩,
      ⟨(some 40), [.c (.int .i64 2), .t 39], .p (.bin .add), none⟩,
      ⟨(some 41), [.t 37, .t 40], .p (.idxStr), none⟩,
      ⟨(some 42), [.t 41], .w (.callF f_glyphicref1_digit), none⟩,
      ⟨(some 7), [.t 42], .p (.mov), none⟩])
    (.seq (.seq (.ops [⟨(some 43), [.t 6], .p (.mov), none⟩,
      ⟨(some 44), [.t 43, .c (.int .i64 0)], .p (.bin .lss), none⟩,
      ⟨(some 45), [.t 44], .p (.mov), none⟩,
      ⟨(some 46), [.t 7], .p (.mov), some (45, false)⟩,
      ⟨(some 47), [.t 46, .c (.int .i64 0)], .p (.bin .lss), some (45, false)⟩,
      ⟨(some 48), [.t 45, .c (.bool true), .t 47], .p (.pick), none⟩])
    (.cond (.t 48)
     (.seq (.ops [⟨(some 49), [], .p (.build [(.int .u8 0), (.int .u8 0), (.int .u8 0), (.int .u8 0)] []), none⟩,
       ⟨none, [.t 2, .t 49], .w (.store 4), none⟩,
       ⟨(some 3), [.c (.bool false)], .p (.mov), none⟩])
     (.ret))
     (.skip)))
    (.ops [⟨(some 50), [.t 5], .p (.mov), none⟩,
      ⟨(some 51), [.t 6], .p (.mov), none⟩,
      ⟨(some 52), [.c (.int .i64 16), .t 51], .p (.bin .mul), none⟩,
      ⟨(some 53), [.t 7], .p (.mov), none⟩,
      ⟨(some 54), [.t 52, .t 53], .p (.bin .add), none⟩,
      ⟨(some 55), [.t 54], .p (.conv .u8), none⟩,
      ⟨(some 56), [.t 4, .t 50], .p (.iAddrA 4 1), none⟩,
      ⟨none, [.t 56, .t 55], .w (.store 1), none⟩])))))
   (.ops [⟨(some 29), [.t 5], .p (.mov), none⟩,
     ⟨(some 30), [.t 29, .c (.int .i64 1)], .p (.bin .add), none⟩,
     ⟨(some 5), [.t 30], .p (.mov), none⟩]))
def c_glyphicref1_ParseColor : AC :=
 .seq (.ops [⟨(some 2), [], .n (.alloc [(.int .u8 0), (.int .u8 0), (.int .u8 0), (.int .u8 0)]), none⟩,
   ⟨(some 3), [.c (.bool false)], .p (.mov), none⟩])
 (.seq (.seq (.ops [⟨(some 8), [.t 0], .p (.mov), none⟩,
   ⟨(some 9), [.t 8], .p (.lenStr), none⟩,
   ⟨(some 10), [.t 9, .c (.int .i64 7)], .p (.bin .neq), none⟩,
   ⟨(some 11), [.t 10], .p (.mov), none⟩,
   ⟨(some 12), [.t 0], .p (.mov), some (11, true)⟩,
   ⟨(some 13), [.t 12], .p (.lenStr), some (11, true)⟩,
   ⟨(some 14), [.t 13, .c (.int .i64 9)], .p (.bin .neq), some (11, true)⟩,
   ⟨(some 15), [.t 11, .t 14, .c (.bool false)], .p (.pick), none⟩,
   ⟨(some 16), [.t 15], .p (.mov), none⟩,
   ⟨(some 17), [.t 0], .p (.mov), some (16, false)⟩,
   ⟨(some 18), [.t 17, .c (.int .i64 0)], .p (.idxStr), some (16, false)⟩,
   ⟨(some 19), [.t 18, .c (.int .u8 35)], .p (.bin .neq), some (16, false)⟩,
   ⟨(some 20), [.t 16, .c (.bool true), .t 19], .p (.pick), none⟩])
 (.cond (.t 20)
  (.seq (.ops [⟨(some 21), [], .p (.build [(.int .u8 0), (.int .u8 0), (.int .u8 0), (.int .u8 0)] []), none⟩,
    ⟨none, [.t 2, .t 21], .w (.store 4), none⟩,
    ⟨(some 3), [.c (.bool false)], .p (.mov), none⟩])
  (.ret))
  (.skip)))
 (.seq (.ops [⟨(some 22), [.c (.int .u8 0), .c (.int .u8 0), .c (.int .u8 0), .c (.int .u8 255)], .p (.build [(.int .u8 0), (.int .u8 0), (.int .u8 0), (.int .u8 0)] [(0, 1), (1, 1), (2, 1), (3, 1)]), none⟩,
   ⟨(some 4), [], .n (.alloc [(.int .u8 0), (.int .u8 0), (.int .u8 0), (.int .u8 0)]), none⟩,
   ⟨none, [.t 4, .t 22], .w (.store 4), none⟩])
 (.seq (.seq (.ops [⟨(some 5), [.c (.int .i64 0)], .p (.mov), none⟩])
 (.block 0
  (.loop c_glyphicref1_ParseColor_l0)))
 (.seq (.ops [⟨(some 57), [.t 4, .c (.int .i64 0)], .p (.iAddrA 4 1), none⟩,
   ⟨(some 58), [.t 57], .r (.load none), none⟩,
   ⟨(some 59), [.t 4, .c (.int .i64 1)], .p (.iAddrA 4 1), none⟩,
   ⟨(some 60), [.t 59], .r (.load none), none⟩,
   ⟨(some 61), [.t 4, .c (.int .i64 2)], .p (.iAddrA 4 1), none⟩,
   ⟨(some 62), [.t 61], .r (.load none), none⟩,
   ⟨(some 63), [.t 4, .c (.int .i64 3)], .p (.iAddrA 4 1), none⟩,
   ⟨(some 64), [.t 63], .r (.load none), none⟩,
   ⟨(some 65), [.t 58, .t 60, .t 62, .t 64], .p (.build [(.int .u8 0), (.int .u8 0), (.int .u8 0), (.int .u8 0)] [(0, 1), (1, 1), (2, 1), (3, 1)]), none⟩,
   ⟨none, [.t 2, .t 65], .w (.store 4), none⟩,
   ⟨(some 3), [.c (.bool true)], .p (.mov), none⟩])
 (.ret)))))
def r_glyphicref1_ParseColor : List ARes := [.cell 2 (some 4), .tmp 3]
def F_glyphicref1_ParseColor : AFunc := .code c_glyphicref1_ParseColor r_glyphicref1_ParseColor
/- glyphicref1.ShowColor -/
def c_glyphicref1_ShowColor : AC :=
 .seq (.ops [⟨(some 1), [.t 0], .n (.box), none⟩,
   ⟨(some 2), [.c (.str [])], .p (.mov), none⟩])
 (.seq (.draw [(⟨(some 4), [.t 1], .p (.fAddr 0), none⟩, 0),
   (⟨(some 5), [.t 4], .r (.load none), none⟩, 0),
   (⟨(some 6), [.t 5], .w (.callF f_glyphicref1_hex), none⟩, 0),
   (⟨(some 8), [.t 1], .p (.fAddr 1), none⟩, 0),
   (⟨(some 9), [.t 8], .r (.load none), none⟩, 1),
   (⟨(some 10), [.t 9], .w (.callF f_glyphicref1_hex), none⟩, 0),
   (⟨(some 12), [.t 1], .p (.fAddr 2), none⟩, 0),
   (⟨(some 13), [.t 12], .r (.load none), none⟩, 2),
   (⟨(some 14), [.t 13], .w (.callF f_glyphicref1_hex), none⟩, 0),
   (⟨(some 7), [.c (.str [35]), .t 6], .p (.bin .add), none⟩, 0),
   (⟨(some 11), [.t 7, .t 10], .p (.bin .add), none⟩, 0),
   (⟨(some 15), [.t 11, .t 14], .p (.bin .add), none⟩, 0),
   (⟨(some 3), [.t 15], .p (.mov), none⟩, 0)])
 (.seq (.seq (.ops [⟨(some 16), [.t 1], .p (.fAddr 3), none⟩,
   ⟨(some 17), [.t 16], .r (.load none), none⟩,
   ⟨(some 18), [.t 17, .c (.int .u8 255)], .p (.bin .neq), none⟩])
 (.cond (.t 18)
  (.ops [⟨(some 19), [.t 3], .p (.mov), none⟩,
    ⟨(some 20), [.t 1], .p (.fAddr 3), none⟩,
    ⟨(some 21), [.t 20], .r (.load none), none⟩,
    ⟨(some 22), [.t 21], .w (.callF f_glyphicref1_hex), none⟩,
    ⟨(some 23), [.t 19, .t 22], .p (.bin .add), none⟩,
    ⟨(some 3), [.t 23], .p (.mov), none⟩])
  (.skip)))
 (.seq (.ops [⟨(some 24), [.t 3], .p (.mov), none⟩,
   ⟨(some 2), [.t 24], .p (.mov), none⟩])
 (.ret))))
def r_glyphicref1_ShowColor : List ARes := [.tmp 2]
def F_glyphicref1_ShowColor : AFunc := .code c_glyphicref1_ShowColor r_glyphicref1_ShowColor
/- glyphicsee.Is -/
def c_glyphicsee_Is : AC :=
 .seq (.ops [⟨(some 4), [.c (.bool false)], .p (.mov), none⟩])
 (.seq (.ops [⟨(some 5), [.t 0], .p (.mov), none⟩,
   ⟨(some 6), [.t 1], .p (.mov), none⟩,
   ⟨(some 7), [.t 6], .w (.callF f_glyphicref_Bare), none⟩,
   ⟨(some 8), [.t 5, .t 7], .w (.callF f_glyphicsee_Same), none⟩,
   ⟨(some 4), [.t 8], .p (.mov), none⟩])
 (.ret))
def r_glyphicsee_Is : List ARes := [.tmp 4]
def F_glyphicsee_Is : AFunc := .code c_glyphicsee_Is r_glyphicsee_Is
/- color.Wide -/
def c_color_Wide : AC :=
 .seq (.ops [⟨(some 1), [.t 0], .n (.box), none⟩,
   ⟨(some 2), [], .n (.alloc [(.int .i64 0), (.int .i64 0), (.int .i64 0), (.int .i64 0)]), none⟩])
 (.seq (.ops [⟨(some 3), [.t 1], .p (.fAddr 0), none⟩,
   ⟨(some 4), [.t 3], .r (.load none), none⟩,
   ⟨(some 5), [.t 4], .p (.conv .i64), none⟩,
   ⟨(some 6), [.c (.int .i64 257), .t 5], .p (.bin .mul), none⟩,
   ⟨(some 7), [.t 1], .p (.fAddr 1), none⟩,
   ⟨(some 8), [.t 7], .r (.load none), none⟩,
   ⟨(some 9), [.t 8], .p (.conv .i64), none⟩,
   ⟨(some 10), [.c (.int .i64 257), .t 9], .p (.bin .mul), none⟩,
   ⟨(some 11), [.t 1], .p (.fAddr 2), none⟩,
   ⟨(some 12), [.t 11], .r (.load none), none⟩,
   ⟨(some 13), [.t 12], .p (.conv .i64), none⟩,
   ⟨(some 14), [.c (.int .i64 257), .t 13], .p (.bin .mul), none⟩,
   ⟨(some 15), [.t 1], .p (.fAddr 3), none⟩,
   ⟨(some 16), [.t 15], .r (.load none), none⟩,
   ⟨(some 17), [.t 16], .p (.conv .i64), none⟩,
   ⟨(some 18), [.c (.int .i64 257), .t 17], .p (.bin .mul), none⟩,
   ⟨(some 19), [.t 6, .t 10, .t 14, .t 18], .p (.build [(.int .i64 0), (.int .i64 0), (.int .i64 0), (.int .i64 0)] [(0, 1), (1, 1), (2, 1), (3, 1)]), none⟩,
   ⟨none, [.t 2, .t 19], .w (.store 4), none⟩])
 (.ret))
def r_color_Wide : List ARes := [.cell 2 (some 4)]
def F_color_Wide : AFunc := .code c_color_Wide r_color_Wide
/- glyphicref1.Wide -/
def c_glyphicref1_Wide : AC :=
 .seq (.ops [⟨(some 1), [.t 0], .n (.box), none⟩,
   ⟨(some 2), [], .n (.alloc [(.int .i64 0), (.int .i64 0), (.int .i64 0), (.int .i64 0)]), none⟩])
 (.seq (.ops [⟨(some 3), [.t 1], .p (.fAddr 0), none⟩,
   ⟨(some 4), [.t 3], .r (.load none), none⟩,
   ⟨(some 5), [.t 4], .p (.conv .i64), none⟩,
   ⟨(some 6), [.c (.int .i64 257), .t 5], .p (.bin .mul), none⟩,
   ⟨(some 7), [.t 1], .p (.fAddr 1), none⟩,
   ⟨(some 8), [.t 7], .r (.load none), none⟩,
   ⟨(some 9), [.t 8], .p (.conv .i64), none⟩,
   ⟨(some 10), [.c (.int .i64 257), .t 9], .p (.bin .mul), none⟩,
   ⟨(some 11), [.t 1], .p (.fAddr 2), none⟩,
   ⟨(some 12), [.t 11], .r (.load none), none⟩,
   ⟨(some 13), [.t 12], .p (.conv .i64), none⟩,
   ⟨(some 14), [.c (.int .i64 257), .t 13], .p (.bin .mul), none⟩,
   ⟨(some 15), [.t 1], .p (.fAddr 3), none⟩,
   ⟨(some 16), [.t 15], .r (.load none), none⟩,
   ⟨(some 17), [.t 16], .p (.conv .i64), none⟩,
   ⟨(some 18), [.c (.int .i64 257), .t 17], .p (.bin .mul), none⟩,
   ⟨(some 19), [.t 6, .t 10, .t 14, .t 18], .p (.build [(.int .i64 0), (.int .i64 0), (.int .i64 0), (.int .i64 0)] [(0, 1), (1, 1), (2, 1), (3, 1)]), none⟩,
   ⟨none, [.t 2, .t 19], .w (.store 4), none⟩])
 (.ret))
def r_glyphicref1_Wide : List ARes := [.cell 2 (some 4)]
def F_glyphicref1_Wide : AFunc := .code c_glyphicref1_Wide r_glyphicref1_Wide
/- glyphicsee.Same -/
def c_glyphicsee_Same : AC :=
 .seq (.ops [⟨(some 3), [.t 1], .n (.box), none⟩,
   ⟨(some 4), [.c (.bool false)], .p (.mov), none⟩])
 (.seq (.draw [(⟨(some 5), [.t 0], .p (.mov), none⟩, 0),
   (⟨(some 6), [.t 5], .w (.callF f_glyphicsee_Fault), none⟩, 0),
   (⟨(some 7), [.t 3], .r (.load (some 3)), none⟩, 1),
   (⟨(some 8), [.t 6, .t 7], .w (.callF f_glyphicref_SameFault), none⟩, 0),
   (⟨(some 4), [.t 8], .p (.mov), none⟩, 0)])
 (.ret))
def r_glyphicsee_Same : List ARes := [.tmp 4]
def F_glyphicsee_Same : AFunc := .code c_glyphicsee_Same r_glyphicsee_Same
/- glyphicref.Placed -/
def c_glyphicref_Placed : AC :=
 .seq (.ops [⟨(some 4), [], .n (.alloc [(.int .i64 0), (.bool false), (.int .i64 0)]), none⟩])
 (.seq (.seq (.ops [⟨(some 5), [.t 0], .p (.mov), none⟩,
   ⟨(some 6), [.t 5, .c (.int .i64 0)], .p (.bin .eql), none⟩])
 (.cond (.t 6)
  (.seq (.ops [⟨(some 7), [], .w (.callF f_glyphicref_None), none⟩,
    ⟨none, [.t 4, .t 7], .w (.store 3), none⟩])
  (.ret))
  (.skip)))
 (.seq (.ops [⟨(some 8), [.t 0], .p (.mov), none⟩,
   ⟨(some 9), [.t 1], .p (.mov), none⟩,
   ⟨(some 10), [.t 8, .c (.bool true), .t 9], .p (.build [(.int .i64 0), (.bool false), (.int .i64 0)] [(0, 1), (1, 1), (2, 1)]), none⟩,
   ⟨none, [.t 4, .t 10], .w (.store 3), none⟩])
 (.ret)))
def r_glyphicref_Placed : List ARes := [.cell 4 (some 3)]
def F_glyphicref_Placed : AFunc := .code c_glyphicref_Placed r_glyphicref_Placed
/- glyphicref.None -/
def c_glyphicref_None : AC :=
 .seq (.ops [⟨(some 0), [], .n (.alloc [(.int .i64 0), (.bool false), (.int .i64 0)]), none⟩])
 (.seq (.ops [⟨(some 1), [], .p (.build [(.int .i64 0), (.bool false), (.int .i64 0)] []), none⟩,
   ⟨none, [.t 0, .t 1], .w (.store 3), none⟩])
 (.ret))
def r_glyphicref_None : List ARes := [.cell 0 (some 3)]
def F_glyphicref_None : AFunc := .code c_glyphicref_None r_glyphicref_None
/- glyphicref.SameFault -/
def c_glyphicref_SameFault : AC :=
 .seq (.ops [⟨(some 2), [.t 0], .n (.box), none⟩,
   ⟨(some 3), [.t 1], .n (.box), none⟩,
   ⟨(some 4), [.c (.bool false)], .p (.mov), none⟩])
 (.seq (.ops [⟨(some 5), [.t 2], .p (.fAddr 0), none⟩,
   ⟨(some 6), [.t 5], .r (.load none), none⟩,
   ⟨(some 7), [.t 3], .p (.fAddr 0), none⟩,
   ⟨(some 8), [.t 7], .r (.load none), none⟩,
   ⟨(some 9), [.t 6, .t 8], .p (.bin .eql), none⟩,
   ⟨(some 10), [.t 9], .p (.mov), none⟩,
   ⟨(some 11), [.t 2], .p (.fAddr 1), some (10, true)⟩,
   ⟨(some 12), [.t 11], .r (.load none), some (10, true)⟩,
   ⟨(some 13), [.t 3], .p (.fAddr 1), some (10, true)⟩,
   ⟨(some 14), [.t 13], .r (.load none), some (10, true)⟩,
   ⟨(some 15), [.t 12, .t 14], .r (.eq false .bool), some (10, true)⟩,
   ⟨(some 16), [.t 10, .t 15, .c (.bool false)], .p (.pick), none⟩,
   ⟨(some 17), [.t 16], .p (.mov), none⟩,
   ⟨(some 18), [.t 2], .p (.fAddr 2), some (17, true)⟩,
   ⟨(some 19), [.t 18], .r (.load none), some (17, true)⟩,
   ⟨(some 20), [.t 3], .p (.fAddr 2), some (17, true)⟩,
   ⟨(some 21), [.t 20], .r (.load none), some (17, true)⟩,
   ⟨(some 22), [.t 19, .t 21], .p (.bin .eql), some (17, true)⟩,
   ⟨(some 23), [.t 17, .t 22, .c (.bool false)], .p (.pick), none⟩,
   ⟨(some 4), [.t 23], .p (.mov), none⟩])
 (.ret))
def r_glyphicref_SameFault : List ARes := [.tmp 4]
def F_glyphicref_SameFault : AFunc := .code c_glyphicref_SameFault r_glyphicref_SameFault
/- strings.IndexByte -/
def c_strings_IndexByte : AC :=
 .seq (.ops [⟨(some 4), [.c (.int .i64 0)], .p (.mov), none⟩])
 (.seq (.ops [⟨(some 5), [.t 0], .p (.mov), none⟩,
   ⟨(some 6), [.t 1], .p (.mov), none⟩,
   ⟨(some 7), [.t 5, .t 6], .w (.callF f_internal_stringslite_IndexByte), none⟩,
   ⟨(some 4), [.t 7], .p (.mov), none⟩])
 (.ret))
def r_strings_IndexByte : List ARes := [.tmp 4]
def F_strings_IndexByte : AFunc := .code c_strings_IndexByte r_strings_IndexByte
/- glyphicref1.digit -/
def c_glyphicref1_digit : AC :=
 .seq (.ops [⟨(some 2), [.c (.int .i64 0)], .p (.mov), none⟩])
 (.seq (.block 0
  (.seq (.ops [⟨(some 4), [.t 0], .p (.mov), none⟩,
    ⟨(some 5), [.t 4, .c (.int .u8 48)], .p (.bin .geq), none⟩,
    ⟨(some 6), [.t 5], .p (.mov), none⟩,
    ⟨(some 7), [.t 0], .p (.mov), some (6, true)⟩,
    ⟨(some 8), [.t 7, .c (.int .u8 57)], .p (.bin .leq), some (6, true)⟩,
    ⟨(some 9), [.t 6, .t 8, .c (.bool false)], .p (.pick), none⟩,
    ⟨(some 3), [.t 9], .p (.mov), none⟩])
  (.cond (.t 3)
   (.seq (.ops [⟨(some 10), [.t 0], .p (.mov), none⟩,
     ⟨(some 11), [.t 10, .c (.int .u8 48)], .p (.bin .sub), none⟩,
     ⟨(some 12), [.t 11], .p (.conv .i64), none⟩,
     ⟨(some 2), [.t 12], .p (.mov), none⟩])
   (.ret))
   (.seq (.ops [⟨(some 14), [.t 0], .p (.mov), none⟩,
     ⟨(some 15), [.t 14, .c (.int .u8 97)], .p (.bin .geq), none⟩,
     ⟨(some 16), [.t 15], .p (.mov), none⟩,
     ⟨(some 17), [.t 0], .p (.mov), some (16, true)⟩,
     ⟨(some 18), [.t 17, .c (.int .u8 102)], .p (.bin .leq), some (16, true)⟩,
     ⟨(some 19), [.t 16, .t 18, .c (.bool false)], .p (.pick), none⟩,
     ⟨(some 13), [.t 19], .p (.mov), none⟩])
   (.cond (.t 13)
    (.seq (.ops [⟨(some 20), [.t 0], .p (.mov), none⟩,
      ⟨(some 21), [.t 20, .c (.int .u8 97)], .p (.bin .sub), none⟩,
      ⟨(some 22), [.t 21], .p (.conv .i64), none⟩,
      ⟨(some 23), [.t 22, .c (.int .i64 10)], .p (.bin .add), none⟩,
      ⟨(some 2), [.t 23], .p (.mov), none⟩])
    (.ret))
    (.skip))))))
 (.seq (.ops [⟨(some 2), [.c (.int .i64 (-1))], .p (.mov), none⟩])
 (.ret)))
def r_glyphicref1_digit : List ARes := [.tmp 2]
def F_glyphicref1_digit : AFunc := .code c_glyphicref1_digit r_glyphicref1_digit
/- glyphicref1.hex -/
def c_glyphicref1_hex : AC :=
 .seq (.ops [⟨(some 2), [.c (.str [])], .p (.mov), none⟩])
 (.seq (.ops [⟨(some 3), [.c (.str [48, 49, 50, 51, 52, 53, 54, 55, 56, 57, 97, 98, 99, 100, 101, 102])], .p (.mov), none⟩])
 (.seq (.draw [(⟨(some 4), [.t 3], .p (.mov), none⟩, 0),
   (⟨(some 5), [.t 0], .p (.mov), none⟩, 0),
   (⟨(some 6), [.t 5, .c (.int .u8 16)], .p (.bin .quo), none⟩, 0),
   (⟨(some 7), [.t 4, .t 6], .p (.idxStr), none⟩, 0),
   (⟨(some 8), [.t 3], .p (.mov), none⟩, 0),
   (⟨(some 9), [.t 0], .p (.mov), none⟩, 0),
   (⟨(some 10), [.t 9, .c (.int .u8 16)], .p (.bin .rem), none⟩, 0),
   (⟨(some 11), [.t 8, .t 10], .p (.idxStr), none⟩, 0),
   (⟨(some 12), [.t 7, .t 11], .n (.bslice 2 [(.int .u8 0), (.int .u8 0)] [(0, 1), (1, 1)]), none⟩, 0),
   (⟨(some 13), [.t 12], .r (.b2s), none⟩, 0),
   (⟨(some 2), [.t 13], .p (.mov), none⟩, 0)])
 (.ret)))
def r_glyphicref1_hex : List ARes := [.tmp 2]
def F_glyphicref1_hex : AFunc := .code c_glyphicref1_hex r_glyphicref1_hex
/- glyphicref.Bare -/
def c_glyphicref_Bare : AC :=
 .seq (.ops [⟨(some 2), [], .n (.alloc [(.int .i64 0), (.bool false), (.int .i64 0)]), none⟩])
 (.seq (.ops [⟨(some 3), [.t 0], .p (.mov), none⟩,
   ⟨(some 4), [.t 3], .p (.build [(.int .i64 0), (.bool false), (.int .i64 0)] [(0, 1)]), none⟩,
   ⟨none, [.t 2, .t 4], .w (.store 3), none⟩])
 (.ret))
def r_glyphicref_Bare : List ARes := [.cell 2 (some 3)]
def F_glyphicref_Bare : AFunc := .code c_glyphicref_Bare r_glyphicref_Bare
/- glyphicsee.Fault -/
def c_glyphicsee_Fault : AC :=
 .seq (.ops [⟨(some 2), [], .n (.alloc [(.int .i64 0), (.bool false), (.int .i64 0)]), none⟩])
 (.seq (.seq (.ops [⟨(some 5), [.t 0], .p (.mov), none⟩,
   ⟨(some 6), [.t 5, .c .nilIface], .r (.eq false (.iface [t_p_api_At, t_p_errors_errorString] true)), none⟩])
 (.cond (.t 6)
  (.seq (.ops [⟨(some 7), [], .w (.callF f_glyphicref_None), none⟩,
    ⟨none, [.t 2, .t 7], .w (.store 3), none⟩])
  (.ret))
  (.skip)))
 (.seq (.ops [⟨(some 9), [.t 0], .p (.mov), none⟩,
   ⟨(some 10), [.t 9], .p (.tAss t_p_api_At true (.ptr none)), none⟩,
   ⟨(some 8), [.t 10], .p (.mov), none⟩,
   ⟨(some 11), [.t 8], .p (.ext 0), none⟩,
   ⟨(some 12), [.t 8], .p (.ext 1), none⟩,
   ⟨(some 3), [.t 11], .p (.mov), none⟩,
   ⟨(some 4), [.t 12], .p (.mov), none⟩])
 (.seq (.seq (.ops [⟨(some 13), [.t 4], .p (.mov), none⟩,
   ⟨(some 14), [.t 13], .p (.un .not), none⟩])
 (.cond (.t 14)
  (.seq (.ops [⟨(some 15), [.t 0], .p (.mov), none⟩,
    ⟨(some 16), [.t 15], .w (.callF f_glyphicsee_sentinel), none⟩,
    ⟨(some 17), [.t 16], .w (.callF f_glyphicref_Bare), none⟩,
    ⟨none, [.t 2, .t 17], .w (.store 3), none⟩])
  (.ret))
  (.skip)))
 (.seq (.seq (.ops [⟨(some 18), [.t 3], .p (.mov), none⟩,
   ⟨(some 19), [.t 18, .c (.ptr none)], .r (.eq false .ptr), none⟩,
   ⟨(some 20), [.t 19], .p (.mov), none⟩,
   ⟨(some 21), [.t 3], .p (.mov), some (20, false)⟩,
   ⟨(some 22), [.t 21], .p (.nilChk), some (20, false)⟩,
   ⟨(some 23), [.t 22], .p (.fAddr 1), some (20, false)⟩,
   ⟨(some 24), [.t 23], .r (.load none), some (20, false)⟩,
   ⟨(some 25), [.t 24, .c .nilIface], .r (.eq false (.iface [t_p_api_At, t_p_errors_errorString] true)), some (20, false)⟩,
   ⟨(some 26), [.t 20, .c (.bool true), .t 25], .p (.pick), none⟩])
 (.cond (.t 26)
  (.seq (.ops [⟨(some 27), [.c (.int .i64 (-1))], .w (.callF f_glyphicref_Bare), none⟩,
    ⟨none, [.t 2, .t 27], .w (.store 3), none⟩])
  (.ret))
  (.skip)))
 (.seq (.draw [(⟨(some 28), [.t 3], .p (.mov), none⟩, 0),
   (⟨(some 29), [.t 28], .p (.nilChk), none⟩, 0),
   (⟨(some 30), [.t 29], .p (.fAddr 1), none⟩, 0),
   (⟨(some 31), [.t 30], .r (.load none), none⟩, 0),
   (⟨(some 32), [.t 31], .w (.callF f_glyphicsee_sentinel), none⟩, 0),
   (⟨(some 33), [.t 3], .p (.mov), none⟩, 0),
   (⟨(some 34), [.t 33], .p (.nilChk), none⟩, 0),
   (⟨(some 35), [.t 34], .p (.fAddr 0), none⟩, 0),
   (⟨(some 36), [.t 35], .r (.load none), none⟩, 1),
   (⟨(some 37), [.t 32, .t 36], .w (.callF f_glyphicref_Placed), none⟩, 0),
   (⟨none, [.t 2, .t 37], .w (.store 3), none⟩, 0)])
 (.ret))))))
def r_glyphicsee_Fault : List ARes := [.cell 2 (some 3)]
def F_glyphicsee_Fault : AFunc := .code c_glyphicsee_Fault r_glyphicsee_Fault
/- internal/stringslite.IndexByte -/
def c_internal_stringslite_IndexByte : AC :=
 .seq (.ops [⟨(some 4), [.c (.int .i64 0)], .p (.mov), none⟩])
 (.seq (.ops [⟨(some 5), [.t 0], .p (.mov), none⟩,
   ⟨(some 6), [.t 1], .p (.mov), none⟩,
   ⟨(some 7), [.t 5, .t 6], .w (.callF f_internal_bytealg_IndexByteString), none⟩,
   ⟨(some 4), [.t 7], .p (.mov), none⟩])
 (.ret))
def r_internal_stringslite_IndexByte : List ARes := [.tmp 4]
def F_internal_stringslite_IndexByte : AFunc := .code c_internal_stringslite_IndexByte r_internal_stringslite_IndexByte
/- glyphicsee.sentinel -/
def c_glyphicsee_sentinel_l0 : AC :=
 .seq (.seq (.ops [⟨(some 6), [.t 4], .p (.mov), none⟩,
     ⟨(some 7), [.t 3], .p (.mov), none⟩,
     ⟨(some 8), [.t 7], .p (.lenSl), none⟩,
     ⟨(some 9), [.t 6, .t 8], .p (.bin .lss), none⟩])
   (.cond (.t 9)
    (.skip)
    (.exit 0)))
   (.seq (.block 1
    (.seq (.ops [⟨(some 12), [.t 0], .p (.mov), none⟩,
      ⟨(some 13), [.t 3], .p (.mov), none⟩,
      ⟨(some 14), [.t 4], .p (.mov), none⟩,
      ⟨(some 15), [.t 13, .t 14], .p (.iAddrS 1), none⟩,
      ⟨(some 16), [.t 15], .r (.load none), none⟩,
      ⟨(some 17), [.t 12, .t 16], .w (.callF f_glyphicsee_Alike), none⟩])
    (.cond (.t 17)
     (.seq (.ops [⟨(some 18), [.t 4], .p (.mov), none⟩,
       ⟨(some 19), [.c (.int .i64 101), .t 18], .p (.bin .add), none⟩,
       ⟨(some 2), [.t 19], .p (.mov), none⟩])
     (.ret))
     (.skip))))
   (.ops [⟨(some 10), [.t 4], .p (.mov), none⟩,
     ⟨(some 11), [.t 10, .c (.int .i64 1)], .p (.bin .add), none⟩,
     ⟨(some 4), [.t 11], .p (.mov), none⟩]))
def c_glyphicsee_sentinel : AC :=
 .seq (.ops [⟨(some 2), [.c (.int .i64 0)], .p (.mov), none⟩])
 (.seq (.ops [⟨(some 5), [], .w (.callF f_glyphicsee_sentinels), none⟩,
   ⟨(some 3), [.t 5], .p (.mov), none⟩])
 (.seq (.seq (.ops [⟨(some 4), [.c (.int .i64 0)], .p (.mov), none⟩])
 (.block 0
  (.loop c_glyphicsee_sentinel_l0)))
 (.seq (.ops [⟨(some 2), [.c (.int .i64 (-1))], .p (.mov), none⟩])
 (.ret))))
def r_glyphicsee_sentinel : List ARes := [.tmp 2]
def F_glyphicsee_sentinel : AFunc := .code c_glyphicsee_sentinel r_glyphicsee_sentinel
/- internal/bytealg.IndexByteString -/
def F_internal_bytealg_IndexByteString : AFunc := .prim .indexByte
/- glyphicsee.sentinels -/
def c_glyphicsee_sentinels : AC :=
 .seq (.ops [⟨(some 0), [.c (.slice none 0 (.exact 0))], .p (.mov), none⟩])
 (.seq (.ops [⟨(some 1), [.c (.ptr (some (g_ErrText, 0)))], .r (.load none), none⟩,
   ⟨(some 2), [.c (.ptr (some (g_ErrName, 0)))], .r (.load none), none⟩,
   ⟨(some 3), [.c (.ptr (some (g_ErrTwice, 0)))], .r (.load none), none⟩,
   ⟨(some 4), [.c (.ptr (some (g_ErrPath, 0)))], .r (.load none), none⟩,
   ⟨(some 5), [.c (.ptr (some (g_ErrRange, 0)))], .r (.load none), none⟩,
   ⟨(some 6), [.c (.ptr (some (g_ErrLimit, 0)))], .r (.load none), none⟩,
   ⟨(some 7), [.c (.ptr (some (g_ErrShort, 0)))], .r (.load none), none⟩,
   ⟨(some 8), [.c (.ptr (some (g_ErrMagic, 0)))], .r (.load none), none⟩,
   ⟨(some 9), [.c (.ptr (some (g_ErrVarint, 0)))], .r (.load none), none⟩,
   ⟨(some 10), [.c (.ptr (some (g_ErrCanon, 0)))], .r (.load none), none⟩,
   ⟨(some 11), [.c (.ptr (some (g_ErrTrail, 0)))], .r (.load none), none⟩,
   ⟨(some 12), [.c (.ptr (some (g_ErrWidth, 0)))], .r (.load none), none⟩,
   ⟨(some 13), [.c (.ptr (some (g_ErrBudget, 0)))], .r (.load none), none⟩,
   ⟨(some 14), [.t 1, .t 2, .t 3, .t 4, .t 5, .t 6, .t 7, .t 8, .t 9, .t 10, .t 11, .t 12, .t 13], .n (.bslice 13 [.nilIface, .nilIface, .nilIface, .nilIface, .nilIface, .nilIface, .nilIface, .nilIface, .nilIface, .nilIface, .nilIface, .nilIface, .nilIface] [(0, 1), (1, 1), (2, 1), (3, 1), (4, 1), (5, 1), (6, 1), (7, 1), (8, 1), (9, 1), (10, 1), (11, 1), (12, 1)]), none⟩,
   ⟨(some 0), [.t 14], .p (.mov), none⟩])
 (.ret))
def r_glyphicsee_sentinels : List ARes := [.tmp 0]
def F_glyphicsee_sentinels : AFunc := .code c_glyphicsee_sentinels r_glyphicsee_sentinels
/- glyphicsee.Alike -/
def c_glyphicsee_Alike : AC :=
 .seq (.ops [⟨(some 4), [.c (.bool false)], .p (.mov), none⟩])
 (.seq (.seq (.ops [⟨(some 5), [.t 0], .p (.mov), none⟩,
   ⟨(some 6), [.t 5, .c .nilIface], .r (.eq false (.iface [t_p_api_At, t_p_errors_errorString] true)), none⟩,
   ⟨(some 7), [.t 6], .p (.mov), none⟩,
   ⟨(some 8), [.t 1], .p (.mov), some (7, false)⟩,
   ⟨(some 9), [.t 8, .c .nilIface], .r (.eq false (.iface [t_p_api_At, t_p_errors_errorString] true)), some (7, false)⟩,
   ⟨(some 10), [.t 7, .c (.bool true), .t 9], .p (.pick), none⟩])
 (.cond (.t 10)
  (.seq (.ops [⟨(some 11), [.t 0], .p (.mov), none⟩,
    ⟨(some 12), [.t 11, .c .nilIface], .r (.eq false (.iface [t_p_api_At, t_p_errors_errorString] true)), none⟩,
    ⟨(some 13), [.t 12], .p (.mov), none⟩,
    ⟨(some 14), [.t 1], .p (.mov), some (13, true)⟩,
    ⟨(some 15), [.t 14, .c .nilIface], .r (.eq false (.iface [t_p_api_At, t_p_errors_errorString] true)), some (13, true)⟩,
    ⟨(some 16), [.t 13, .t 15, .c (.bool false)], .p (.pick), none⟩,
    ⟨(some 4), [.t 16], .p (.mov), none⟩])
  (.ret))
  (.skip)))
 (.seq (.ops [⟨(some 17), [.t 0], .p (.mov), none⟩,
   ⟨(some 18), [.t 1], .p (.mov), none⟩,
   ⟨(some 19), [.t 17, .t 18], .r (.eq false (.iface [t_p_api_At, t_p_errors_errorString] false)), none⟩,
   ⟨(some 4), [.t 19], .p (.mov), none⟩])
 (.ret)))
def r_glyphicsee_Alike : List ARes := [.tmp 4]
def F_glyphicsee_Alike : AFunc := .code c_glyphicsee_Alike r_glyphicsee_Alike
def cfg : Cfg := ⟨[(0, 0), (3, 2), (4, 4), (6, 6), (7, 8), (8, 10), (1, 12), (9, 14), (2, 16), (10, 18), (11, 20), (12, 22), (13, 24)], [t_p_api_At, t_p_errors_errorString]⟩
def envL : List (Nat × AFunc) := [(f_glyphiclaw3_ColorSays, F_glyphiclaw3_ColorSays), (f_glyphiclaw3_first, F_glyphiclaw3_first), (f_color_Show, F_color_Show), (f_color_Parse, F_color_Parse), (f_glyphicref_SameColor, F_glyphicref_SameColor), (f_glyphicref1_ParseColor, F_glyphicref1_ParseColor), (f_glyphicref1_ShowColor, F_glyphicref1_ShowColor), (f_glyphicsee_Is, F_glyphicsee_Is), (f_color_Wide, F_color_Wide), (f_glyphicref1_Wide, F_glyphicref1_Wide), (f_glyphicsee_Same, F_glyphicsee_Same), (f_glyphicref_Placed, F_glyphicref_Placed), (f_glyphicref_None, F_glyphicref_None), (f_glyphicref_SameFault, F_glyphicref_SameFault), (f_strings_IndexByte, F_strings_IndexByte), (f_glyphicref1_digit, F_glyphicref1_digit), (f_glyphicref1_hex, F_glyphicref1_hex), (f_glyphicref_Bare, F_glyphicref_Bare), (f_glyphicsee_Fault, F_glyphicsee_Fault), (f_internal_stringslite_IndexByte, F_internal_stringslite_IndexByte), (f_glyphicsee_sentinel, F_glyphicsee_sentinel), (f_internal_bytealg_IndexByteString, F_internal_bytealg_IndexByteString), (f_glyphicsee_sentinels, F_glyphicsee_sentinels), (f_glyphicsee_Alike, F_glyphicsee_Alike)]
theorem E_glyphiclaw3_ColorSays : lookE envL f_glyphiclaw3_ColorSays = some F_glyphiclaw3_ColorSays := rfl
theorem E_glyphiclaw3_first : lookE envL f_glyphiclaw3_first = some F_glyphiclaw3_first := rfl
theorem E_color_Show : lookE envL f_color_Show = some F_color_Show := rfl
theorem E_color_Parse : lookE envL f_color_Parse = some F_color_Parse := rfl
theorem E_glyphicref_SameColor : lookE envL f_glyphicref_SameColor = some F_glyphicref_SameColor := rfl
theorem E_glyphicref1_ParseColor : lookE envL f_glyphicref1_ParseColor = some F_glyphicref1_ParseColor := rfl
theorem E_glyphicref1_ShowColor : lookE envL f_glyphicref1_ShowColor = some F_glyphicref1_ShowColor := rfl
theorem E_glyphicsee_Is : lookE envL f_glyphicsee_Is = some F_glyphicsee_Is := rfl
theorem E_color_Wide : lookE envL f_color_Wide = some F_color_Wide := rfl
theorem E_glyphicref1_Wide : lookE envL f_glyphicref1_Wide = some F_glyphicref1_Wide := rfl
theorem E_glyphicsee_Same : lookE envL f_glyphicsee_Same = some F_glyphicsee_Same := rfl
theorem E_glyphicref_Placed : lookE envL f_glyphicref_Placed = some F_glyphicref_Placed := rfl
theorem E_glyphicref_None : lookE envL f_glyphicref_None = some F_glyphicref_None := rfl
theorem E_glyphicref_SameFault : lookE envL f_glyphicref_SameFault = some F_glyphicref_SameFault := rfl
theorem E_strings_IndexByte : lookE envL f_strings_IndexByte = some F_strings_IndexByte := rfl
theorem E_glyphicref1_digit : lookE envL f_glyphicref1_digit = some F_glyphicref1_digit := rfl
theorem E_glyphicref1_hex : lookE envL f_glyphicref1_hex = some F_glyphicref1_hex := rfl
theorem E_glyphicref_Bare : lookE envL f_glyphicref_Bare = some F_glyphicref_Bare := rfl
theorem E_glyphicsee_Fault : lookE envL f_glyphicsee_Fault = some F_glyphicsee_Fault := rfl
theorem E_internal_stringslite_IndexByte : lookE envL f_internal_stringslite_IndexByte = some F_internal_stringslite_IndexByte := rfl
theorem E_glyphicsee_sentinel : lookE envL f_glyphicsee_sentinel = some F_glyphicsee_sentinel := rfl
theorem E_internal_bytealg_IndexByteString : lookE envL f_internal_bytealg_IndexByteString = some F_internal_bytealg_IndexByteString := rfl
theorem E_glyphicsee_sentinels : lookE envL f_glyphicsee_sentinels = some F_glyphicsee_sentinels := rfl
theorem E_glyphicsee_Alike : lookE envL f_glyphicsee_Alike = some F_glyphicsee_Alike := rfl
end Go.IR
