/- The functions that the seat's laws reach, as the fast run has them; under names that do not hang on the seat. By program (wip/pr2.py). -/
import Derived.Test.YthojeoldjhghpaaFrT
namespace Go.IR
set_option linter.unusedVariables false
set_option linter.unusedSimpArgs false
open Go Go.FR
abbrev f_glyphiclaw3_ColorUnlike : Nat := 3
abbrev f_glyphiclaw3_first : Nat := 13
abbrev f_color_Wide : Nat := 14
abbrev f_color_Show : Nat := 15
abbrev f_glyphicref_SameColor : Nat := 16
/- glyphiclaw3.ColorUnlike -/
def c_glyphiclaw3_ColorUnlike_l0 : AC :=
 .seq (.seq (.ops [⟨(some 36), [.t 10], .p (.mov), none⟩,
     ⟨(some 37), [.t 36, .c (.int .i64 4)], .p (.bin .lss), none⟩])
   (.cond (.t 37)
    (.skip)
    (.exit 0)))
   (.seq (.block 1
    (.seq (.draw [(⟨(some 40), [.t 10], .p (.mov), none⟩, 0),
      (⟨(some 41), [.t 6, .t 40], .p (.iAddrA 4 1), none⟩, 0),
      (⟨(some 42), [.t 41], .r (.load none), none⟩, 0),
      (⟨(some 43), [.t 42, .c (.int .i64 0)], .p (.bin .lss), none⟩, 0),
      (⟨(some 44), [.t 43], .p (.mov), none⟩, 0),
      (⟨(some 45), [.t 10], .p (.mov), some (44, false)⟩, 0),
      (⟨(some 46), [.t 6, .t 45], .p (.iAddrA 4 1), some (44, false)⟩, 0),
      (⟨(some 47), [.t 46], .r (.load none), some (44, false)⟩, 0),
      (⟨(some 48), [.t 47, .c (.int .i64 65535)], .p (.bin .gtr), some (44, false)⟩, 0),
      (⟨(some 49), [.t 44, .c (.bool true), .t 48], .p (.pick), none⟩, 0),
      (⟨(some 50), [.t 49], .p (.mov), none⟩, 0),
      (⟨(some 51), [.t 10], .p (.mov), some (50, false)⟩, 0),
      (⟨(some 52), [.t 6, .t 51], .p (.iAddrA 4 1), some (50, false)⟩, 0),
      (⟨(some 53), [.t 52], .r (.load none), some (50, false)⟩, 0),
      (⟨(some 54), [.t 10], .p (.mov), some (50, false)⟩, 0),
      (⟨(some 55), [.t 7, .t 54], .p (.iAddrA 4 1), some (50, false)⟩, 0),
      (⟨(some 56), [.t 55], .r (.load none), some (50, false)⟩, 0),
      (⟨(some 57), [.t 53, .t 56], .p (.bin .lss), some (50, false)⟩, 0),
      (⟨(some 58), [.t 10], .p (.mov), some (50, false)⟩, 0),
      (⟨(some 59), [.t 8, .t 58], .p (.iAddrA 4 1), some (50, false)⟩, 0),
      (⟨(some 60), [.t 59], .r (.load none), some (50, false)⟩, 0),
      (⟨(some 61), [.t 10], .p (.mov), some (50, false)⟩, 0),
      (⟨(some 62), [.t 9, .t 61], .p (.iAddrA 4 1), some (50, false)⟩, 0),
      (⟨(some 63), [.t 62], .r (.load none), some (50, false)⟩, 0),
      (⟨(some 64), [.t 60, .t 63], .p (.bin .lss), some (50, false)⟩, 0),
      (⟨(some 65), [.t 57, .t 64], .r (.eq true .bool), some (50, false)⟩, 0),
      (⟨(some 66), [.t 50, .c (.bool true), .t 65], .p (.pick), none⟩, 0),
      (⟨(some 67), [.t 66], .p (.mov), none⟩, 0),
      (⟨(some 68), [.t 10], .p (.mov), some (67, false)⟩, 0),
      (⟨(some 69), [.t 6, .t 68], .p (.iAddrA 4 1), some (67, false)⟩, 0),
      (⟨(some 70), [.t 69], .r (.load none), some (67, false)⟩, 0),
      (⟨(some 71), [.t 70, .c (.int .i64 257)], .p (.bin .rem), some (67, false)⟩, 0),
      (⟨(some 72), [.t 71, .c (.int .i64 0)], .p (.bin .neq), some (67, false)⟩, 0),
      (⟨(some 73), [.t 67, .c (.bool true), .t 72], .p (.pick), none⟩, 0)])
    (.cond (.t 73)
     (.seq (.ops [⟨(some 4), [.c (.bool false)], .p (.mov), none⟩])
     (.ret))
     (.skip))))
   (.ops [⟨(some 38), [.t 10], .p (.mov), none⟩,
     ⟨(some 39), [.t 38, .c (.int .i64 1)], .p (.bin .add), none⟩,
     ⟨(some 10), [.t 39], .p (.mov), none⟩]))
def c_glyphiclaw3_ColorUnlike : AC :=
 .seq (.ops [⟨(some 2), [.t 0], .n (.box), none⟩,
   ⟨(some 3), [.t 1], .n (.box), none⟩,
   ⟨(some 4), [.c (.bool false)], .p (.mov), none⟩])
 (.seq (.ops [⟨(some 11), [], .w (.callF f_glyphiclaw3_first), none⟩,
   ⟨(some 5), [.t 11], .p (.mov), none⟩])
 (.seq (.seq (.ops [⟨(some 12), [.t 5], .p (.mov), none⟩,
   ⟨(some 13), [.t 12], .p (.un .not), none⟩])
 (.cond (.t 13)
  (.seq (.ops [⟨(some 4), [.c (.bool false)], .p (.mov), none⟩])
  (.ret))
  (.skip)))
 (.seq (.ops [⟨(some 14), [.t 2], .r (.load (some 4)), none⟩,
   ⟨(some 15), [.t 14], .w (.callF f_color_Wide), none⟩,
   ⟨(some 6), [], .n (.alloc [(.int .i64 0), (.int .i64 0), (.int .i64 0), (.int .i64 0)]), none⟩,
   ⟨none, [.t 6, .t 15], .w (.store 4), none⟩])
 (.seq (.ops [⟨(some 16), [.t 3], .r (.load (some 4)), none⟩,
   ⟨(some 17), [.t 16], .w (.callF f_color_Wide), none⟩,
   ⟨(some 7), [], .n (.alloc [(.int .i64 0), (.int .i64 0), (.int .i64 0), (.int .i64 0)]), none⟩,
   ⟨none, [.t 7, .t 17], .w (.store 4), none⟩])
 (.seq (.ops [⟨(some 18), [.t 2], .p (.fAddr 0), none⟩,
   ⟨(some 19), [.t 18], .r (.load none), none⟩,
   ⟨(some 20), [.t 2], .p (.fAddr 1), none⟩,
   ⟨(some 21), [.t 20], .r (.load none), none⟩,
   ⟨(some 22), [.t 2], .p (.fAddr 2), none⟩,
   ⟨(some 23), [.t 22], .r (.load none), none⟩,
   ⟨(some 24), [.t 2], .p (.fAddr 3), none⟩,
   ⟨(some 25), [.t 24], .r (.load none), none⟩,
   ⟨(some 26), [.t 19, .t 21, .t 23, .t 25], .p (.build [(.int .u8 0), (.int .u8 0), (.int .u8 0), (.int .u8 0)] [(0, 1), (1, 1), (2, 1), (3, 1)]), none⟩,
   ⟨(some 8), [], .n (.alloc [(.int .u8 0), (.int .u8 0), (.int .u8 0), (.int .u8 0)]), none⟩,
   ⟨none, [.t 8, .t 26], .w (.store 4), none⟩])
 (.seq (.ops [⟨(some 27), [.t 3], .p (.fAddr 0), none⟩,
   ⟨(some 28), [.t 27], .r (.load none), none⟩,
   ⟨(some 29), [.t 3], .p (.fAddr 1), none⟩,
   ⟨(some 30), [.t 29], .r (.load none), none⟩,
   ⟨(some 31), [.t 3], .p (.fAddr 2), none⟩,
   ⟨(some 32), [.t 31], .r (.load none), none⟩,
   ⟨(some 33), [.t 3], .p (.fAddr 3), none⟩,
   ⟨(some 34), [.t 33], .r (.load none), none⟩,
   ⟨(some 35), [.t 28, .t 30, .t 32, .t 34], .p (.build [(.int .u8 0), (.int .u8 0), (.int .u8 0), (.int .u8 0)] [(0, 1), (1, 1), (2, 1), (3, 1)]), none⟩,
   ⟨(some 9), [], .n (.alloc [(.int .u8 0), (.int .u8 0), (.int .u8 0), (.int .u8 0)]), none⟩,
   ⟨none, [.t 9, .t 35], .w (.store 4), none⟩])
 (.seq (.seq (.ops [⟨(some 10), [.c (.int .i64 0)], .p (.mov), none⟩])
 (.block 0
  (.loop c_glyphiclaw3_ColorUnlike_l0)))
 (.seq (.draw [(⟨(some 74), [.t 5], .p (.mov), none⟩, 0),
   (⟨(some 75), [.t 74], .p (.mov), none⟩, 0),
   (⟨(some 76), [.t 2], .r (.load (some 4)), some (75, true)⟩, 0),
   (⟨(some 77), [.t 76], .w (.callF f_color_Show), some (75, true)⟩, 0),
   (⟨(some 78), [.t 3], .r (.load (some 4)), some (75, true)⟩, 1),
   (⟨(some 79), [.t 78], .w (.callF f_color_Show), some (75, true)⟩, 0),
   (⟨(some 81), [.t 2], .r (.load (some 4)), some (75, true)⟩, 2),
   (⟨(some 82), [.t 3], .r (.load (some 4)), some (75, true)⟩, 2),
   (⟨(some 83), [.t 81, .t 82], .w (.callF f_glyphicref_SameColor), some (75, true)⟩, 0),
   (⟨(some 80), [.t 77, .t 79], .p (.bin .eql), some (75, true)⟩, 0),
   (⟨(some 84), [.t 80, .t 83], .r (.eq false .bool), some (75, true)⟩, 0),
   (⟨(some 85), [.t 75, .t 84, .c (.bool false)], .p (.pick), none⟩, 0),
   (⟨(some 4), [.t 85], .p (.mov), none⟩, 0)])
 (.ret)))))))))
def r_glyphiclaw3_ColorUnlike : List ARes := [.tmp 4]
def F_glyphiclaw3_ColorUnlike : AFunc := .code c_glyphiclaw3_ColorUnlike r_glyphiclaw3_ColorUnlike
/- glyphiclaw3.first -/
def c_glyphiclaw3_first : AC :=
 .seq (.ops [⟨(some 0), [.c (.bool false)], .p (.mov), none⟩])
 (.seq (.ops [⟨(some 1), [.c (.int .u8 255), .c (.int .u8 255)], .p (.build [(.int .u8 0), (.int .u8 0), (.int .u8 0), (.int .u8 0)] [(0, 1), (3, 1)]), none⟩,
   ⟨(some 2), [.t 1], .w (.callF f_color_Show), none⟩,
   ⟨(some 3), [.t 2, .c (.str [35, 102, 102, 48, 48, 48, 48])], .p (.bin .eql), none⟩,
   ⟨(some 0), [.t 3], .p (.mov), none⟩])
 (.ret))
def r_glyphiclaw3_first : List ARes := [.tmp 0]
def F_glyphiclaw3_first : AFunc := .code c_glyphiclaw3_first r_glyphiclaw3_first
/- color.Wide -/
def c_color_Wide : AC :=
 .seq (.ops [⟨(some 1), [.t 0], .n (.box), none⟩,
   ⟨(some 2), [], .n (.alloc [(.int .i64 0), (.int .i64 0), (.int .i64 0), (.int .i64 0)]), none⟩])
 (.seq (.ops [⟨(some 3), [.t 1], .p (.fAddr 0), none⟩,
   ⟨(some 4), [.t 3], .r (.load none), none⟩,
   ⟨(some 5), [.t 4], .p (.conv .i64), none⟩,
   ⟨(some 6), [.c (.int .i64 257), .t 5], .p (.bin .mul), none⟩,
   ⟨(some 7), [.t 1], .p (.fAddr 1), none⟩,
   ⟨(some 8), [.t 7], .r (.load none), none⟩,
   ⟨(some 9), [.t 8], .p (.conv .i64), none⟩,
   ⟨(some 10), [.c (.int .i64 257), .t 9], .p (.bin .mul), none⟩,
   ⟨(some 11), [.t 1], .p (.fAddr 2), none⟩,
   ⟨(some 12), [.t 11], .r (.load none), none⟩,
   ⟨(some 13), [.t 12], .p (.conv .i64), none⟩,
   ⟨(some 14), [.c (.int .i64 257), .t 13], .p (.bin .mul), none⟩,
   ⟨(some 15), [.t 1], .p (.fAddr 3), none⟩,
   ⟨(some 16), [.t 15], .r (.load none), none⟩,
   ⟨(some 17), [.t 16], .p (.conv .i64), none⟩,
   ⟨(some 18), [.c (.int .i64 257), .t 17], .p (.bin .mul), none⟩,
   ⟨(some 19), [.t 6, .t 10, .t 14, .t 18], .p (.build [(.int .i64 0), (.int .i64 0), (.int .i64 0), (.int .i64 0)] [(0, 1), (1, 1), (2, 1), (3, 1)]), none⟩,
   ⟨none, [.t 2, .t 19], .w (.store 4), none⟩])
 (.ret))
def r_color_Wide : List ARes := [.cell 2 (some 4)]
def F_color_Wide : AFunc := .code c_color_Wide r_color_Wide
/- color.Show -/
def c_color_Show_l0 : AC :=
 .seq (.ops [⟨(some 17), [.t 16, .c (.int .i64 4)], .p (.bin .lss), none⟩])
   (.seq (.cond (.t 17)
    (.skip)
    (.exit 0))
   (.seq (.block 1
    (.seq (.ops [⟨(some 18), [.t 16], .p (.mov), none⟩,
      ⟨(some 19), [.t 15, .t 16], .p (.idxArr 4 1 none), none⟩,
      ⟨(some 4), [.t 18], .p (.mov), none⟩,
      ⟨(some 5), [.t 19], .p (.mov), none⟩])
    (.seq (.ops [⟨(some 20), [.t 4], .p (.mov), none⟩,
      ⟨(some 21), [.t 20, .c (.int .i64 3)], .p (.bin .lss), none⟩,
      ⟨(some 22), [.t 21], .p (.mov), none⟩,
      ⟨(some 23), [.t 5], .p (.mov), some (22, false)⟩,
      ⟨(some 24), [.t 23, .c (.int .u8 255)], .p (.bin .neq), some (22, false)⟩,
      ⟨(some 25), [.t 22, .c (.bool true), .t 24], .p (.pick), none⟩])
    (.cond (.t 25)
     (.draw [(⟨(some 26), [.t 3], .p (.mov), none⟩, 0),
       (⟨(some 27), [.t 5], .p (.mov), none⟩, 0),
       (⟨(some 28), [.t 27, .c (.int .u64 4)], .p (.bin .shr), none⟩, 0),
       (⟨(some 29), [.c (.str [48, 49, 50, 51, 52, 53, 54, 55, 56, 57, 97, 98, 99, 100, 101, 102]), .t 28], .p (.idxStr), none⟩, 0),
       (⟨(some 30), [.t 5], .p (.mov), none⟩, 0),
       (⟨(some 31), [.t 30, .c (.int .u8 15)], .p (.bin .and), none⟩, 0),
       (⟨(some 32), [.c (.str [48, 49, 50, 51, 52, 53, 54, 55, 56, 57, 97, 98, 99, 100, 101, 102]), .t 31], .p (.idxStr), none⟩, 0),
       (⟨(some 33), [.t 29, .t 32], .n (.bslice 2 [(.int .u8 0), (.int .u8 0)] [(0, 1), (1, 1)]), none⟩, 0),
       (⟨(some 34), [.t 26, .t 33], .w (.append 1 1), none⟩, 0),
       (⟨(some 3), [.t 34], .p (.mov), none⟩, 0)])
     (.skip)))))
   (.ops [⟨(some 35), [.t 16, .c (.int .i64 1)], .p (.bin .add), none⟩,
     ⟨(some 16), [.t 35], .p (.mov), none⟩])))
def c_color_Show : AC :=
 .seq (.ops [⟨(some 1), [.t 0], .n (.box), none⟩,
   ⟨(some 2), [.c (.str [])], .p (.mov), none⟩])
 (.seq (.ops [⟨(some 6), [.c (.int .u8 35)], .n (.bslice 1 [(.int .u8 0)] [(0, 1)]), none⟩,
   ⟨(some 3), [.t 6], .p (.mov), none⟩])
 (.seq (.seq (.ops [⟨(some 7), [.t 1], .p (.fAddr 0), none⟩,
   ⟨(some 8), [.t 7], .r (.load none), none⟩,
   ⟨(some 9), [.t 1], .p (.fAddr 1), none⟩,
   ⟨(some 10), [.t 9], .r (.load none), none⟩,
   ⟨(some 11), [.t 1], .p (.fAddr 2), none⟩,
   ⟨(some 12), [.t 11], .r (.load none), none⟩,
   ⟨(some 13), [.t 1], .p (.fAddr 3), none⟩,
   ⟨(some 14), [.t 13], .r (.load none), none⟩,
   ⟨(some 15), [.t 8, .t 10, .t 12, .t 14], .p (.build [(.int .u8 0), (.int .u8 0), (.int .u8 0), (.int .u8 0)] [(0, 1), (1, 1), (2, 1), (3, 1)]), none⟩,
   ⟨(some 16), [.c (.int .i64 0)], .p (.mov), none⟩])
 (.block 0
  (.loop c_color_Show_l0)))
 (.seq (.ops [⟨(some 36), [.t 3], .p (.mov), none⟩,
   ⟨(some 37), [.t 36], .r (.b2s), none⟩,
   ⟨(some 2), [.t 37], .p (.mov), none⟩])
 (.ret))))
def r_color_Show : List ARes := [.tmp 2]
def F_color_Show : AFunc := .code c_color_Show r_color_Show
/- glyphicref.SameColor -/
def c_glyphicref_SameColor : AC :=
 .seq (.ops [⟨(some 2), [.t 0], .n (.box), none⟩,
   ⟨(some 3), [.t 1], .n (.box), none⟩,
   ⟨(some 4), [.c (.bool false)], .p (.mov), none⟩])
 (.seq (.ops [⟨(some 5), [.t 2], .p (.fAddr 0), none⟩,
   ⟨(some 6), [.t 5], .r (.load none), none⟩,
   ⟨(some 7), [.t 3], .p (.fAddr 0), none⟩,
   ⟨(some 8), [.t 7], .r (.load none), none⟩,
   ⟨(some 9), [.t 6, .t 8], .p (.bin .eql), none⟩,
   ⟨(some 10), [.t 9], .p (.mov), none⟩,
   ⟨(some 11), [.t 2], .p (.fAddr 1), some (10, true)⟩,
   ⟨(some 12), [.t 11], .r (.load none), some (10, true)⟩,
   ⟨(some 13), [.t 3], .p (.fAddr 1), some (10, true)⟩,
   ⟨(some 14), [.t 13], .r (.load none), some (10, true)⟩,
   ⟨(some 15), [.t 12, .t 14], .p (.bin .eql), some (10, true)⟩,
   ⟨(some 16), [.t 10, .t 15, .c (.bool false)], .p (.pick), none⟩,
   ⟨(some 17), [.t 16], .p (.mov), none⟩,
   ⟨(some 18), [.t 2], .p (.fAddr 2), some (17, true)⟩,
   ⟨(some 19), [.t 18], .r (.load none), some (17, true)⟩,
   ⟨(some 20), [.t 3], .p (.fAddr 2), some (17, true)⟩,
   ⟨(some 21), [.t 20], .r (.load none), some (17, true)⟩,
   ⟨(some 22), [.t 19, .t 21], .p (.bin .eql), some (17, true)⟩,
   ⟨(some 23), [.t 17, .t 22, .c (.bool false)], .p (.pick), none⟩,
   ⟨(some 24), [.t 23], .p (.mov), none⟩,
   ⟨(some 25), [.t 2], .p (.fAddr 3), some (24, true)⟩,
   ⟨(some 26), [.t 25], .r (.load none), some (24, true)⟩,
   ⟨(some 27), [.t 3], .p (.fAddr 3), some (24, true)⟩,
   ⟨(some 28), [.t 27], .r (.load none), some (24, true)⟩,
   ⟨(some 29), [.t 26, .t 28], .p (.bin .eql), some (24, true)⟩,
   ⟨(some 30), [.t 24, .t 29, .c (.bool false)], .p (.pick), none⟩,
   ⟨(some 4), [.t 30], .p (.mov), none⟩])
 (.ret))
def r_glyphicref_SameColor : List ARes := [.tmp 4]
def F_glyphicref_SameColor : AFunc := .code c_glyphicref_SameColor r_glyphicref_SameColor
def cfg : Cfg := ⟨[], []⟩
def envL : List (Nat × AFunc) := [(f_glyphiclaw3_ColorUnlike, F_glyphiclaw3_ColorUnlike), (f_glyphiclaw3_first, F_glyphiclaw3_first), (f_color_Wide, F_color_Wide), (f_color_Show, F_color_Show), (f_glyphicref_SameColor, F_glyphicref_SameColor)]
theorem E_glyphiclaw3_ColorUnlike : lookE envL f_glyphiclaw3_ColorUnlike = some F_glyphiclaw3_ColorUnlike := rfl
theorem E_glyphiclaw3_first : lookE envL f_glyphiclaw3_first = some F_glyphiclaw3_first := rfl
theorem E_color_Wide : lookE envL f_color_Wide = some F_color_Wide := rfl
theorem E_color_Show : lookE envL f_color_Show = some F_color_Show := rfl
theorem E_glyphicref_SameColor : lookE envL f_glyphicref_SameColor = some F_glyphicref_SameColor := rfl
end Go.IR
