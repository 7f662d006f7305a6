/- The functions that the seat's laws reach, as the fast run has them; under names that do not hang on the seat. By program (wip/pr2.py). -/
import Derived.Test.YthojeoldjhghpaaFrT
namespace Go.IR
set_option linter.unusedVariables false
set_option linter.unusedSimpArgs false
open Go Go.FR
abbrev f_glyphiclaw16_PaletteMost : Nat := 11
abbrev f_color_Wide : Nat := 14
abbrev f_color_Show : Nat := 15
abbrev f_glyphicref_SameColor : Nat := 16
abbrev f_glyphiclaw16_first : Nat := 34
abbrev f_palette_Palette_Add : Nat := 35
abbrev f_palette_Palette_Find : Nat := 36
abbrev f_palette_Palette_Colors : Nat := 37
abbrev f_slices_Index__api_Color_api_Color : Nat := 45
abbrev f_slices_Clone__api_Color_api_Color : Nat := 46
/- glyphiclaw16.PaletteMost -/
def c_glyphiclaw16_PaletteMost_l0 : AC :=
 .seq (.seq (.ops [⟨(some 19), [.t 7], .p (.mov), none⟩,
     ⟨(some 20), [.t 19, .c (.int .i64 256)], .p (.bin .lss), none⟩])
   (.cond (.t 20)
    (.skip)
    (.exit 0)))
   (.seq (.block 1
    (.seq (.ops [⟨(some 24), [.t 7], .p (.mov), none⟩,
      ⟨(some 25), [.t 24], .p (.conv .u8), none⟩,
      ⟨(some 26), [.t 1], .p (.mov), none⟩,
      ⟨(some 27), [.t 25, .t 26], .p (.build [(.int .u8 0), (.int .u8 0), (.int .u8 0), (.int .u8 0)] [(0, 1), (1, 1)]), none⟩,
      ⟨(some 28), [.t 6, .t 27], .w (.callF f_palette_Palette_Add), none⟩,
      ⟨(some 23), [.t 28], .p (.mov), none⟩,
      ⟨(some 29), [.t 23], .p (.ext 0), none⟩,
      ⟨(some 30), [.t 23], .p (.ext 1), none⟩,
      ⟨(some 8), [.t 29], .p (.mov), none⟩,
      ⟨(some 9), [.t 30], .p (.mov), none⟩])
    (.seq (.ops [⟨(some 31), [.t 8], .p (.mov), none⟩,
      ⟨(some 32), [.t 7], .p (.mov), none⟩,
      ⟨(some 33), [.t 31, .t 32], .p (.bin .neq), none⟩,
      ⟨(some 34), [.t 33], .p (.mov), none⟩,
      ⟨(some 35), [.t 9], .p (.mov), some (34, false)⟩,
      ⟨(some 36), [.t 35], .p (.un .not), some (34, false)⟩,
      ⟨(some 37), [.t 34, .c (.bool true), .t 36], .p (.pick), none⟩])
    (.cond (.t 37)
     (.seq (.ops [⟨(some 4), [.c (.bool false)], .p (.mov), none⟩])
     (.ret))
     (.skip)))))
   (.ops [⟨(some 21), [.t 7], .p (.mov), none⟩,
     ⟨(some 22), [.t 21, .c (.int .i64 1)], .p (.bin .add), none⟩,
     ⟨(some 7), [.t 22], .p (.mov), none⟩]))
def c_glyphiclaw16_PaletteMost : AC :=
 .seq (.ops [⟨(some 4), [.c (.bool false)], .p (.mov), none⟩])
 (.seq (.ops [⟨(some 16), [], .w (.callF f_glyphiclaw16_first), none⟩,
   ⟨(some 5), [.t 16], .p (.mov), none⟩])
 (.seq (.seq (.ops [⟨(some 17), [.t 5], .p (.mov), none⟩,
   ⟨(some 18), [.t 17], .p (.un .not), none⟩])
 (.cond (.t 18)
  (.seq (.ops [⟨(some 4), [.c (.bool false)], .p (.mov), none⟩])
  (.ret))
  (.skip)))
 (.seq (.ops [⟨(some 6), [], .n (.alloc [(.slice none 0 (.exact 0))]), none⟩])
 (.seq (.seq (.ops [⟨(some 7), [.c (.int .i64 0)], .p (.mov), none⟩])
 (.block 0
  (.loop c_glyphiclaw16_PaletteMost_l0)))
 (.seq (.ops [⟨(some 39), [.t 1], .p (.mov), none⟩,
   ⟨(some 40), [.t 39, .c (.int .u8 1)], .p (.bin .add), none⟩,
   ⟨(some 41), [.t 40], .p (.build [(.int .u8 0), (.int .u8 0), (.int .u8 0), (.int .u8 0)] [(1, 1)]), none⟩,
   ⟨(some 42), [.t 6, .t 41], .w (.callF f_palette_Palette_Add), none⟩,
   ⟨(some 38), [.t 42], .p (.mov), none⟩,
   ⟨(some 43), [.t 38], .p (.ext 0), none⟩,
   ⟨(some 44), [.t 38], .p (.ext 1), none⟩,
   ⟨(some 10), [.t 43], .p (.mov), none⟩,
   ⟨(some 11), [.t 44], .p (.mov), none⟩])
 (.seq (.ops [⟨(some 45), [.t 0], .p (.mov), none⟩,
   ⟨(some 46), [.t 45, .c (.int .i64 256)], .p (.bin .rem), none⟩,
   ⟨(some 47), [.t 46, .c (.int .i64 256)], .p (.bin .add), none⟩,
   ⟨(some 48), [.t 47, .c (.int .i64 256)], .p (.bin .rem), none⟩,
   ⟨(some 12), [.t 48], .p (.mov), none⟩])
 (.seq (.ops [⟨(some 50), [.t 12], .p (.mov), none⟩,
   ⟨(some 51), [.t 50], .p (.conv .u8), none⟩,
   ⟨(some 52), [.t 1], .p (.mov), none⟩,
   ⟨(some 53), [.t 51, .t 52], .p (.build [(.int .u8 0), (.int .u8 0), (.int .u8 0), (.int .u8 0)] [(0, 1), (1, 1)]), none⟩,
   ⟨(some 54), [.t 6, .t 53], .w (.callF f_palette_Palette_Add), none⟩,
   ⟨(some 49), [.t 54], .p (.mov), none⟩,
   ⟨(some 55), [.t 49], .p (.ext 0), none⟩,
   ⟨(some 56), [.t 49], .p (.ext 1), none⟩,
   ⟨(some 13), [.t 55], .p (.mov), none⟩,
   ⟨(some 14), [.t 56], .p (.mov), none⟩])
 (.seq (.ops [⟨(some 57), [.t 6], .w (.callF f_palette_Palette_Colors), none⟩,
   ⟨(some 15), [.t 57], .p (.mov), none⟩])
 (.seq (.seq (.ops [⟨(some 58), [.t 15], .p (.mov), none⟩,
   ⟨(some 59), [.t 58], .p (.lenSl), none⟩,
   ⟨(some 60), [.t 59, .c (.int .i64 256)], .p (.bin .neq), none⟩])
 (.cond (.t 60)
  (.seq (.ops [⟨(some 4), [.c (.bool false)], .p (.mov), none⟩])
  (.ret))
  (.skip)))
 (.seq (.ops [⟨(some 61), [.t 15], .p (.mov), none⟩,
   ⟨(some 62), [.c (.int .u8 9)], .p (.build [(.int .u8 0), (.int .u8 0), (.int .u8 0), (.int .u8 0)] [(3, 1)]), none⟩,
   ⟨(some 63), [.t 61, .c (.int .i64 0)], .p (.iAddrS 4), none⟩,
   ⟨none, [.t 63, .t 62], .w (.store 4), none⟩])
 (.seq (.ops [⟨(some 64), [.t 5], .p (.mov), none⟩,
   ⟨(some 65), [.t 64], .p (.mov), none⟩,
   ⟨(some 66), [.t 10], .p (.mov), some (65, true)⟩,
   ⟨(some 67), [.t 66, .c (.int .i64 (-1))], .p (.bin .eql), some (65, true)⟩,
   ⟨(some 68), [.t 65, .t 67, .c (.bool false)], .p (.pick), none⟩,
   ⟨(some 69), [.t 68], .p (.mov), none⟩,
   ⟨(some 70), [.t 11], .p (.mov), some (69, true)⟩,
   ⟨(some 71), [.t 70], .p (.un .not), some (69, true)⟩,
   ⟨(some 72), [.t 69, .t 71, .c (.bool false)], .p (.pick), none⟩,
   ⟨(some 73), [.t 72], .p (.mov), none⟩,
   ⟨(some 74), [.t 13], .p (.mov), some (73, true)⟩,
   ⟨(some 75), [.t 12], .p (.mov), some (73, true)⟩,
   ⟨(some 76), [.t 74, .t 75], .p (.bin .eql), some (73, true)⟩,
   ⟨(some 77), [.t 73, .t 76, .c (.bool false)], .p (.pick), none⟩,
   ⟨(some 78), [.t 77], .p (.mov), none⟩,
   ⟨(some 79), [.t 14], .p (.mov), some (78, true)⟩,
   ⟨(some 80), [.t 78, .t 79, .c (.bool false)], .p (.pick), none⟩,
   ⟨(some 81), [.t 80], .p (.mov), none⟩,
   ⟨(some 82), [.t 1], .p (.mov), some (81, true)⟩,
   ⟨(some 83), [.t 82], .p (.build [(.int .u8 0), (.int .u8 0), (.int .u8 0), (.int .u8 0)] [(1, 1)]), some (81, true)⟩,
   ⟨(some 84), [.t 6, .t 83], .w (.callF f_palette_Palette_Find), some (81, true)⟩,
   ⟨(some 85), [.t 84, .c (.int .i64 0)], .p (.bin .eql), some (81, true)⟩,
   ⟨(some 86), [.t 81, .t 85, .c (.bool false)], .p (.pick), none⟩,
   ⟨(some 4), [.t 86], .p (.mov), none⟩])
 (.ret))))))))))))
def r_glyphiclaw16_PaletteMost : List ARes := [.tmp 4]
def F_glyphiclaw16_PaletteMost : AFunc := .code c_glyphiclaw16_PaletteMost r_glyphiclaw16_PaletteMost
/- color.Wide -/
def c_color_Wide : AC :=
 .seq (.ops [⟨(some 1), [.t 0], .n (.box), none⟩,
   ⟨(some 2), [], .n (.alloc [(.int .i64 0), (.int .i64 0), (.int .i64 0), (.int .i64 0)]), none⟩])
 (.seq (.ops [⟨(some 3), [.t 1], .p (.fAddr 0), none⟩,
   ⟨(some 4), [.t 3], .r (.load none), none⟩,
   ⟨(some 5), [.t 4], .p (.conv .i64), none⟩,
   ⟨(some 6), [.c (.int .i64 257), .t 5], .p (.bin .mul), none⟩,
   ⟨(some 7), [.t 1], .p (.fAddr 1), none⟩,
   ⟨(some 8), [.t 7], .r (.load none), none⟩,
   ⟨(some 9), [.t 8], .p (.conv .i64), none⟩,
   ⟨(some 10), [.c (.int .i64 257), .t 9], .p (.bin .mul), none⟩,
   ⟨(some 11), [.t 1], .p (.fAddr 2), none⟩,
   ⟨(some 12), [.t 11], .r (.load none), none⟩,
   ⟨(some 13), [.t 12], .p (.conv .i64), none⟩,
   ⟨(some 14), [.c (.int .i64 257), .t 13], .p (.bin .mul), none⟩,
   ⟨(some 15), [.t 1], .p (.fAddr 3), none⟩,
   ⟨(some 16), [.t 15], .r (.load none), none⟩,
   ⟨(some 17), [.t 16], .p (.conv .i64), none⟩,
   ⟨(some 18), [.c (.int .i64 257), .t 17], .p (.bin .mul), none⟩,
   ⟨(some 19), [.t 6, .t 10, .t 14, .t 18], .p (.build [(.int .i64 0), (.int .i64 0), (.int .i64 0), (.int .i64 0)] [(0, 1), (1, 1), (2, 1), (3, 1)]), none⟩,
   ⟨none, [.t 2, .t 19], .w (.store 4), none⟩])
 (.ret))
def r_color_Wide : List ARes := [.cell 2 (some 4)]
def F_color_Wide : AFunc := .code c_color_Wide r_color_Wide
/- color.Show -/
def c_color_Show_l0 : AC :=
 .seq (.ops [⟨(some 17), [.t 16, .c (.int .i64 4)], .p (.bin .lss), none⟩])
   (.seq (.cond (.t 17)
    (.skip)
    (.exit 0))
   (.seq (.block 1
    (.seq (.ops [⟨(some 18), [.t 16], .p (.mov), none⟩,
      ⟨(some 19), [.t 15, .t 16], .p (.idxArr 4 1 none), none⟩,
      ⟨(some 4), [.t 18], .p (.mov), none⟩,
      ⟨(some 5), [.t 19], .p (.mov), none⟩])
    (.seq (.ops [⟨(some 20), [.t 4], .p (.mov), none⟩,
      ⟨(some 21), [.t 20, .c (.int .i64 3)], .p (.bin .lss), none⟩,
      ⟨(some 22), [.t 21], .p (.mov), none⟩,
      ⟨(some 23), [.t 5], .p (.mov), some (22, false)⟩,
      ⟨(some 24), [.t 23, .c (.int .u8 255)], .p (.bin .neq), some (22, false)⟩,
      ⟨(some 25), [.t 22, .c (.bool true), .t 24], .p (.pick), none⟩])
    (.cond (.t 25)
     (.draw [(⟨(some 26), [.t 3], .p (.mov), none⟩, 0),
       (⟨(some 27), [.t 5], .p (.mov), none⟩, 0),
       (⟨(some 28), [.t 27, .c (.int .u64 4)], .p (.bin .shr), none⟩, 0),
       (⟨(some 29), [.c (.str [48, 49, 50, 51, 52, 53, 54, 55, 56, 57, 97, 98, 99, 100, 101, 102]), .t 28], .p (.idxStr), none⟩, 0),
       (⟨(some 30), [.t 5], .p (.mov), none⟩, 0),
       (⟨(some 31), [.t 30, .c (.int .u8 15)], .p (.bin .and), none⟩, 0),
       (⟨(some 32), [.c (.str [48, 49, 50, 51, 52, 53, 54, 55, 56, 57, 97, 98, 99, 100, 101, 102]), .t 31], .p (.idxStr), none⟩, 0),
       (⟨(some 33), [.t 29, .t 32], .n (.bslice 2 [(.int .u8 0), (.int .u8 0)] [(0, 1), (1, 1)]), none⟩, 0),
       (⟨(some 34), [.t 26, .t 33], .w (.append 1 1), none⟩, 0),
       (⟨(some 3), [.t 34], .p (.mov), none⟩, 0)])
     (.skip)))))
   (.ops [⟨(some 35), [.t 16, .c (.int .i64 1)], .p (.bin .add), none⟩,
     ⟨(some 16), [.t 35], .p (.mov), none⟩])))
def c_color_Show : AC :=
 .seq (.ops [⟨(some 1), [.t 0], .n (.box), none⟩,
   ⟨(some 2), [.c (.str [])], .p (.mov), none⟩])
 (.seq (.ops [⟨(some 6), [.c (.int .u8 35)], .n (.bslice 1 [(.int .u8 0)] [(0, 1)]), none⟩,
   ⟨(some 3), [.t 6], .p (.mov), none⟩])
 (.seq (.seq (.ops [⟨(some 7), [.t 1], .p (.fAddr 0), none⟩,
   ⟨(some 8), [.t 7], .r (.load none), none⟩,
   ⟨(some 9), [.t 1], .p (.fAddr 1), none⟩,
   ⟨(some 10), [.t 9], .r (.load none), none⟩,
   ⟨(some 11), [.t 1], .p (.fAddr 2), none⟩,
   ⟨(some 12), [.t 11], .r (.load none), none⟩,
   ⟨(some 13), [.t 1], .p (.fAddr 3), none⟩,
   ⟨(some 14), [.t 13], .r (.load none), none⟩,
   ⟨(some 15), [.t 8, .t 10, .t 12, .t 14], .p (.build [(.int .u8 0), (.int .u8 0), (.int .u8 0), (.int .u8 0)] [(0, 1), (1, 1), (2, 1), (3, 1)]), none⟩,
   ⟨(some 16), [.c (.int .i64 0)], .p (.mov), none⟩])
 (.block 0
  (.loop c_color_Show_l0)))
 (.seq (.ops [⟨(some 36), [.t 3], .p (.mov), none⟩,
   ⟨(some 37), [.t 36], .r (.b2s), none⟩,
   ⟨(some 2), [.t 37], .p (.mov), none⟩])
 (.ret))))
def r_color_Show : List ARes := [.tmp 2]
def F_color_Show : AFunc := .code c_color_Show r_color_Show
/- glyphicref.SameColor -/
def c_glyphicref_SameColor : AC :=
 .seq (.ops [⟨(some 2), [.t 0], .n (.box), none⟩,
   ⟨(some 3), [.t 1], .n (.box), none⟩,
   ⟨(some 4), [.c (.bool false)], .p (.mov), none⟩])
 (.seq (.ops [⟨(some 5), [.t 2], .p (.fAddr 0), none⟩,
   ⟨(some 6), [.t 5], .r (.load none), none⟩,
   ⟨(some 7), [.t 3], .p (.fAddr 0), none⟩,
   ⟨(some 8), [.t 7], .r (.load none), none⟩,
   ⟨(some 9), [.t 6, .t 8], .p (.bin .eql), none⟩,
   ⟨(some 10), [.t 9], .p (.mov), none⟩,
   ⟨(some 11), [.t 2], .p (.fAddr 1), some (10, true)⟩,
   ⟨(some 12), [.t 11], .r (.load none), some (10, true)⟩,
   ⟨(some 13), [.t 3], .p (.fAddr 1), some (10, true)⟩,
   ⟨(some 14), [.t 13], .r (.load none), some (10, true)⟩,
   ⟨(some 15), [.t 12, .t 14], .p (.bin .eql), some (10, true)⟩,
   ⟨(some 16), [.t 10, .t 15, .c (.bool false)], .p (.pick), none⟩,
   ⟨(some 17), [.t 16], .p (.mov), none⟩,
   ⟨(some 18), [.t 2], .p (.fAddr 2), some (17, true)⟩,
   ⟨(some 19), [.t 18], .r (.load none), some (17, true)⟩,
   ⟨(some 20), [.t 3], .p (.fAddr 2), some (17, true)⟩,
   ⟨(some 21), [.t 20], .r (.load none), some (17, true)⟩,
   ⟨(some 22), [.t 19, .t 21], .p (.bin .eql), some (17, true)⟩,
   ⟨(some 23), [.t 17, .t 22, .c (.bool false)], .p (.pick), none⟩,
   ⟨(some 24), [.t 23], .p (.mov), none⟩,
   ⟨(some 25), [.t 2], .p (.fAddr 3), some (24, true)⟩,
   ⟨(some 26), [.t 25], .r (.load none), some (24, true)⟩,
   ⟨(some 27), [.t 3], .p (.fAddr 3), some (24, true)⟩,
   ⟨(some 28), [.t 27], .r (.load none), some (24, true)⟩,
   ⟨(some 29), [.t 26, .t 28], .p (.bin .eql), some (24, true)⟩,
   ⟨(some 30), [.t 24, .t 29, .c (.bool false)], .p (.pick), none⟩,
   ⟨(some 4), [.t 30], .p (.mov), none⟩])
 (.ret))
def r_glyphicref_SameColor : List ARes := [.tmp 4]
def F_glyphicref_SameColor : AFunc := .code c_glyphicref_SameColor r_glyphicref_SameColor
/- glyphiclaw16.first -/
def c_glyphiclaw16_first : AC :=
 .seq (.ops [⟨(some 0), [.c (.bool false)], .p (.mov), none⟩])
 (.seq (.ops [⟨(some 1), [], .n (.alloc [(.slice none 0 (.exact 0))]), none⟩])
 (.seq (.ops [⟨(some 5), [.c (.int .u8 1)], .p (.build [(.int .u8 0), (.int .u8 0), (.int .u8 0), (.int .u8 0)] [(0, 1)]), none⟩,
   ⟨(some 6), [.t 1, .t 5], .w (.callF f_palette_Palette_Add), none⟩,
   ⟨(some 4), [.t 6], .p (.mov), none⟩,
   ⟨(some 7), [.t 4], .p (.ext 0), none⟩,
   ⟨(some 8), [.t 4], .p (.ext 1), none⟩,
   ⟨(some 2), [.t 7], .p (.mov), none⟩,
   ⟨(some 3), [.t 8], .p (.mov), none⟩])
 (.seq (.ops [⟨(some 9), [.t 2], .p (.mov), none⟩,
   ⟨(some 10), [.t 9, .c (.int .i64 0)], .p (.bin .eql), none⟩,
   ⟨(some 11), [.t 10], .p (.mov), none⟩,
   ⟨(some 12), [.t 3], .p (.mov), some (11, true)⟩,
   ⟨(some 13), [.t 11, .t 12, .c (.bool false)], .p (.pick), none⟩,
   ⟨(some 14), [.t 13], .p (.mov), none⟩,
   ⟨(some 15), [.t 1], .w (.callF f_palette_Palette_Colors), some (14, true)⟩,
   ⟨(some 16), [.t 15], .p (.lenSl), some (14, true)⟩,
   ⟨(some 17), [.t 16, .c (.int .i64 1)], .p (.bin .eql), some (14, true)⟩,
   ⟨(some 18), [.t 14, .t 17, .c (.bool false)], .p (.pick), none⟩,
   ⟨(some 19), [.t 18], .p (.mov), none⟩,
   ⟨(some 20), [], .p (.build [(.int .u8 0), (.int .u8 0), (.int .u8 0), (.int .u8 0)] []), some (19, true)⟩,
   ⟨(some 21), [.t 1, .t 20], .w (.callF f_palette_Palette_Find), some (19, true)⟩,
   ⟨(some 22), [.t 21, .c (.int .i64 (-1))], .p (.bin .eql), some (19, true)⟩,
   ⟨(some 23), [.t 19, .t 22, .c (.bool false)], .p (.pick), none⟩,
   ⟨(some 0), [.t 23], .p (.mov), none⟩])
 (.ret))))
def r_glyphiclaw16_first : List ARes := [.tmp 0]
def F_glyphiclaw16_first : AFunc := .code c_glyphiclaw16_first r_glyphiclaw16_first
/- (*palette.Palette).Add -/
def c_palette_Palette_Add : AC :=
 .seq (.ops [⟨(some 3), [.t 1], .n (.box), none⟩,
   ⟨(some 4), [.c (.int .i64 0)], .p (.mov), none⟩,
   ⟨(some 5), [.c (.bool false)], .p (.mov), none⟩])
 (.seq (.ops [⟨(some 7), [.t 0], .p (.mov), none⟩,
   ⟨(some 8), [.t 3], .r (.load (some 4)), none⟩,
   ⟨(some 9), [.t 7, .t 8], .w (.callF f_palette_Palette_Find), none⟩,
   ⟨(some 6), [.t 9], .p (.mov), none⟩])
 (.seq (.block 0
  (.seq (.ops [⟨(some 11), [.t 6], .p (.mov), none⟩,
    ⟨(some 12), [.t 11, .c (.int .i64 0)], .p (.bin .geq), none⟩,
    ⟨(some 10), [.t 12], .p (.mov), none⟩])
  (.cond (.t 10)
   (.seq (.ops [⟨(some 13), [.t 6], .p (.mov), none⟩,
     ⟨(some 4), [.t 13], .p (.mov), none⟩,
     ⟨(some 5), [.c (.bool true)], .p (.mov), none⟩])
   (.ret))
   (.seq (.ops [⟨(some 15), [.t 0], .p (.mov), none⟩,
     ⟨(some 16), [.t 15], .p (.nilChk), none⟩,
     ⟨(some 17), [.t 16], .p (.fAddr 0), none⟩,
     ⟨(some 18), [.t 17], .r (.load none), none⟩,
     ⟨(some 19), [.t 18], .p (.lenSl), none⟩,
     ⟨(some 20), [.t 19, .c (.int .i64 256)], .p (.bin .geq), none⟩,
     ⟨(some 14), [.t 20], .p (.mov), none⟩])
   (.cond (.t 14)
    (.seq (.ops [⟨(some 4), [.c (.int .i64 (-1))], .p (.mov), none⟩,
      ⟨(some 5), [.c (.bool false)], .p (.mov), none⟩])
    (.ret))
    (.skip))))))
 (.seq (.draw [(⟨(some 22), [.t 0], .p (.mov), none⟩, 0),
   (⟨(some 23), [.t 22], .p (.nilChk), none⟩, 0),
   (⟨(some 24), [.t 23], .p (.fAddr 0), none⟩, 0),
   (⟨(some 25), [.t 24], .r (.load none), none⟩, 0),
   (⟨(some 26), [.t 3], .r (.load (some 4)), none⟩, 0),
   (⟨(some 27), [.t 26], .n (.bslice 1 [(.int .u8 0), (.int .u8 0), (.int .u8 0), (.int .u8 0)] [(0, 4)]), none⟩, 0),
   (⟨(some 28), [.t 25, .t 27], .w (.append 4 4), none⟩, 0),
   (⟨(some 21), [.t 0], .p (.mov), none⟩, 0),
   (⟨(some 29), [.t 21], .p (.nilChk), none⟩, 0),
   (⟨(some 30), [.t 29], .p (.fAddr 0), none⟩, 0),
   (⟨none, [.t 30, .t 28], .w (.store 1), none⟩, 0)])
 (.seq (.ops [⟨(some 31), [.t 0], .p (.mov), none⟩,
   ⟨(some 32), [.t 31], .p (.nilChk), none⟩,
   ⟨(some 33), [.t 32], .p (.fAddr 0), none⟩,
   ⟨(some 34), [.t 33], .r (.load none), none⟩,
   ⟨(some 35), [.t 34], .p (.lenSl), none⟩,
   ⟨(some 36), [.t 35, .c (.int .i64 1)], .p (.bin .sub), none⟩,
   ⟨(some 4), [.t 36], .p (.mov), none⟩,
   ⟨(some 5), [.c (.bool true)], .p (.mov), none⟩])
 (.ret)))))
def r_palette_Palette_Add : List ARes := [.tmp 4, .tmp 5]
def F_palette_Palette_Add : AFunc := .code c_palette_Palette_Add r_palette_Palette_Add
/- (*palette.Palette).Find -/
def c_palette_Palette_Find : AC :=
 .seq (.ops [⟨(some 3), [.t 1], .n (.box), none⟩,
   ⟨(some 4), [.c (.int .i64 0)], .p (.mov), none⟩])
 (.seq (.draw [(⟨(some 5), [.t 0], .p (.mov), none⟩, 0),
   (⟨(some 6), [.t 5], .p (.nilChk), none⟩, 0),
   (⟨(some 7), [.t 6], .p (.fAddr 0), none⟩, 0),
   (⟨(some 8), [.t 7], .r (.load none), none⟩, 0),
   (⟨(some 9), [.t 3], .r (.load (some 4)), none⟩, 0),
   (⟨(some 10), [.t 8, .t 9], .w (.callF f_slices_Index__api_Color_api_Color), none⟩, 0),
   (⟨(some 4), [.t 10], .p (.mov), none⟩, 0)])
 (.ret))
def r_palette_Palette_Find : List ARes := [.tmp 4]
def F_palette_Palette_Find : AFunc := .code c_palette_Palette_Find r_palette_Palette_Find
/- (*palette.Palette).Colors -/
def c_palette_Palette_Colors : AC :=
 .seq (.ops [⟨(some 2), [.c (.slice none 0 (.exact 0))], .p (.mov), none⟩])
 (.seq (.ops [⟨(some 3), [.t 0], .p (.mov), none⟩,
   ⟨(some 4), [.t 3], .p (.nilChk), none⟩,
   ⟨(some 5), [.t 4], .p (.fAddr 0), none⟩,
   ⟨(some 6), [.t 5], .r (.load none), none⟩,
   ⟨(some 7), [.t 6], .w (.callF f_slices_Clone__api_Color_api_Color), none⟩,
   ⟨(some 2), [.t 7], .p (.mov), none⟩])
 (.ret))
def r_palette_Palette_Colors : List ARes := [.tmp 2]
def F_palette_Palette_Colors : AFunc := .code c_palette_Palette_Colors r_palette_Palette_Colors
/- slices.Index[[]api.Color,api.Color] -/
def c_slices_Index__api_Color_api_Color_l0 : AC :=
 .seq (.ops [⟨(some 9), [.t 8, .t 7], .p (.bin .lss), none⟩])
   (.seq (.cond (.t 9)
    (.skip)
    (.exit 0))
   (.seq (.block 1
    (.seq (.ops [⟨(some 10), [.t 8], .p (.mov), none⟩,
      ⟨(some 5), [.t 10], .p (.mov), none⟩])
    (.seq (.draw [(⟨(some 11), [.t 3], .r (.load (some 4)), none⟩, 0),
      (⟨(some 12), [.t 0], .p (.mov), none⟩, 0),
      (⟨(some 13), [.t 5], .p (.mov), none⟩, 0),
      (⟨(some 14), [.t 12, .t 13], .p (.iAddrS 4), none⟩, 0),
      (⟨(some 15), [.t 14], .r (.load (some 4)), none⟩, 0),
      (⟨(some 16), [.t 11, .t 15], .r (.eq false (.agg [(0, none, .int), (1, none, .int), (2, none, .int), (3, none, .int)])), none⟩, 0)])
    (.cond (.t 16)
     (.seq (.ops [⟨(some 17), [.t 5], .p (.mov), none⟩,
       ⟨(some 4), [.t 17], .p (.mov), none⟩])
     (.ret))
     (.skip)))))
   (.ops [⟨(some 18), [.t 8, .c (.int .i64 1)], .p (.bin .add), none⟩,
     ⟨(some 8), [.t 18], .p (.mov), none⟩])))
def c_slices_Index__api_Color_api_Color : AC :=
 .seq (.ops [⟨(some 3), [.t 1], .n (.box), none⟩,
   ⟨(some 4), [.c (.int .i64 0)], .p (.mov), none⟩])
 (.seq (.seq (.ops [⟨(some 6), [.t 0], .p (.mov), none⟩,
   ⟨(some 7), [.t 6], .p (.lenSl), none⟩,
   ⟨(some 8), [.c (.int .i64 0)], .p (.mov), none⟩])
 (.block 0
  (.loop c_slices_Index__api_Color_api_Color_l0)))
 (.seq (.ops [⟨(some 4), [.c (.int .i64 (-1))], .p (.mov), none⟩])
 (.ret)))
def r_slices_Index__api_Color_api_Color : List ARes := [.tmp 4]
def F_slices_Index__api_Color_api_Color : AFunc := .code c_slices_Index__api_Color_api_Color r_slices_Index__api_Color_api_Color
/- slices.Clone[[]api.Color,api.Color] -/
def c_slices_Clone__api_Color_api_Color : AC :=
 .seq (.ops [⟨(some 2), [.c (.slice none 0 (.exact 0))], .p (.mov), none⟩])
 (.seq (.seq (.ops [⟨(some 3), [.t 0], .p (.mov), none⟩,
   ⟨(some 4), [.t 3, .c (.slice none 0 (.exact 0))], .r (.eq false .nilS), none⟩])
 (.cond (.t 4)
  (.seq (.ops [⟨(some 2), [.c (.slice none 0 (.exact 0))], .p (.mov), none⟩])
  (.ret))
  (.skip)))
 (.seq (.ops [⟨(some 5), [], .n (.bslice 0 [] []), none⟩,
   ⟨(some 6), [.t 0], .p (.mov), none⟩,
   ⟨(some 7), [.t 5, .t 6], .w (.append 4 4), none⟩,
   ⟨(some 2), [.t 7], .p (.mov), none⟩])
 (.ret)))
def r_slices_Clone__api_Color_api_Color : List ARes := [.tmp 2]
def F_slices_Clone__api_Color_api_Color : AFunc := .code c_slices_Clone__api_Color_api_Color r_slices_Clone__api_Color_api_Color
def cfg : Cfg := ⟨[], []⟩
def envL : List (Nat × AFunc) := [(f_glyphiclaw16_PaletteMost, F_glyphiclaw16_PaletteMost), (f_color_Wide, F_color_Wide), (f_color_Show, F_color_Show), (f_glyphicref_SameColor, F_glyphicref_SameColor), (f_glyphiclaw16_first, F_glyphiclaw16_first), (f_palette_Palette_Add, F_palette_Palette_Add), (f_palette_Palette_Find, F_palette_Palette_Find), (f_palette_Palette_Colors, F_palette_Palette_Colors), (f_slices_Index__api_Color_api_Color, F_slices_Index__api_Color_api_Color), (f_slices_Clone__api_Color_api_Color, F_slices_Clone__api_Color_api_Color)]
theorem E_glyphiclaw16_PaletteMost : lookE envL f_glyphiclaw16_PaletteMost = some F_glyphiclaw16_PaletteMost := rfl
theorem E_color_Wide : lookE envL f_color_Wide = some F_color_Wide := rfl
theorem E_color_Show : lookE envL f_color_Show = some F_color_Show := rfl
theorem E_glyphicref_SameColor : lookE envL f_glyphicref_SameColor = some F_glyphicref_SameColor := rfl
theorem E_glyphiclaw16_first : lookE envL f_glyphiclaw16_first = some F_glyphiclaw16_first := rfl
theorem E_palette_Palette_Add : lookE envL f_palette_Palette_Add = some F_palette_Palette_Add := rfl
theorem E_palette_Palette_Find : lookE envL f_palette_Palette_Find = some F_palette_Palette_Find := rfl
theorem E_palette_Palette_Colors : lookE envL f_palette_Palette_Colors = some F_palette_Palette_Colors := rfl
theorem E_slices_Index__api_Color_api_Color : lookE envL f_slices_Index__api_Color_api_Color = some F_slices_Index__api_Color_api_Color := rfl
theorem E_slices_Clone__api_Color_api_Color : lookE envL f_slices_Clone__api_Color_api_Color = some F_slices_Clone__api_Color_api_Color := rfl
end Go.IR
