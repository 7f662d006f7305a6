/- The functions that the seat's laws reach, as the fast run has them; under names that do not hang on the seat. By program (wip/pr2.py). -/
import Derived.Test.YthojeoldjhghpaaFrT
namespace Go.IR
set_option linter.unusedVariables false
set_option linter.unusedSimpArgs false
open Go Go.FR
abbrev f_glyphiclaw16_PaletteApart : Nat := 9
abbrev f_color_Wide : Nat := 14
abbrev f_color_Show : Nat := 15
abbrev f_glyphicref_SameColor : Nat := 16
abbrev f_glyphiclaw16_first : Nat := 34
abbrev f_palette_Palette_Add : Nat := 35
abbrev f_palette_Palette_Find : Nat := 36
abbrev f_palette_Palette_Colors : Nat := 37
abbrev f_slices_Index__api_Color_api_Color : Nat := 45
abbrev f_slices_Clone__api_Color_api_Color : Nat := 46
/- glyphiclaw16.PaletteApart -/
def c_glyphiclaw16_PaletteApart : AC :=
 .seq (.ops [⟨(some 3), [.t 0], .n (.box), none⟩,
   ⟨(some 6), [.c (.bool false)], .p (.mov), none⟩])
 (.seq (.ops [⟨(some 19), [], .w (.callF f_glyphiclaw16_first), none⟩,
   ⟨(some 7), [.t 19], .p (.mov), none⟩])
 (.seq (.seq (.ops [⟨(some 20), [.t 7], .p (.mov), none⟩,
   ⟨(some 21), [.t 20], .p (.un .not), none⟩])
 (.cond (.t 21)
  (.seq (.ops [⟨(some 6), [.c (.bool false)], .p (.mov), none⟩])
  (.ret))
  (.skip)))
 (.seq (.seq (.ops [⟨(some 22), [.t 2], .p (.mov), none⟩,
   ⟨(some 23), [.t 22, .c (.int .u8 0)], .p (.bin .eql), none⟩])
 (.cond (.t 23)
  (.ops [⟨(some 2), [.c (.int .u8 1)], .p (.mov), none⟩])
  (.skip)))
 (.seq (.ops [⟨(some 24), [.t 3], .r (.load (some 4)), none⟩,
   ⟨(some 8), [], .n (.alloc [(.int .u8 0), (.int .u8 0), (.int .u8 0), (.int .u8 0)]), none⟩,
   ⟨none, [.t 8, .t 24], .w (.store 4), none⟩])
 (.seq (.seq (.ops [⟨(some 25), [.t 1], .p (.mov), none⟩,
   ⟨(some 26), [.t 25, .c (.int .i64 4)], .p (.bin .rem), none⟩,
   ⟨(some 27), [.t 26, .c (.int .i64 4)], .p (.bin .add), none⟩,
   ⟨(some 28), [.t 27, .c (.int .i64 4)], .p (.bin .rem), none⟩])
 (.block 0
  (.seq (.ops [⟨(some 35), [.t 28, .c (.int .i64 0)], .p (.bin .eql), none⟩,
    ⟨(some 34), [.t 35], .p (.mov), none⟩])
  (.cond (.t 34)
   (.ops [⟨(some 36), [.t 8], .p (.fAddr 0), none⟩,
     ⟨(some 37), [.t 36], .r (.load none), none⟩,
     ⟨(some 38), [.t 2], .p (.mov), none⟩,
     ⟨(some 39), [.t 37, .t 38], .p (.bin .add), none⟩,
     ⟨(some 40), [.t 8], .p (.fAddr 0), none⟩,
     ⟨none, [.t 40, .t 39], .w (.store 1), none⟩])
   (.seq (.ops [⟨(some 42), [.t 28, .c (.int .i64 1)], .p (.bin .eql), none⟩,
     ⟨(some 41), [.t 42], .p (.mov), none⟩])
   (.cond (.t 41)
    (.ops [⟨(some 43), [.t 8], .p (.fAddr 1), none⟩,
      ⟨(some 44), [.t 43], .r (.load none), none⟩,
      ⟨(some 45), [.t 2], .p (.mov), none⟩,
      ⟨(some 46), [.t 44, .t 45], .p (.bin .add), none⟩,
      ⟨(some 47), [.t 8], .p (.fAddr 1), none⟩,
      ⟨none, [.t 47, .t 46], .w (.store 1), none⟩])
    (.seq (.ops [⟨(some 49), [.t 28, .c (.int .i64 2)], .p (.bin .eql), none⟩,
      ⟨(some 48), [.t 49], .p (.mov), none⟩])
    (.cond (.t 48)
     (.ops [⟨(some 50), [.t 8], .p (.fAddr 2), none⟩,
       ⟨(some 51), [.t 50], .r (.load none), none⟩,
       ⟨(some 52), [.t 2], .p (.mov), none⟩,
       ⟨(some 53), [.t 51, .t 52], .p (.bin .add), none⟩,
       ⟨(some 54), [.t 8], .p (.fAddr 2), none⟩,
       ⟨none, [.t 54, .t 53], .w (.store 1), none⟩])
     (.ops [⟨(some 29), [.t 8], .p (.fAddr 3), none⟩,
       ⟨(some 30), [.t 29], .r (.load none), none⟩,
       ⟨(some 31), [.t 2], .p (.mov), none⟩,
       ⟨(some 32), [.t 30, .t 31], .p (.bin .add), none⟩,
       ⟨(some 33), [.t 8], .p (.fAddr 3), none⟩,
       ⟨none, [.t 33, .t 32], .w (.store 1), none⟩])))))))))
 (.seq (.ops [⟨(some 9), [], .n (.alloc [(.slice none 0 (.exact 0))]), none⟩,
   ⟨(some 10), [], .n (.alloc [(.slice none 0 (.exact 0))]), none⟩])
 (.seq (.ops [⟨(some 56), [.t 3], .r (.load (some 4)), none⟩,
   ⟨(some 57), [.t 9, .t 56], .w (.callF f_palette_Palette_Add), none⟩,
   ⟨(some 55), [.t 57], .p (.mov), none⟩,
   ⟨(some 58), [.t 55], .p (.ext 0), none⟩,
   ⟨(some 59), [.t 55], .p (.ext 1), none⟩,
   ⟨(some 11), [.t 58], .p (.mov), none⟩,
   ⟨(some 12), [.t 59], .p (.mov), none⟩])
 (.seq (.ops [⟨(some 61), [.t 8], .r (.load (some 4)), none⟩,
   ⟨(some 62), [.t 9, .t 61], .w (.callF f_palette_Palette_Add), none⟩,
   ⟨(some 60), [.t 62], .p (.mov), none⟩,
   ⟨(some 63), [.t 60], .p (.ext 0), none⟩,
   ⟨(some 64), [.t 60], .p (.ext 1), none⟩,
   ⟨(some 13), [.t 63], .p (.mov), none⟩,
   ⟨(some 14), [.t 64], .p (.mov), none⟩])
 (.seq (.ops [⟨(some 66), [.t 8], .r (.load (some 4)), none⟩,
   ⟨(some 67), [.t 10, .t 66], .w (.callF f_palette_Palette_Add), none⟩,
   ⟨(some 65), [.t 67], .p (.mov), none⟩,
   ⟨(some 68), [.t 65], .p (.ext 0), none⟩,
   ⟨(some 69), [.t 65], .p (.ext 1), none⟩,
   ⟨(some 15), [.t 68], .p (.mov), none⟩,
   ⟨(some 16), [.t 69], .p (.mov), none⟩])
 (.seq (.ops [⟨(some 71), [.t 3], .r (.load (some 4)), none⟩,
   ⟨(some 72), [.t 10, .t 71], .w (.callF f_palette_Palette_Add), none⟩,
   ⟨(some 70), [.t 72], .p (.mov), none⟩,
   ⟨(some 73), [.t 70], .p (.ext 0), none⟩,
   ⟨(some 74), [.t 70], .p (.ext 1), none⟩,
   ⟨(some 17), [.t 73], .p (.mov), none⟩,
   ⟨(some 18), [.t 74], .p (.mov), none⟩])
 (.seq (.ops [⟨(some 75), [.t 7], .p (.mov), none⟩,
   ⟨(some 76), [.t 75], .p (.mov), none⟩,
   ⟨(some 77), [.t 11], .p (.mov), some (76, true)⟩,
   ⟨(some 78), [.t 77, .c (.int .i64 0)], .p (.bin .eql), some (76, true)⟩,
   ⟨(some 79), [.t 76, .t 78, .c (.bool false)], .p (.pick), none⟩,
   ⟨(some 80), [.t 79], .p (.mov), none⟩,
   ⟨(some 81), [.t 13], .p (.mov), some (80, true)⟩,
   ⟨(some 82), [.t 81, .c (.int .i64 1)], .p (.bin .eql), some (80, true)⟩,
   ⟨(some 83), [.t 80, .t 82, .c (.bool false)], .p (.pick), none⟩,
   ⟨(some 84), [.t 83], .p (.mov), none⟩,
   ⟨(some 85), [.t 15], .p (.mov), some (84, true)⟩,
   ⟨(some 86), [.t 85, .c (.int .i64 0)], .p (.bin .eql), some (84, true)⟩,
   ⟨(some 87), [.t 84, .t 86, .c (.bool false)], .p (.pick), none⟩,
   ⟨(some 88), [.t 87], .p (.mov), none⟩,
   ⟨(some 89), [.t 17], .p (.mov), some (88, true)⟩,
   ⟨(some 90), [.t 89, .c (.int .i64 1)], .p (.bin .eql), some (88, true)⟩,
   ⟨(some 91), [.t 88, .t 90, .c (.bool false)], .p (.pick), none⟩,
   ⟨(some 92), [.t 91], .p (.mov), none⟩,
   ⟨(some 93), [.t 8], .r (.load (some 4)), some (92, true)⟩,
   ⟨(some 94), [.t 9, .t 93], .w (.callF f_palette_Palette_Find), some (92, true)⟩,
   ⟨(some 95), [.t 94, .c (.int .i64 1)], .p (.bin .eql), some (92, true)⟩,
   ⟨(some 96), [.t 92, .t 95, .c (.bool false)], .p (.pick), none⟩,
   ⟨(some 97), [.t 96], .p (.mov), none⟩,
   ⟨(some 98), [.t 3], .r (.load (some 4)), some (97, true)⟩,
   ⟨(some 99), [.t 10, .t 98], .w (.callF f_palette_Palette_Find), some (97, true)⟩,
   ⟨(some 100), [.t 99, .c (.int .i64 1)], .p (.bin .eql), some (97, true)⟩,
   ⟨(some 101), [.t 97, .t 100, .c (.bool false)], .p (.pick), none⟩,
   ⟨(some 102), [.t 101], .p (.mov), none⟩,
   ⟨(some 103), [.t 9], .w (.callF f_palette_Palette_Colors), some (102, true)⟩,
   ⟨(some 104), [.t 103], .p (.lenSl), some (102, true)⟩,
   ⟨(some 105), [.t 104, .c (.int .i64 2)], .p (.bin .eql), some (102, true)⟩,
   ⟨(some 106), [.t 102, .t 105, .c (.bool false)], .p (.pick), none⟩,
   ⟨(some 6), [.t 106], .p (.mov), none⟩])
 (.ret))))))))))))
def r_glyphiclaw16_PaletteApart : List ARes := [.tmp 6]
def F_glyphiclaw16_PaletteApart : AFunc := .code c_glyphiclaw16_PaletteApart r_glyphiclaw16_PaletteApart
/- color.Wide -/
def c_color_Wide : AC :=
 .seq (.ops [⟨(some 1), [.t 0], .n (.box), none⟩,
   ⟨(some 2), [], .n (.alloc [(.int .i64 0), (.int .i64 0), (.int .i64 0), (.int .i64 0)]), none⟩])
 (.seq (.ops [⟨(some 3), [.t 1], .p (.fAddr 0), none⟩,
   ⟨(some 4), [.t 3], .r (.load none), none⟩,
   ⟨(some 5), [.t 4], .p (.conv .i64), none⟩,
   ⟨(some 6), [.c (.int .i64 257), .t 5], .p (.bin .mul), none⟩,
   ⟨(some 7), [.t 1], .p (.fAddr 1), none⟩,
   ⟨(some 8), [.t 7], .r (.load none), none⟩,
   ⟨(some 9), [.t 8], .p (.conv .i64), none⟩,
   ⟨(some 10), [.c (.int .i64 257), .t 9], .p (.bin .mul), none⟩,
   ⟨(some 11), [.t 1], .p (.fAddr 2), none⟩,
   ⟨(some 12), [.t 11], .r (.load none), none⟩,
   ⟨(some 13), [.t 12], .p (.conv .i64), none⟩,
   ⟨(some 14), [.c (.int .i64 257), .t 13], .p (.bin .mul), none⟩,
   ⟨(some 15), [.t 1], .p (.fAddr 3), none⟩,
   ⟨(some 16), [.t 15], .r (.load none), none⟩,
   ⟨(some 17), [.t 16], .p (.conv .i64), none⟩,
   ⟨(some 18), [.c (.int .i64 257), .t 17], .p (.bin .mul), none⟩,
   ⟨(some 19), [.t 6, .t 10, .t 14, .t 18], .p (.build [(.int .i64 0), (.int .i64 0), (.int .i64 0), (.int .i64 0)] [(0, 1), (1, 1), (2, 1), (3, 1)]), none⟩,
   ⟨none, [.t 2, .t 19], .w (.store 4), none⟩])
 (.ret))
def r_color_Wide : List ARes := [.cell 2 (some 4)]
def F_color_Wide : AFunc := .code c_color_Wide r_color_Wide
/- color.Show -/
def c_color_Show_l0 : AC :=
 .seq (.ops [⟨(some 17), [.t 16, .c (.int .i64 4)], .p (.bin .lss), none⟩])
   (.seq (.cond (.t 17)
    (.skip)
    (.exit 0))
   (.seq (.block 1
    (.seq (.ops [⟨(some 18), [.t 16], .p (.mov), none⟩,
      ⟨(some 19), [.t 15, .t 16], .p (.idxArr 4 1 none), none⟩,
      ⟨(some 4), [.t 18], .p (.mov), none⟩,
      ⟨(some 5), [.t 19], .p (.mov), none⟩])
    (.seq (.ops [⟨(some 20), [.t 4], .p (.mov), none⟩,
      ⟨(some 21), [.t 20, .c (.int .i64 3)], .p (.bin .lss), none⟩,
      ⟨(some 22), [.t 21], .p (.mov), none⟩,
      ⟨(some 23), [.t 5], .p (.mov), some (22, false)⟩,
      ⟨(some 24), [.t 23, .c (.int .u8 255)], .p (.bin .neq), some (22, false)⟩,
      ⟨(some 25), [.t 22, .c (.bool true), .t 24], .p (.pick), none⟩])
    (.cond (.t 25)
     (.draw [(⟨(some 26), [.t 3], .p (.mov), none⟩, 0),
       (⟨(some 27), [.t 5], .p (.mov), none⟩, 0),
       (⟨(some 28), [.t 27, .c (.int .u64 4)], .p (.bin .shr), none⟩, 0),
       (⟨(some 29), [.c (.str [48, 49, 50, 51, 52, 53, 54, 55, 56, 57, 97, 98, 99, 100, 101, 102]), .t 28], .p (.idxStr), none⟩, 0),
       (⟨(some 30), [.t 5], .p (.mov), none⟩, 0),
       (⟨(some 31), [.t 30, .c (.int .u8 15)], .p (.bin .and), none⟩, 0),
       (⟨(some 32), [.c (.str [48, 49, 50, 51, 52, 53, 54, 55, 56, 57, 97, 98, 99, 100, 101, 102]), .t 31], .p (.idxStr), none⟩, 0),
       (⟨(some 33), [.t 29, .t 32], .n (.bslice 2 [(.int .u8 0), (.int .u8 0)] [(0, 1), (1, 1)]), none⟩, 0),
       (⟨(some 34), [.t 26, .t 33], .w (.append 1 1), none⟩, 0),
       (⟨(some 3), [.t 34], .p (.mov), none⟩, 0)])
     (.skip)))))
   (.ops [⟨(some 35), [.t 16, .c (.int .i64 1)], .p (.bin .add), none⟩,
     ⟨(some 16), [.t 35], .p (.mov), none⟩])))
def c_color_Show : AC :=
 .seq (.ops [⟨(some 1), [.t 0], .n (.box), none⟩,
   ⟨(some 2), [.c (.str [])], .p (.mov), none⟩])
 (.seq (.ops [⟨(some 6), [.c (.int .u8 35)], .n (.bslice 1 [(.int .u8 0)] [(0, 1)]), none⟩,
   ⟨(some 3), [.t 6], .p (.mov), none⟩])
 (.seq (.seq (.ops [⟨(some 7), [.t 1], .p (.fAddr 0), none⟩,
   ⟨(some 8), [.t 7], .r (.load none), none⟩,
   ⟨(some 9), [.t 1], .p (.fAddr 1), none⟩,
   ⟨(some 10), [.t 9], .r (.load none), none⟩,
   ⟨(some 11), [.t 1], .p (.fAddr 2), none⟩,
   ⟨(some 12), [.t 11], .r (.load none), none⟩,
   ⟨(some 13), [.t 1], .p (.fAddr 3), none⟩,
   ⟨(some 14), [.t 13], .r (.load none), none⟩,
   ⟨(some 15), [.t 8, .t 10, .t 12, .t 14], .p (.build [(.int .u8 0), (.int .u8 0), (.int .u8 0), (.int .u8 0)] [(0, 1), (1, 1), (2, 1), (3, 1)]), none⟩,
   ⟨(some 16), [.c (.int .i64 0)], .p (.mov), none⟩])
 (.block 0
  (.loop c_color_Show_l0)))
 (.seq (.ops [⟨(some 36), [.t 3], .p (.mov), none⟩,
   ⟨(some 37), [.t 36], .r (.b2s), none⟩,
   ⟨(some 2), [.t 37], .p (.mov), none⟩])
 (.ret))))
def r_color_Show : List ARes := [.tmp 2]
def F_color_Show : AFunc := .code c_color_Show r_color_Show
/- glyphicref.SameColor -/
def c_glyphicref_SameColor : AC :=
 .seq (.ops [⟨(some 2), [.t 0], .n (.box), none⟩,
   ⟨(some 3), [.t 1], .n (.box), none⟩,
   ⟨(some 4), [.c (.bool false)], .p (.mov), none⟩])
 (.seq (.ops [⟨(some 5), [.t 2], .p (.fAddr 0), none⟩,
   ⟨(some 6), [.t 5], .r (.load none), none⟩,
   ⟨(some 7), [.t 3], .p (.fAddr 0), none⟩,
   ⟨(some 8), [.t 7], .r (.load none), none⟩,
   ⟨(some 9), [.t 6, .t 8], .p (.bin .eql), none⟩,
   ⟨(some 10), [.t 9], .p (.mov), none⟩,
   ⟨(some 11), [.t 2], .p (.fAddr 1), some (10, true)⟩,
   ⟨(some 12), [.t 11], .r (.load none), some (10, true)⟩,
   ⟨(some 13), [.t 3], .p (.fAddr 1), some (10, true)⟩,
   ⟨(some 14), [.t 13], .r (.load none), some (10, true)⟩,
   ⟨(some 15), [.t 12, .t 14], .p (.bin .eql), some (10, true)⟩,
   ⟨(some 16), [.t 10, .t 15, .c (.bool false)], .p (.pick), none⟩,
   ⟨(some 17), [.t 16], .p (.mov), none⟩,
   ⟨(some 18), [.t 2], .p (.fAddr 2), some (17, true)⟩,
   ⟨(some 19), [.t 18], .r (.load none), some (17, true)⟩,
   ⟨(some 20), [.t 3], .p (.fAddr 2), some (17, true)⟩,
   ⟨(some 21), [.t 20], .r (.load none), some (17, true)⟩,
   ⟨(some 22), [.t 19, .t 21], .p (.bin .eql), some (17, true)⟩,
   ⟨(some 23), [.t 17, .t 22, .c (.bool false)], .p (.pick), none⟩,
   ⟨(some 24), [.t 23], .p (.mov), none⟩,
   ⟨(some 25), [.t 2], .p (.fAddr 3), some (24, true)⟩,
   ⟨(some 26), [.t 25], .r (.load none), some (24, true)⟩,
   ⟨(some 27), [.t 3], .p (.fAddr 3), some (24, true)⟩,
   ⟨(some 28), [.t 27], .r (.load none), some (24, true)⟩,
   ⟨(some 29), [.t 26, .t 28], .p (.bin .eql), some (24, true)⟩,
   ⟨(some 30), [.t 24, .t 29, .c (.bool false)], .p (.pick), none⟩,
   ⟨(some 4), [.t 30], .p (.mov), none⟩])
 (.ret))
def r_glyphicref_SameColor : List ARes := [.tmp 4]
def F_glyphicref_SameColor : AFunc := .code c_glyphicref_SameColor r_glyphicref_SameColor
/- glyphiclaw16.first -/
def c_glyphiclaw16_first : AC :=
 .seq (.ops [⟨(some 0), [.c (.bool false)], .p (.mov), none⟩])
 (.seq (.ops [⟨(some 1), [], .n (.alloc [(.slice none 0 (.exact 0))]), none⟩])
 (.seq (.ops [⟨(some 5), [.c (.int .u8 1)], .p (.build [(.int .u8 0), (.int .u8 0), (.int .u8 0), (.int .u8 0)] [(0, 1)]), none⟩,
   ⟨(some 6), [.t 1, .t 5], .w (.callF f_palette_Palette_Add), none⟩,
   ⟨(some 4), [.t 6], .p (.mov), none⟩,
   ⟨(some 7), [.t 4], .p (.ext 0), none⟩,
   ⟨(some 8), [.t 4], .p (.ext 1), none⟩,
   ⟨(some 2), [.t 7], .p (.mov), none⟩,
   ⟨(some 3), [.t 8], .p (.mov), none⟩])
 (.seq (.ops [⟨(some 9), [.t 2], .p (.mov), none⟩,
   ⟨(some 10), [.t 9, .c (.int .i64 0)], .p (.bin .eql), none⟩,
   ⟨(some 11), [.t 10], .p (.mov), none⟩,
   ⟨(some 12), [.t 3], .p (.mov), some (11, true)⟩,
   ⟨(some 13), [.t 11, .t 12, .c (.bool false)], .p (.pick), none⟩,
   ⟨(some 14), [.t 13], .p (.mov), none⟩,
   ⟨(some 15), [.t 1], .w (.callF f_palette_Palette_Colors), some (14, true)⟩,
   ⟨(some 16), [.t 15], .p (.lenSl), some (14, true)⟩,
   ⟨(some 17), [.t 16, .c (.int .i64 1)], .p (.bin .eql), some (14, true)⟩,
   ⟨(some 18), [.t 14, .t 17, .c (.bool false)], .p (.pick), none⟩,
   ⟨(some 19), [.t 18], .p (.mov), none⟩,
   ⟨(some 20), [], .p (.build [(.int .u8 0), (.int .u8 0), (.int .u8 0), (.int .u8 0)] []), some (19, true)⟩,
   ⟨(some 21), [.t 1, .t 20], .w (.callF f_palette_Palette_Find), some (19, true)⟩,
   ⟨(some 22), [.t 21, .c (.int .i64 (-1))], .p (.bin .eql), some (19, true)⟩,
   ⟨(some 23), [.t 19, .t 22, .c (.bool false)], .p (.pick), none⟩,
   ⟨(some 0), [.t 23], .p (.mov), none⟩])
 (.ret))))
def r_glyphiclaw16_first : List ARes := [.tmp 0]
def F_glyphiclaw16_first : AFunc := .code c_glyphiclaw16_first r_glyphiclaw16_first
/- (*palette.Palette).Add -/
def c_palette_Palette_Add : AC :=
 .seq (.ops [⟨(some 3), [.t 1], .n (.box), none⟩,
   ⟨(some 4), [.c (.int .i64 0)], .p (.mov), none⟩,
   ⟨(some 5), [.c (.bool false)], .p (.mov), none⟩])
 (.seq (.ops [⟨(some 7), [.t 0], .p (.mov), none⟩,
   ⟨(some 8), [.t 3], .r (.load (some 4)), none⟩,
   ⟨(some 9), [.t 7, .t 8], .w (.callF f_palette_Palette_Find), none⟩,
   ⟨(some 6), [.t 9], .p (.mov), none⟩])
 (.seq (.block 0
  (.seq (.ops [⟨(some 11), [.t 6], .p (.mov), none⟩,
    ⟨(some 12), [.t 11, .c (.int .i64 0)], .p (.bin .geq), none⟩,
    ⟨(some 10), [.t 12], .p (.mov), none⟩])
  (.cond (.t 10)
   (.seq (.ops [⟨(some 13), [.t 6], .p (.mov), none⟩,
     ⟨(some 4), [.t 13], .p (.mov), none⟩,
     ⟨(some 5), [.c (.bool true)], .p (.mov), none⟩])
   (.ret))
   (.seq (.ops [⟨(some 15), [.t 0], .p (.mov), none⟩,
     ⟨(some 16), [.t 15], .p (.nilChk), none⟩,
     ⟨(some 17), [.t 16], .p (.fAddr 0), none⟩,
     ⟨(some 18), [.t 17], .r (.load none), none⟩,
     ⟨(some 19), [.t 18], .p (.lenSl), none⟩,
     ⟨(some 20), [.t 19, .c (.int .i64 256)], .p (.bin .geq), none⟩,
     ⟨(some 14), [.t 20], .p (.mov), none⟩])
   (.cond (.t 14)
    (.seq (.ops [⟨(some 4), [.c (.int .i64 (-1))], .p (.mov), none⟩,
      ⟨(some 5), [.c (.bool false)], .p (.mov), none⟩])
    (.ret))
    (.skip))))))
 (.seq (.draw [(⟨(some 22), [.t 0], .p (.mov), none⟩, 0),
   (⟨(some 23), [.t 22], .p (.nilChk), none⟩, 0),
   (⟨(some 24), [.t 23], .p (.fAddr 0), none⟩, 0),
   (⟨(some 25), [.t 24], .r (.load none), none⟩, 0),
   (⟨(some 26), [.t 3], .r (.load (some 4)), none⟩, 0),
   (⟨(some 27), [.t 26], .n (.bslice 1 [(.int .u8 0), (.int .u8 0), (.int .u8 0), (.int .u8 0)] [(0, 4)]), none⟩, 0),
   (⟨(some 28), [.t 25, .t 27], .w (.append 4 4), none⟩, 0),
   (⟨(some 21), [.t 0], .p (.mov), none⟩, 0),
   (⟨(some 29), [.t 21], .p (.nilChk), none⟩, 0),
   (⟨(some 30), [.t 29], .p (.fAddr 0), none⟩, 0),
   (⟨none, [.t 30, .t 28], .w (.store 1), none⟩, 0)])
 (.seq (.ops [⟨(some 31), [.t 0], .p (.mov), none⟩,
   ⟨(some 32), [.t 31], .p (.nilChk), none⟩,
   ⟨(some 33), [.t 32], .p (.fAddr 0), none⟩,
   ⟨(some 34), [.t 33], .r (.load none), none⟩,
   ⟨(some 35), [.t 34], .p (.lenSl), none⟩,
   ⟨(some 36), [.t 35, .c (.int .i64 1)], .p (.bin .sub), none⟩,
   ⟨(some 4), [.t 36], .p (.mov), none⟩,
   ⟨(some 5), [.c (.bool true)], .p (.mov), none⟩])
 (.ret)))))
def r_palette_Palette_Add : List ARes := [.tmp 4, .tmp 5]
def F_palette_Palette_Add : AFunc := .code c_palette_Palette_Add r_palette_Palette_Add
/- (*palette.Palette).Find -/
def c_palette_Palette_Find : AC :=
 .seq (.ops [⟨(some 3), [.t 1], .n (.box), none⟩,
   ⟨(some 4), [.c (.int .i64 0)], .p (.mov), none⟩])
 (.seq (.draw [(⟨(some 5), [.t 0], .p (.mov), none⟩, 0),
   (⟨(some 6), [.t 5], .p (.nilChk), none⟩, 0),
   (⟨(some 7), [.t 6], .p (.fAddr 0), none⟩, 0),
   (⟨(some 8), [.t 7], .r (.load none), none⟩, 0),
   (⟨(some 9), [.t 3], .r (.load (some 4)), none⟩, 0),
   (⟨(some 10), [.t 8, .t 9], .w (.callF f_slices_Index__api_Color_api_Color), none⟩, 0),
   (⟨(some 4), [.t 10], .p (.mov), none⟩, 0)])
 (.ret))
def r_palette_Palette_Find : List ARes := [.tmp 4]
def F_palette_Palette_Find : AFunc := .code c_palette_Palette_Find r_palette_Palette_Find
/- (*palette.Palette).Colors -/
def c_palette_Palette_Colors : AC :=
 .seq (.ops [⟨(some 2), [.c (.slice none 0 (.exact 0))], .p (.mov), none⟩])
 (.seq (.ops [⟨(some 3), [.t 0], .p (.mov), none⟩,
   ⟨(some 4), [.t 3], .p (.nilChk), none⟩,
   ⟨(some 5), [.t 4], .p (.fAddr 0), none⟩,
   ⟨(some 6), [.t 5], .r (.load none), none⟩,
   ⟨(some 7), [.t 6], .w (.callF f_slices_Clone__api_Color_api_Color), none⟩,
   ⟨(some 2), [.t 7], .p (.mov), none⟩])
 (.ret))
def r_palette_Palette_Colors : List ARes := [.tmp 2]
def F_palette_Palette_Colors : AFunc := .code c_palette_Palette_Colors r_palette_Palette_Colors
/- slices.Index[[]api.Color,api.Color] -/
def c_slices_Index__api_Color_api_Color_l0 : AC :=
 .seq (.ops [⟨(some 9), [.t 8, .t 7], .p (.bin .lss), none⟩])
   (.seq (.cond (.t 9)
    (.skip)
    (.exit 0))
   (.seq (.block 1
    (.seq (.ops [⟨(some 10), [.t 8], .p (.mov), none⟩,
      ⟨(some 5), [.t 10], .p (.mov), none⟩])
    (.seq (.draw [(⟨(some 11), [.t 3], .r (.load (some 4)), none⟩, 0),
      (⟨(some 12), [.t 0], .p (.mov), none⟩, 0),
      (⟨(some 13), [.t 5], .p (.mov), none⟩, 0),
      (⟨(some 14), [.t 12, .t 13], .p (.iAddrS 4), none⟩, 0),
      (⟨(some 15), [.t 14], .r (.load (some 4)), none⟩, 0),
      (⟨(some 16), [.t 11, .t 15], .r (.eq false (.agg [(0, none, .int), (1, none, .int), (2, none, .int), (3, none, .int)])), none⟩, 0)])
    (.cond (.t 16)
     (.seq (.ops [⟨(some 17), [.t 5], .p (.mov), none⟩,
       ⟨(some 4), [.t 17], .p (.mov), none⟩])
     (.ret))
     (.skip)))))
   (.ops [⟨(some 18), [.t 8, .c (.int .i64 1)], .p (.bin .add), none⟩,
     ⟨(some 8), [.t 18], .p (.mov), none⟩])))
def c_slices_Index__api_Color_api_Color : AC :=
 .seq (.ops [⟨(some 3), [.t 1], .n (.box), none⟩,
   ⟨(some 4), [.c (.int .i64 0)], .p (.mov), none⟩])
 (.seq (.seq (.ops [⟨(some 6), [.t 0], .p (.mov), none⟩,
   ⟨(some 7), [.t 6], .p (.lenSl), none⟩,
   ⟨(some 8), [.c (.int .i64 0)], .p (.mov), none⟩])
 (.block 0
  (.loop c_slices_Index__api_Color_api_Color_l0)))
 (.seq (.ops [⟨(some 4), [.c (.int .i64 (-1))], .p (.mov), none⟩])
 (.ret)))
def r_slices_Index__api_Color_api_Color : List ARes := [.tmp 4]
def F_slices_Index__api_Color_api_Color : AFunc := .code c_slices_Index__api_Color_api_Color r_slices_Index__api_Color_api_Color
/- slices.Clone[[]api.Color,api.Color] -/
def c_slices_Clone__api_Color_api_Color : AC :=
 .seq (.ops [⟨(some 2), [.c (.slice none 0 (.exact 0))], .p (.mov), none⟩])
 (.seq (.seq (.ops [⟨(some 3), [.t 0], .p (.mov), none⟩,
   ⟨(some 4), [.t 3, .c (.slice none 0 (.exact 0))], .r (.eq false .nilS), none⟩])
 (.cond (.t 4)
  (.seq (.ops [⟨(some 2), [.c (.slice none 0 (.exact 0))], .p (.mov), none⟩])
  (.ret))
  (.skip)))
 (.seq (.ops [⟨(some 5), [], .n (.bslice 0 [] []), none⟩,
   ⟨(some 6), [.t 0], .p (.mov), none⟩,
   ⟨(some 7), [.t 5, .t 6], .w (.append 4 4), none⟩,
   ⟨(some 2), [.t 7], .p (.mov), none⟩])
 (.ret)))
def r_slices_Clone__api_Color_api_Color : List ARes := [.tmp 2]
def F_slices_Clone__api_Color_api_Color : AFunc := .code c_slices_Clone__api_Color_api_Color r_slices_Clone__api_Color_api_Color
def cfg : Cfg := ⟨[], []⟩
def envL : List (Nat × AFunc) := [(f_glyphiclaw16_PaletteApart, F_glyphiclaw16_PaletteApart), (f_color_Wide, F_color_Wide), (f_color_Show, F_color_Show), (f_glyphicref_SameColor, F_glyphicref_SameColor), (f_glyphiclaw16_first, F_glyphiclaw16_first), (f_palette_Palette_Add, F_palette_Palette_Add), (f_palette_Palette_Find, F_palette_Palette_Find), (f_palette_Palette_Colors, F_palette_Palette_Colors), (f_slices_Index__api_Color_api_Color, F_slices_Index__api_Color_api_Color), (f_slices_Clone__api_Color_api_Color, F_slices_Clone__api_Color_api_Color)]
theorem E_glyphiclaw16_PaletteApart : lookE envL f_glyphiclaw16_PaletteApart = some F_glyphiclaw16_PaletteApart := rfl
theorem E_color_Wide : lookE envL f_color_Wide = some F_color_Wide := rfl
theorem E_color_Show : lookE envL f_color_Show = some F_color_Show := rfl
theorem E_glyphicref_SameColor : lookE envL f_glyphicref_SameColor = some F_glyphicref_SameColor := rfl
theorem E_glyphiclaw16_first : lookE envL f_glyphiclaw16_first = some F_glyphiclaw16_first := rfl
theorem E_palette_Palette_Add : lookE envL f_palette_Palette_Add = some F_palette_Palette_Add := rfl
theorem E_palette_Palette_Find : lookE envL f_palette_Palette_Find = some F_palette_Palette_Find := rfl
theorem E_palette_Palette_Colors : lookE envL f_palette_Palette_Colors = some F_palette_Palette_Colors := rfl
theorem E_slices_Index__api_Color_api_Color : lookE envL f_slices_Index__api_Color_api_Color = some F_slices_Index__api_Color_api_Color := rfl
theorem E_slices_Clone__api_Color_api_Color : lookE envL f_slices_Clone__api_Color_api_Color = some F_slices_Clone__api_Color_api_Color := rfl
end Go.IR
