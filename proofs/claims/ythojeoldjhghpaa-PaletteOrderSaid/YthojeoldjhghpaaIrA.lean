/- The functions that the seat's laws reach, as the fast run has them; under names that do not hang on the seat. By program (wip/pr2.py). -/
import Derived.Test.YthojeoldjhghpaaFrT
namespace Go.IR
set_option linter.unusedVariables false
set_option linter.unusedSimpArgs false
open Go Go.FR
abbrev f_glyphiclaw16_PaletteOrder : Nat := 12
abbrev f_color_Wide : Nat := 14
abbrev f_color_Show : Nat := 15
abbrev f_glyphicref_SameColor : Nat := 16
abbrev f_glyphicmake_Edges : Nat := 22
abbrev f_glyphicmake_Ring : Nat := 23
abbrev f_glyphicmake_Point : Nat := 24
abbrev f_wind_One : Nat := 25
abbrev f_glyphicref20_One : Nat := 26
abbrev f_wind_Number : Nat := 27
abbrev f_glyphicref20_Number : Nat := 28
abbrev f_wind_Inside : Nat := 29
abbrev f_glyphicref20_Inside : Nat := 30
abbrev f_glyphiclaw16_first : Nat := 34
abbrev f_palette_Palette_Add : Nat := 35
abbrev f_palette_Palette_Find : Nat := 36
abbrev f_palette_Palette_Colors : Nat := 37
abbrev f_glyphicmake_Color : Nat := 38
abbrev f_glyphicref12_Find : Nat := 39
abbrev f_glyphicref_SameColors : Nat := 40
abbrev f_glyphicmake_Seq_Next : Nat := 42
abbrev f_plane_Cross : Nat := 43
abbrev f_glyphicref1_Cross : Nat := 44
abbrev f_slices_Index__api_Color_api_Color : Nat := 45
abbrev f_slices_Clone__api_Color_api_Color : Nat := 46
abbrev f_glyphicworld_Number : Nat := 47
abbrev f_plane_Sub : Nat := 48
/- glyphiclaw16.PaletteOrder -/
def c_glyphiclaw16_PaletteOrder_l0 : AC :=
 .seq (.seq (.ops [⟨(some 84), [.t 13], .p (.mov), none⟩,
     ⟨(some 85), [.t 12], .p (.mov), none⟩,
     ⟨(some 86), [.t 85], .p (.lenSl), none⟩,
     ⟨(some 87), [.t 84, .t 86], .p (.bin .lss), none⟩])
   (.cond (.t 87)
    (.skip)
    (.exit 2)))
   (.seq (.block 3
    (.seq (.ops [⟨(some 90), [.t 12], .p (.mov), none⟩,
      ⟨(some 91), [.t 13], .p (.mov), none⟩,
      ⟨(some 92), [.t 90, .t 91], .p (.iAddrS 4), none⟩,
      ⟨(some 93), [.t 92], .r (.load (some 4)), none⟩,
      ⟨(some 94), [.t 4, .t 93], .w (.callF f_palette_Palette_Find), none⟩,
      ⟨(some 95), [.t 13], .p (.mov), none⟩,
      ⟨(some 96), [.t 94, .t 95], .p (.bin .neq), none⟩])
    (.cond (.t 96)
     (.seq (.ops [⟨(some 2), [.c (.bool false)], .p (.mov), none⟩])
     (.ret))
     (.skip))))
   (.ops [⟨(some 88), [.t 13], .p (.mov), none⟩,
     ⟨(some 89), [.t 88, .c (.int .i64 1)], .p (.bin .add), none⟩,
     ⟨(some 13), [.t 89], .p (.mov), none⟩]))
def c_glyphiclaw16_PaletteOrder_l1 : AC :=
 .seq (.seq (.ops [⟨(some 24), [.t 6], .p (.mov), none⟩,
     ⟨(some 25), [.t 0], .p (.mov), none⟩,
     ⟨(some 26), [.t 25], .p (.lenSl), none⟩,
     ⟨(some 27), [.t 24, .t 26], .p (.bin .lss), none⟩])
   (.cond (.t 27)
    (.skip)
    (.exit 0)))
   (.seq (.block 1
    (.seq (.ops [⟨(some 30), [.t 5], .p (.mov), none⟩,
      ⟨(some 31), [.t 30], .w (.callF f_glyphicmake_Color), none⟩,
      ⟨(some 7), [], .n (.alloc [(.int .u8 0), (.int .u8 0), (.int .u8 0), (.int .u8 0)]), none⟩,
      ⟨none, [.t 7, .t 31], .w (.store 4), none⟩])
    (.seq (.ops [⟨(some 32), [.t 7], .r (.load (some 4)), none⟩,
      ⟨(some 33), [.t 4, .t 32], .w (.callF f_palette_Palette_Find), none⟩,
      ⟨(some 8), [.t 33], .p (.mov), none⟩])
    (.seq (.ops [⟨(some 34), [.t 4], .w (.callF f_palette_Palette_Colors), none⟩,
      ⟨(some 35), [.t 34], .p (.lenSl), none⟩,
      ⟨(some 9), [.t 35], .p (.mov), none⟩])
    (.seq (.ops [⟨(some 37), [.t 7], .r (.load (some 4)), none⟩,
      ⟨(some 38), [.t 4, .t 37], .w (.callF f_palette_Palette_Add), none⟩,
      ⟨(some 36), [.t 38], .p (.mov), none⟩,
      ⟨(some 39), [.t 36], .p (.ext 0), none⟩,
      ⟨(some 40), [.t 36], .p (.ext 1), none⟩,
      ⟨(some 10), [.t 39], .p (.mov), none⟩,
      ⟨(some 11), [.t 40], .p (.mov), none⟩])
    (.seq (.draw [(⟨(some 41), [.t 11], .p (.mov), none⟩, 0),
      (⟨(some 42), [.t 41], .p (.un .not), none⟩, 0),
      (⟨(some 43), [.t 42], .p (.mov), none⟩, 0),
      (⟨(some 44), [.t 8], .p (.mov), some (43, false)⟩, 0),
      (⟨(some 45), [.t 44, .c (.int .i64 0)], .p (.bin .geq), some (43, false)⟩, 0),
      (⟨(some 46), [.t 45], .p (.mov), some (43, false)⟩, 0),
      (⟨(some 47), [.t 10], .p (.mov), some (46, true)⟩, 0),
      (⟨(some 48), [.t 8], .p (.mov), some (46, true)⟩, 0),
      (⟨(some 49), [.t 47, .t 48], .p (.bin .neq), some (46, true)⟩, 0),
      (⟨(some 50), [.t 49], .p (.mov), some (46, true)⟩, 0),
      (⟨(some 51), [.t 4], .w (.callF f_palette_Palette_Colors), some (50, false)⟩, 0),
      (⟨(some 52), [.t 51], .p (.lenSl), some (50, false)⟩, 0),
      (⟨(some 53), [.t 9], .p (.mov), some (50, false)⟩, 0),
      (⟨(some 54), [.t 52, .t 53], .p (.bin .neq), some (50, false)⟩, 0),
      (⟨(some 55), [.t 50, .c (.bool true), .t 54], .p (.pick), some (46, true)⟩, 0),
      (⟨(some 56), [.t 46, .t 55, .c (.bool false)], .p (.pick), some (43, false)⟩, 0),
      (⟨(some 57), [.t 43, .c (.bool true), .t 56], .p (.pick), none⟩, 0),
      (⟨(some 58), [.t 57], .p (.mov), none⟩, 0),
      (⟨(some 59), [.t 8], .p (.mov), some (58, false)⟩, 0),
      (⟨(some 60), [.t 59, .c (.int .i64 0)], .p (.bin .lss), some (58, false)⟩, 0),
      (⟨(some 61), [.t 60], .p (.mov), some (58, false)⟩, 0),
      (⟨(some 62), [.t 10], .p (.mov), some (61, true)⟩, 0),
      (⟨(some 63), [.t 9], .p (.mov), some (61, true)⟩, 0),
      (⟨(some 64), [.t 62, .t 63], .p (.bin .neq), some (61, true)⟩, 0),
      (⟨(some 65), [.t 64], .p (.mov), some (61, true)⟩, 0),
      (⟨(some 66), [.t 4], .w (.callF f_palette_Palette_Colors), some (65, false)⟩, 0),
      (⟨(some 67), [.t 66], .p (.lenSl), some (65, false)⟩, 0),
      (⟨(some 68), [.t 9], .p (.mov), some (65, false)⟩, 0),
      (⟨(some 69), [.t 68, .c (.int .i64 1)], .p (.bin .add), some (65, false)⟩, 0),
      (⟨(some 70), [.t 67, .t 69], .p (.bin .neq), some (65, false)⟩, 0),
      (⟨(some 71), [.t 65, .c (.bool true), .t 70], .p (.pick), some (61, true)⟩, 0),
      (⟨(some 72), [.t 61, .t 71, .c (.bool false)], .p (.pick), some (58, false)⟩, 0),
      (⟨(some 73), [.t 58, .c (.bool true), .t 72], .p (.pick), none⟩, 0),
      (⟨(some 74), [.t 73], .p (.mov), none⟩, 0),
      (⟨(some 75), [.t 4], .w (.callF f_palette_Palette_Colors), some (74, false)⟩, 0),
      (⟨(some 76), [.t 10], .p (.mov), some (74, false)⟩, 0),
      (⟨(some 77), [.t 75, .t 76], .p (.iAddrS 4), some (74, false)⟩, 0),
      (⟨(some 78), [.t 77], .r (.load (some 4)), some (74, false)⟩, 0),
      (⟨(some 79), [.t 7], .r (.load (some 4)), some (74, false)⟩, 1),
      (⟨(some 80), [.t 78, .t 79], .w (.callF f_glyphicref_SameColor), some (74, false)⟩, 0),
      (⟨(some 81), [.t 80], .p (.un .not), some (74, false)⟩, 0),
      (⟨(some 82), [.t 74, .c (.bool true), .t 81], .p (.pick), none⟩, 0)])
    (.cond (.t 82)
     (.seq (.ops [⟨(some 2), [.c (.bool false)], .p (.mov), none⟩])
     (.ret))
     (.skip))))))))
   (.ops [⟨(some 28), [.t 6], .p (.mov), none⟩,
     ⟨(some 29), [.t 28, .c (.int .i64 1)], .p (.bin .add), none⟩,
     ⟨(some 6), [.t 29], .p (.mov), none⟩]))
def c_glyphiclaw16_PaletteOrder : AC :=
 .seq (.ops [⟨(some 2), [.c (.bool false)], .p (.mov), none⟩])
 (.seq (.ops [⟨(some 14), [], .w (.callF f_glyphiclaw16_first), none⟩,
   ⟨(some 3), [.t 14], .p (.mov), none⟩])
 (.seq (.seq (.ops [⟨(some 15), [.t 3], .p (.mov), none⟩,
   ⟨(some 16), [.t 15], .p (.un .not), none⟩])
 (.cond (.t 16)
  (.seq (.ops [⟨(some 2), [.c (.bool false)], .p (.mov), none⟩])
  (.ret))
  (.skip)))
 (.seq (.seq (.ops [⟨(some 17), [.t 0], .p (.mov), none⟩,
   ⟨(some 18), [.t 17], .p (.lenSl), none⟩,
   ⟨(some 19), [.t 18, .c (.int .i64 80)], .p (.bin .gtr), none⟩])
 (.cond (.t 19)
  (.seq (.ops [⟨(some 20), [.t 3], .p (.mov), none⟩,
    ⟨(some 2), [.t 20], .p (.mov), none⟩])
  (.ret))
  (.skip)))
 (.seq (.ops [⟨(some 4), [], .n (.alloc [(.slice none 0 (.exact 0))]), none⟩])
 (.seq (.ops [⟨(some 21), [.t 0], .p (.mov), none⟩,
   ⟨(some 22), [.t 21], .p (.build [(.slice none 0 (.exact 0)), (.int .i64 0)] [(0, 1)]), none⟩,
   ⟨(some 23), [.t 22], .n (.box), none⟩,
   ⟨(some 5), [.t 23], .p (.mov), none⟩])
 (.seq (.seq (.ops [⟨(some 6), [.c (.int .i64 0)], .p (.mov), none⟩])
 (.block 0
  (.loop c_glyphiclaw16_PaletteOrder_l1)))
 (.seq (.ops [⟨(some 83), [.t 4], .w (.callF f_palette_Palette_Colors), none⟩,
   ⟨(some 12), [.t 83], .p (.mov), none⟩])
 (.seq (.seq (.ops [⟨(some 13), [.c (.int .i64 0)], .p (.mov), none⟩])
 (.block 2
  (.loop c_glyphiclaw16_PaletteOrder_l0)))
 (.seq (.ops [⟨(some 97), [.t 3], .p (.mov), none⟩,
   ⟨(some 98), [.t 97], .p (.mov), none⟩,
   ⟨(some 99), [.c (.int .u8 3), .c (.int .u8 3), .c (.int .u8 3), .c (.int .u8 3)], .p (.build [(.int .u8 0), (.int .u8 0), (.int .u8 0), (.int .u8 0)] [(0, 1), (1, 1), (2, 1), (3, 1)]), some (98, true)⟩,
   ⟨(some 100), [.t 4, .t 99], .w (.callF f_palette_Palette_Find), some (98, true)⟩,
   ⟨(some 101), [.t 100, .c (.int .i64 (-1))], .p (.bin .eql), some (98, true)⟩,
   ⟨(some 102), [.t 98, .t 101, .c (.bool false)], .p (.pick), none⟩,
   ⟨(some 2), [.t 102], .p (.mov), none⟩])
 (.ret))))))))))
def r_glyphiclaw16_PaletteOrder : List ARes := [.tmp 2]
def F_glyphiclaw16_PaletteOrder : AFunc := .code c_glyphiclaw16_PaletteOrder r_glyphiclaw16_PaletteOrder
/- color.Wide -/
def c_color_Wide : AC :=
 .seq (.ops [⟨(some 1), [.t 0], .n (.box), none⟩,
   ⟨(some 2), [], .n (.alloc [(.int .i64 0), (.int .i64 0), (.int .i64 0), (.int .i64 0)]), none⟩])
 (.seq (.ops [⟨(some 3), [.t 1], .p (.fAddr 0), none⟩,
   ⟨(some 4), [.t 3], .r (.load none), none⟩,
   ⟨(some 5), [.t 4], .p (.conv .i64), none⟩,
   ⟨(some 6), [.c (.int .i64 257), .t 5], .p (.bin .mul), none⟩,
   ⟨(some 7), [.t 1], .p (.fAddr 1), none⟩,
   ⟨(some 8), [.t 7], .r (.load none), none⟩,
   ⟨(some 9), [.t 8], .p (.conv .i64), none⟩,
   ⟨(some 10), [.c (.int .i64 257), .t 9], .p (.bin .mul), none⟩,
   ⟨(some 11), [.t 1], .p (.fAddr 2), none⟩,
   ⟨(some 12), [.t 11], .r (.load none), none⟩,
   ⟨(some 13), [.t 12], .p (.conv .i64), none⟩,
   ⟨(some 14), [.c (.int .i64 257), .t 13], .p (.bin .mul), none⟩,
   ⟨(some 15), [.t 1], .p (.fAddr 3), none⟩,
   ⟨(some 16), [.t 15], .r (.load none), none⟩,
   ⟨(some 17), [.t 16], .p (.conv .i64), none⟩,
   ⟨(some 18), [.c (.int .i64 257), .t 17], .p (.bin .mul), none⟩,
   ⟨(some 19), [.t 6, .t 10, .t 14, .t 18], .p (.build [(.int .i64 0), (.int .i64 0), (.int .i64 0), (.int .i64 0)] [(0, 1), (1, 1), (2, 1), (3, 1)]), none⟩,
   ⟨none, [.t 2, .t 19], .w (.store 4), none⟩])
 (.ret))
def r_color_Wide : List ARes := [.cell 2 (some 4)]
def F_color_Wide : AFunc := .code c_color_Wide r_color_Wide
/- color.Show -/
def c_color_Show_l0 : AC :=
 .seq (.ops [⟨(some 17), [.t 16, .c (.int .i64 4)], .p (.bin .lss), none⟩])
   (.seq (.cond (.t 17)
    (.skip)
    (.exit 0))
   (.seq (.block 1
    (.seq (.ops [⟨(some 18), [.t 16], .p (.mov), none⟩,
      ⟨(some 19), [.t 15, .t 16], .p (.idxArr 4 1 none), none⟩,
      ⟨(some 4), [.t 18], .p (.mov), none⟩,
      ⟨(some 5), [.t 19], .p (.mov), none⟩])
    (.seq (.ops [⟨(some 20), [.t 4], .p (.mov), none⟩,
      ⟨(some 21), [.t 20, .c (.int .i64 3)], .p (.bin .lss), none⟩,
      ⟨(some 22), [.t 21], .p (.mov), none⟩,
      ⟨(some 23), [.t 5], .p (.mov), some (22, false)⟩,
      ⟨(some 24), [.t 23, .c (.int .u8 255)], .p (.bin .neq), some (22, false)⟩,
      ⟨(some 25), [.t 22, .c (.bool true), .t 24], .p (.pick), none⟩])
    (.cond (.t 25)
     (.draw [(⟨(some 26), [.t 3], .p (.mov), none⟩, 0),
       (⟨(some 27), [.t 5], .p (.mov), none⟩, 0),
       (⟨(some 28), [.t 27, .c (.int .u64 4)], .p (.bin .shr), none⟩, 0),
       (⟨(some 29), [.c (.str [48, 49, 50, 51, 52, 53, 54, 55, 56, 57, 97, 98, 99, 100, 101, 102]), .t 28], .p (.idxStr), none⟩, 0),
       (⟨(some 30), [.t 5], .p (.mov), none⟩, 0),
       (⟨(some 31), [.t 30, .c (.int .u8 15)], .p (.bin .and), none⟩, 0),
       (⟨(some 32), [.c (.str [48, 49, 50, 51, 52, 53, 54, 55, 56, 57, 97, 98, 99, 100, 101, 102]), .t 31], .p (.idxStr), none⟩, 0),
       (⟨(some 33), [.t 29, .t 32], .n (.bslice 2 [(.int .u8 0), (.int .u8 0)] [(0, 1), (1, 1)]), none⟩, 0),
       (⟨(some 34), [.t 26, .t 33], .w (.append 1 1), none⟩, 0),
       (⟨(some 3), [.t 34], .p (.mov), none⟩, 0)])
     (.skip)))))
   (.ops [⟨(some 35), [.t 16, .c (.int .i64 1)], .p (.bin .add), none⟩,
     ⟨(some 16), [.t 35], .p (.mov), none⟩])))
def c_color_Show : AC :=
 .seq (.ops [⟨(some 1), [.t 0], .n (.box), none⟩,
   ⟨(some 2), [.c (.str [])], .p (.mov), none⟩])
 (.seq (.ops [⟨(some 6), [.c (.int .u8 35)], .n (.bslice 1 [(.int .u8 0)] [(0, 1)]), none⟩,
   ⟨(some 3), [.t 6], .p (.mov), none⟩])
 (.seq (.seq (.ops [⟨(some 7), [.t 1], .p (.fAddr 0), none⟩,
   ⟨(some 8), [.t 7], .r (.load none), none⟩,
   ⟨(some 9), [.t 1], .p (.fAddr 1), none⟩,
   ⟨(some 10), [.t 9], .r (.load none), none⟩,
   ⟨(some 11), [.t 1], .p (.fAddr 2), none⟩,
   ⟨(some 12), [.t 11], .r (.load none), none⟩,
   ⟨(some 13), [.t 1], .p (.fAddr 3), none⟩,
   ⟨(some 14), [.t 13], .r (.load none), none⟩,
   ⟨(some 15), [.t 8, .t 10, .t 12, .t 14], .p (.build [(.int .u8 0), (.int .u8 0), (.int .u8 0), (.int .u8 0)] [(0, 1), (1, 1), (2, 1), (3, 1)]), none⟩,
   ⟨(some 16), [.c (.int .i64 0)], .p (.mov), none⟩])
 (.block 0
  (.loop c_color_Show_l0)))
 (.seq (.ops [⟨(some 36), [.t 3], .p (.mov), none⟩,
   ⟨(some 37), [.t 36], .r (.b2s), none⟩,
   ⟨(some 2), [.t 37], .p (.mov), none⟩])
 (.ret))))
def r_color_Show : List ARes := [.tmp 2]
def F_color_Show : AFunc := .code c_color_Show r_color_Show
/- glyphicref.SameColor -/
def c_glyphicref_SameColor : AC :=
 .seq (.ops [⟨(some 2), [.t 0], .n (.box), none⟩,
   ⟨(some 3), [.t 1], .n (.box), none⟩,
   ⟨(some 4), [.c (.bool false)], .p (.mov), none⟩])
 (.seq (.ops [⟨(some 5), [.t 2], .p (.fAddr 0), none⟩,
   ⟨(some 6), [.t 5], .r (.load none), none⟩,
   ⟨(some 7), [.t 3], .p (.fAddr 0), none⟩,
   ⟨(some 8), [.t 7], .r (.load none), none⟩,
   ⟨(some 9), [.t 6, .t 8], .p (.bin .eql), none⟩,
   ⟨(some 10), [.t 9], .p (.mov), none⟩,
   ⟨(some 11), [.t 2], .p (.fAddr 1), some (10, true)⟩,
   ⟨(some 12), [.t 11], .r (.load none), some (10, true)⟩,
   ⟨(some 13), [.t 3], .p (.fAddr 1), some (10, true)⟩,
   ⟨(some 14), [.t 13], .r (.load none), some (10, true)⟩,
   ⟨(some 15), [.t 12, .t 14], .p (.bin .eql), some (10, true)⟩,
   ⟨(some 16), [.t 10, .t 15, .c (.bool false)], .p (.pick), none⟩,
   ⟨(some 17), [.t 16], .p (.mov), none⟩,
   ⟨(some 18), [.t 2], .p (.fAddr 2), some (17, true)⟩,
   ⟨(some 19), [.t 18], .r (.load none), some (17, true)⟩,
   ⟨(some 20), [.t 3], .p (.fAddr 2), some (17, true)⟩,
   ⟨(some 21), [.t 20], .r (.load none), some (17, true)⟩,
   ⟨(some 22), [.t 19, .t 21], .p (.bin .eql), some (17, true)⟩,
   ⟨(some 23), [.t 17, .t 22, .c (.bool false)], .p (.pick), none⟩,
   ⟨(some 24), [.t 23], .p (.mov), none⟩,
   ⟨(some 25), [.t 2], .p (.fAddr 3), some (24, true)⟩,
   ⟨(some 26), [.t 25], .r (.load none), some (24, true)⟩,
   ⟨(some 27), [.t 3], .p (.fAddr 3), some (24, true)⟩,
   ⟨(some 28), [.t 27], .r (.load none), some (24, true)⟩,
   ⟨(some 29), [.t 26, .t 28], .p (.bin .eql), some (24, true)⟩,
   ⟨(some 30), [.t 24, .t 29, .c (.bool false)], .p (.pick), none⟩,
   ⟨(some 4), [.t 30], .p (.mov), none⟩])
 (.ret))
def r_glyphicref_SameColor : List ARes := [.tmp 4]
def F_glyphicref_SameColor : AFunc := .code c_glyphicref_SameColor r_glyphicref_SameColor
/- glyphicmake.Edges -/
def c_glyphicmake_Edges_l0 : AC :=
 .seq (.seq (.ops [⟨(some 14), [.t 8], .p (.mov), none⟩,
     ⟨(some 15), [.t 14, .c (.int .i64 0)], .p (.bin .gtr), none⟩])
   (.cond (.t 15)
    (.skip)
    (.exit 0)))
   (.seq (.block 1
    (.seq (.ops [⟨(some 18), [.t 0], .p (.mov), none⟩,
      ⟨(some 19), [.t 2], .p (.mov), none⟩,
      ⟨(some 20), [.t 18, .t 19], .w (.callF f_glyphicmake_Point), none⟩,
      ⟨(some 9), [], .n (.alloc [(.int .i64 0), (.int .i64 0)]), none⟩,
      ⟨none, [.t 9, .t 20], .w (.store 2), none⟩])
    (.draw [(⟨(some 23), [.t 0], .p (.mov), none⟩, 0),
      (⟨(some 24), [.t 2], .p (.mov), none⟩, 0),
      (⟨(some 25), [.t 23, .t 24], .w (.callF f_glyphicmake_Point), none⟩, 0),
      (⟨(some 21), [.t 7], .p (.mov), none⟩, 0),
      (⟨(some 22), [.t 9], .r (.load (some 2)), none⟩, 1),
      (⟨(some 26), [.t 22, .t 25], .p (.build [(.int .i64 0), (.int .i64 0), (.int .i64 0), (.int .i64 0)] [(0, 2), (2, 2)]), none⟩, 0),
      (⟨(some 27), [.t 26], .n (.bslice 1 [(.int .i64 0), (.int .i64 0), (.int .i64 0), (.int .i64 0)] [(0, 4)]), none⟩, 0),
      (⟨(some 28), [.t 21, .t 27], .w (.append 4 32), none⟩, 0),
      (⟨(some 7), [.t 28], .p (.mov), none⟩, 0)])))
   (.ops [⟨(some 16), [.t 8], .p (.mov), none⟩,
     ⟨(some 17), [.t 16, .c (.int .i64 1)], .p (.bin .sub), none⟩,
     ⟨(some 8), [.t 17], .p (.mov), none⟩]))
def c_glyphicmake_Edges : AC :=
 .seq (.ops [⟨(some 6), [.c (.slice none 0 (.exact 0))], .p (.mov), none⟩])
 (.seq (.ops [⟨(some 7), [.c (.slice none 0 (.exact 0))], .p (.mov), none⟩])
 (.seq (.seq (.ops [⟨(some 10), [.t 0], .p (.mov), none⟩,
   ⟨(some 11), [.t 1], .p (.mov), none⟩,
   ⟨(some 12), [.t 11, .c (.int .i64 1)], .p (.bin .add), none⟩,
   ⟨(some 13), [.t 10, .t 12], .w (.callF f_glyphicmake_Seq_Next), none⟩,
   ⟨(some 8), [.t 13], .p (.mov), none⟩])
 (.block 0
  (.loop c_glyphicmake_Edges_l0)))
 (.seq (.ops [⟨(some 29), [.t 7], .p (.mov), none⟩,
   ⟨(some 6), [.t 29], .p (.mov), none⟩])
 (.ret))))
def r_glyphicmake_Edges : List ARes := [.tmp 6]
def F_glyphicmake_Edges : AFunc := .code c_glyphicmake_Edges r_glyphicmake_Edges
/- glyphicmake.Ring -/
def c_glyphicmake_Ring_l0 : AC :=
 .seq (.seq (.ops [⟨(some 21), [.t 11], .p (.mov), none⟩,
     ⟨(some 22), [.t 7], .p (.mov), none⟩,
     ⟨(some 23), [.t 21, .t 22], .p (.bin .lss), none⟩])
   (.cond (.t 23)
    (.skip)
    (.exit 0)))
   (.seq (.block 1
    (.seq (.ops [⟨(some 26), [.t 0], .p (.mov), none⟩,
      ⟨(some 27), [.t 2], .p (.mov), none⟩,
      ⟨(some 28), [.t 26, .t 27], .w (.callF f_glyphicmake_Point), none⟩,
      ⟨(some 12), [], .n (.alloc [(.int .i64 0), (.int .i64 0)]), none⟩,
      ⟨none, [.t 12, .t 28], .w (.store 2), none⟩])
    (.seq (.ops [⟨(some 29), [.t 10], .p (.mov), none⟩,
      ⟨(some 30), [.t 9], .r (.load (some 2)), none⟩,
      ⟨(some 31), [.t 12], .r (.load (some 2)), none⟩,
      ⟨(some 32), [.t 30, .t 31], .p (.build [(.int .i64 0), (.int .i64 0), (.int .i64 0), (.int .i64 0)] [(0, 2), (2, 2)]), none⟩,
      ⟨(some 33), [.t 32], .n (.bslice 1 [(.int .i64 0), (.int .i64 0), (.int .i64 0), (.int .i64 0)] [(0, 4)]), none⟩,
      ⟨(some 34), [.t 29, .t 33], .w (.append 4 32), none⟩,
      ⟨(some 10), [.t 34], .p (.mov), none⟩])
    (.ops [⟨(some 35), [.t 12], .r (.load (some 2)), none⟩,
      ⟨none, [.t 9, .t 35], .w (.store 2), none⟩]))))
   (.ops [⟨(some 24), [.t 11], .p (.mov), none⟩,
     ⟨(some 25), [.t 24, .c (.int .i64 1)], .p (.bin .add), none⟩,
     ⟨(some 11), [.t 25], .p (.mov), none⟩]))
def c_glyphicmake_Ring : AC :=
 .seq (.ops [⟨(some 6), [.c (.slice none 0 (.exact 0))], .p (.mov), none⟩])
 (.seq (.ops [⟨(some 13), [.t 0], .p (.mov), none⟩,
   ⟨(some 14), [.t 1], .p (.mov), none⟩,
   ⟨(some 15), [.t 13, .t 14], .w (.callF f_glyphicmake_Seq_Next), none⟩,
   ⟨(some 16), [.c (.int .i64 3), .t 15], .p (.bin .add), none⟩,
   ⟨(some 7), [.t 16], .p (.mov), none⟩])
 (.seq (.ops [⟨(some 17), [.t 0], .p (.mov), none⟩,
   ⟨(some 18), [.t 2], .p (.mov), none⟩,
   ⟨(some 19), [.t 17, .t 18], .w (.callF f_glyphicmake_Point), none⟩,
   ⟨(some 8), [], .n (.alloc [(.int .i64 0), (.int .i64 0)]), none⟩,
   ⟨none, [.t 8, .t 19], .w (.store 2), none⟩])
 (.seq (.ops [⟨(some 20), [.t 8], .r (.load (some 2)), none⟩,
   ⟨(some 9), [], .n (.alloc [(.int .i64 0), (.int .i64 0)]), none⟩,
   ⟨none, [.t 9, .t 20], .w (.store 2), none⟩])
 (.seq (.ops [⟨(some 10), [.c (.slice none 0 (.exact 0))], .p (.mov), none⟩])
 (.seq (.seq (.ops [⟨(some 11), [.c (.int .i64 1)], .p (.mov), none⟩])
 (.block 0
  (.loop c_glyphicmake_Ring_l0)))
 (.seq (.ops [⟨(some 36), [.t 10], .p (.mov), none⟩,
   ⟨(some 37), [.t 9], .r (.load (some 2)), none⟩,
   ⟨(some 38), [.t 8], .r (.load (some 2)), none⟩,
   ⟨(some 39), [.t 37, .t 38], .p (.build [(.int .i64 0), (.int .i64 0), (.int .i64 0), (.int .i64 0)] [(0, 2), (2, 2)]), none⟩,
   ⟨(some 40), [.t 39], .n (.bslice 1 [(.int .i64 0), (.int .i64 0), (.int .i64 0), (.int .i64 0)] [(0, 4)]), none⟩,
   ⟨(some 41), [.t 36, .t 40], .w (.append 4 32), none⟩,
   ⟨(some 6), [.t 41], .p (.mov), none⟩])
 (.ret)))))))
def r_glyphicmake_Ring : List ARes := [.tmp 6]
def F_glyphicmake_Ring : AFunc := .code c_glyphicmake_Ring r_glyphicmake_Ring
/- glyphicmake.Point -/
def c_glyphicmake_Point : AC :=
 .seq (.ops [⟨(some 4), [], .n (.alloc [(.int .i64 0), (.int .i64 0)]), none⟩])
 (.seq (.ops [⟨(some 6), [.t 0], .p (.mov), none⟩,
   ⟨(some 7), [.t 1], .p (.mov), none⟩,
   ⟨(some 8), [.c (.int .i64 2), .t 7], .p (.bin .mul), none⟩,
   ⟨(some 9), [.t 8, .c (.int .i64 1)], .p (.bin .add), none⟩,
   ⟨(some 10), [.t 6, .t 9], .w (.callF f_glyphicmake_Seq_Next), none⟩,
   ⟨(some 11), [.t 1], .p (.mov), none⟩,
   ⟨(some 12), [.t 10, .t 11], .p (.bin .sub), none⟩,
   ⟨(some 5), [.t 12], .p (.mov), none⟩])
 (.seq (.ops [⟨(some 13), [.t 5], .p (.mov), none⟩,
   ⟨(some 14), [.t 0], .p (.mov), none⟩,
   ⟨(some 15), [.t 1], .p (.mov), none⟩,
   ⟨(some 16), [.c (.int .i64 2), .t 15], .p (.bin .mul), none⟩,
   ⟨(some 17), [.t 16, .c (.int .i64 1)], .p (.bin .add), none⟩,
   ⟨(some 18), [.t 14, .t 17], .w (.callF f_glyphicmake_Seq_Next), none⟩,
   ⟨(some 19), [.t 1], .p (.mov), none⟩,
   ⟨(some 20), [.t 18, .t 19], .p (.bin .sub), none⟩,
   ⟨(some 21), [.t 13, .t 20], .p (.build [(.int .i64 0), (.int .i64 0)] [(0, 1), (1, 1)]), none⟩,
   ⟨none, [.t 4, .t 21], .w (.store 2), none⟩])
 (.ret)))
def r_glyphicmake_Point : List ARes := [.cell 4 (some 2)]
def F_glyphicmake_Point : AFunc := .code c_glyphicmake_Point r_glyphicmake_Point
/- wind.One -/
def c_wind_One : AC :=
 .seq (.ops [⟨(some 2), [.t 0], .n (.box), none⟩,
   ⟨(some 3), [.t 1], .n (.box), none⟩,
   ⟨(some 4), [.c (.int .i64 0)], .p (.mov), none⟩])
 (.seq (.block 0
  (.seq (.ops [⟨(some 6), [.t 2], .p (.fAddr 0), none⟩,
    ⟨(some 7), [.t 6], .p (.fAddr 1), none⟩,
    ⟨(some 8), [.t 7], .r (.load none), none⟩,
    ⟨(some 9), [.t 3], .p (.fAddr 1), none⟩,
    ⟨(some 10), [.t 9], .r (.load none), none⟩,
    ⟨(some 11), [.t 8, .t 10], .p (.bin .leq), none⟩,
    ⟨(some 12), [.t 11], .p (.mov), none⟩,
    ⟨(some 13), [.t 2], .p (.fAddr 2), some (12, true)⟩,
    ⟨(some 14), [.t 13], .p (.fAddr 1), some (12, true)⟩,
    ⟨(some 15), [.t 14], .r (.load none), some (12, true)⟩,
    ⟨(some 16), [.t 3], .p (.fAddr 1), some (12, true)⟩,
    ⟨(some 17), [.t 16], .r (.load none), some (12, true)⟩,
    ⟨(some 18), [.t 15, .t 17], .p (.bin .gtr), some (12, true)⟩,
    ⟨(some 19), [.t 12, .t 18, .c (.bool false)], .p (.pick), none⟩,
    ⟨(some 20), [.t 19], .p (.mov), none⟩,
    ⟨(some 21), [.t 2], .p (.fAddr 0), some (20, true)⟩,
    ⟨(some 22), [.t 21], .r (.load (some 2)), some (20, true)⟩,
    ⟨(some 23), [.t 2], .p (.fAddr 2), some (20, true)⟩,
    ⟨(some 24), [.t 23], .r (.load (some 2)), some (20, true)⟩,
    ⟨(some 25), [.t 3], .r (.load (some 2)), some (20, true)⟩,
    ⟨(some 26), [.t 22, .t 24, .t 25], .w (.callF f_plane_Cross), some (20, true)⟩,
    ⟨(some 27), [.t 26, .c (.int .i64 0)], .p (.bin .gtr), some (20, true)⟩,
    ⟨(some 28), [.t 20, .t 27, .c (.bool false)], .p (.pick), none⟩,
    ⟨(some 5), [.t 28], .p (.mov), none⟩])
  (.cond (.t 5)
   (.seq (.ops [⟨(some 4), [.c (.int .i64 1)], .p (.mov), none⟩])
   (.ret))
   (.seq (.ops [⟨(some 30), [.t 2], .p (.fAddr 2), none⟩,
     ⟨(some 31), [.t 30], .p (.fAddr 1), none⟩,
     ⟨(some 32), [.t 31], .r (.load none), none⟩,
     ⟨(some 33), [.t 3], .p (.fAddr 1), none⟩,
     ⟨(some 34), [.t 33], .r (.load none), none⟩,
     ⟨(some 35), [.t 32, .t 34], .p (.bin .leq), none⟩,
     ⟨(some 36), [.t 35], .p (.mov), none⟩,
     ⟨(some 37), [.t 2], .p (.fAddr 0), some (36, true)⟩,
     ⟨(some 38), [.t 37], .p (.fAddr 1), some (36, true)⟩,
     ⟨(some 39), [.t 38], .r (.load none), some (36, true)⟩,
     ⟨(some 40), [.t 3], .p (.fAddr 1), some (36, true)⟩,
     ⟨(some 41), [.t 40], .r (.load none), some (36, true)⟩,
     ⟨(some 42), [.t 39, .t 41], .p (.bin .gtr), some (36, true)⟩,
     ⟨(some 43), [.t 36, .t 42, .c (.bool false)], .p (.pick), none⟩,
     ⟨(some 44), [.t 43], .p (.mov), none⟩,
     ⟨(some 45), [.t 2], .p (.fAddr 0), some (44, true)⟩,
     ⟨(some 46), [.t 45], .r (.load (some 2)), some (44, true)⟩,
     ⟨(some 47), [.t 2], .p (.fAddr 2), some (44, true)⟩,
     ⟨(some 48), [.t 47], .r (.load (some 2)), some (44, true)⟩,
     ⟨(some 49), [.t 3], .r (.load (some 2)), some (44, true)⟩,
     ⟨(some 50), [.t 46, .t 48, .t 49], .w (.callF f_plane_Cross), some (44, true)⟩,
     ⟨(some 51), [.t 50, .c (.int .i64 0)], .p (.bin .lss), some (44, true)⟩,
     ⟨(some 52), [.t 44, .t 51, .c (.bool false)], .p (.pick), none⟩,
     ⟨(some 29), [.t 52], .p (.mov), none⟩])
   (.cond (.t 29)
    (.seq (.ops [⟨(some 4), [.c (.int .i64 (-1))], .p (.mov), none⟩])
    (.ret))
    (.skip))))))
 (.seq (.ops [⟨(some 4), [.c (.int .i64 0)], .p (.mov), none⟩])
 (.ret)))
def r_wind_One : List ARes := [.tmp 4]
def F_wind_One : AFunc := .code c_wind_One r_wind_One
/- glyphicref20.One -/
def c_glyphicref20_One : AC :=
 .seq (.ops [⟨(some 2), [.t 0], .n (.box), none⟩,
   ⟨(some 3), [.t 1], .n (.box), none⟩,
   ⟨(some 4), [.c (.int .i64 0)], .p (.mov), none⟩])
 (.seq (.ops [⟨(some 6), [.t 2], .p (.fAddr 0), none⟩,
   ⟨(some 7), [.t 6], .r (.load (some 2)), none⟩,
   ⟨(some 8), [.t 2], .p (.fAddr 2), none⟩,
   ⟨(some 9), [.t 8], .r (.load (some 2)), none⟩,
   ⟨(some 10), [.t 3], .r (.load (some 2)), none⟩,
   ⟨(some 11), [.t 7, .t 9, .t 10], .w (.callF f_glyphicref1_Cross), none⟩,
   ⟨(some 5), [.t 11], .p (.mov), none⟩])
 (.seq (.seq (.ops [⟨(some 12), [.t 2], .p (.fAddr 0), none⟩,
   ⟨(some 13), [.t 12], .p (.fAddr 1), none⟩,
   ⟨(some 14), [.t 13], .r (.load none), none⟩,
   ⟨(some 15), [.t 3], .p (.fAddr 1), none⟩,
   ⟨(some 16), [.t 15], .r (.load none), none⟩,
   ⟨(some 17), [.t 14, .t 16], .p (.bin .leq), none⟩,
   ⟨(some 18), [.t 17], .p (.mov), none⟩,
   ⟨(some 19), [.t 2], .p (.fAddr 2), some (18, true)⟩,
   ⟨(some 20), [.t 19], .p (.fAddr 1), some (18, true)⟩,
   ⟨(some 21), [.t 20], .r (.load none), some (18, true)⟩,
   ⟨(some 22), [.t 3], .p (.fAddr 1), some (18, true)⟩,
   ⟨(some 23), [.t 22], .r (.load none), some (18, true)⟩,
   ⟨(some 24), [.t 21, .t 23], .p (.bin .gtr), some (18, true)⟩,
   ⟨(some 25), [.t 18, .t 24, .c (.bool false)], .p (.pick), none⟩,
   ⟨(some 26), [.t 25], .p (.mov), none⟩,
   ⟨(some 27), [.t 5], .p (.mov), some (26, true)⟩,
   ⟨(some 28), [.t 27, .c (.int .i64 0)], .p (.bin .gtr), some (26, true)⟩,
   ⟨(some 29), [.t 26, .t 28, .c (.bool false)], .p (.pick), none⟩])
 (.cond (.t 29)
  (.seq (.ops [⟨(some 4), [.c (.int .i64 1)], .p (.mov), none⟩])
  (.ret))
  (.skip)))
 (.seq (.seq (.ops [⟨(some 30), [.t 2], .p (.fAddr 2), none⟩,
   ⟨(some 31), [.t 30], .p (.fAddr 1), none⟩,
   ⟨(some 32), [.t 31], .r (.load none), none⟩,
   ⟨(some 33), [.t 3], .p (.fAddr 1), none⟩,
   ⟨(some 34), [.t 33], .r (.load none), none⟩,
   ⟨(some 35), [.t 32, .t 34], .p (.bin .leq), none⟩,
   ⟨(some 36), [.t 35], .p (.mov), none⟩,
   ⟨(some 37), [.t 2], .p (.fAddr 0), some (36, true)⟩,
   ⟨(some 38), [.t 37], .p (.fAddr 1), some (36, true)⟩,
   ⟨(some 39), [.t 38], .r (.load none), some (36, true)⟩,
   ⟨(some 40), [.t 3], .p (.fAddr 1), some (36, true)⟩,
   ⟨(some 41), [.t 40], .r (.load none), some (36, true)⟩,
   ⟨(some 42), [.t 39, .t 41], .p (.bin .gtr), some (36, true)⟩,
   ⟨(some 43), [.t 36, .t 42, .c (.bool false)], .p (.pick), none⟩,
   ⟨(some 44), [.t 43], .p (.mov), none⟩,
   ⟨(some 45), [.t 5], .p (.mov), some (44, true)⟩,
   ⟨(some 46), [.t 45, .c (.int .i64 0)], .p (.bin .lss), some (44, true)⟩,
   ⟨(some 47), [.t 44, .t 46, .c (.bool false)], .p (.pick), none⟩])
 (.cond (.t 47)
  (.seq (.ops [⟨(some 4), [.c (.int .i64 (-1))], .p (.mov), none⟩])
  (.ret))
  (.skip)))
 (.seq (.ops [⟨(some 4), [.c (.int .i64 0)], .p (.mov), none⟩])
 (.ret)))))
def r_glyphicref20_One : List ARes := [.tmp 4]
def F_glyphicref20_One : AFunc := .code c_glyphicref20_One r_glyphicref20_One
/- wind.Number -/
def c_wind_Number_l0 : AC :=
 .seq (.ops [⟨(some 11), [.t 10, .t 9], .p (.bin .lss), none⟩])
   (.seq (.cond (.t 11)
    (.skip)
    (.exit 0))
   (.seq (.block 1
    (.seq (.ops [⟨(some 12), [.t 8, .t 10], .p (.iAddrS 4), none⟩,
      ⟨(some 13), [.t 12], .r (.load (some 4)), none⟩,
      ⟨(some 7), [], .n (.alloc [(.int .i64 0), (.int .i64 0), (.int .i64 0), (.int .i64 0)]), none⟩,
      ⟨none, [.t 7, .t 13], .w (.store 4), none⟩])
    (.ops [⟨(some 14), [.t 5], .p (.mov), none⟩,
      ⟨(some 15), [.t 7], .r (.load (some 4)), none⟩,
      ⟨(some 16), [.t 3], .r (.load (some 2)), none⟩,
      ⟨(some 17), [.t 15, .t 16], .w (.callF f_wind_One), none⟩,
      ⟨(some 18), [.t 14, .t 17], .p (.bin .add), none⟩,
      ⟨(some 5), [.t 18], .p (.mov), none⟩])))
   (.ops [⟨(some 19), [.t 10, .c (.int .i64 1)], .p (.bin .add), none⟩,
     ⟨(some 10), [.t 19], .p (.mov), none⟩])))
def c_wind_Number : AC :=
 .seq (.ops [⟨(some 3), [.t 1], .n (.box), none⟩,
   ⟨(some 4), [.c (.int .i64 0)], .p (.mov), none⟩])
 (.seq (.ops [⟨(some 5), [.c (.int .i64 0)], .p (.mov), none⟩])
 (.seq (.seq (.ops [⟨(some 8), [.t 0], .p (.mov), none⟩,
   ⟨(some 9), [.t 8], .p (.lenSl), none⟩,
   ⟨(some 10), [.c (.int .i64 0)], .p (.mov), none⟩])
 (.block 0
  (.loop c_wind_Number_l0)))
 (.seq (.ops [⟨(some 20), [.t 5], .p (.mov), none⟩,
   ⟨(some 4), [.t 20], .p (.mov), none⟩])
 (.ret))))
def r_wind_Number : List ARes := [.tmp 4]
def F_wind_Number : AFunc := .code c_wind_Number r_wind_Number
/- glyphicref20.Number -/
def c_glyphicref20_Number_l0 : AC :=
 .seq (.seq (.ops [⟨(some 7), [.t 6], .p (.mov), none⟩,
     ⟨(some 8), [.t 0], .p (.mov), none⟩,
     ⟨(some 9), [.t 8], .p (.lenSl), none⟩,
     ⟨(some 10), [.t 7, .t 9], .p (.bin .lss), none⟩])
   (.cond (.t 10)
    (.skip)
    (.exit 0)))
   (.seq (.block 1
    (.draw [(⟨(some 14), [.t 0], .p (.mov), none⟩, 0),
      (⟨(some 15), [.t 6], .p (.mov), none⟩, 0),
      (⟨(some 16), [.t 14, .t 15], .p (.iAddrS 4), none⟩, 0),
      (⟨(some 17), [.t 16], .r (.load (some 4)), none⟩, 0),
      (⟨(some 18), [.t 3], .r (.load (some 2)), none⟩, 0),
      (⟨(some 19), [.t 17, .t 18], .w (.callF f_glyphicref20_One), none⟩, 0),
      (⟨(some 13), [.t 5], .p (.mov), none⟩, 0),
      (⟨(some 20), [.t 13, .t 19], .p (.bin .add), none⟩, 0),
      (⟨(some 5), [.t 20], .p (.mov), none⟩, 0)]))
   (.ops [⟨(some 11), [.t 6], .p (.mov), none⟩,
     ⟨(some 12), [.t 11, .c (.int .i64 1)], .p (.bin .add), none⟩,
     ⟨(some 6), [.t 12], .p (.mov), none⟩]))
def c_glyphicref20_Number : AC :=
 .seq (.ops [⟨(some 3), [.t 1], .n (.box), none⟩,
   ⟨(some 4), [.c (.int .i64 0)], .p (.mov), none⟩])
 (.seq (.ops [⟨(some 5), [.c (.int .i64 0)], .p (.mov), none⟩])
 (.seq (.seq (.ops [⟨(some 6), [.c (.int .i64 0)], .p (.mov), none⟩])
 (.block 0
  (.loop c_glyphicref20_Number_l0)))
 (.seq (.ops [⟨(some 21), [.t 5], .p (.mov), none⟩,
   ⟨(some 4), [.t 21], .p (.mov), none⟩])
 (.ret))))
def r_glyphicref20_Number : List ARes := [.tmp 4]
def F_glyphicref20_Number : AFunc := .code c_glyphicref20_Number r_glyphicref20_Number
/- wind.Inside -/
def c_wind_Inside : AC :=
 .seq (.ops [⟨(some 5), [.t 2], .n (.box), none⟩,
   ⟨(some 6), [.c (.bool false)], .p (.mov), none⟩])
 (.seq (.ops [⟨(some 8), [.t 0], .p (.mov), none⟩,
   ⟨(some 9), [.t 5], .r (.load (some 2)), none⟩,
   ⟨(some 10), [.t 8, .t 9], .w (.callF f_wind_Number), none⟩,
   ⟨(some 7), [.t 10], .p (.mov), none⟩])
 (.seq (.seq (.ops [⟨(some 11), [.t 1], .p (.mov), none⟩,
   ⟨(some 12), [.t 11, .c (.int .i64 0)], .p (.bin .eql), none⟩])
 (.cond (.t 12)
  (.seq (.ops [⟨(some 13), [.t 7], .p (.mov), none⟩,
    ⟨(some 14), [.t 13, .c (.int .i64 2)], .p (.bin .rem), none⟩,
    ⟨(some 15), [.t 14, .c (.int .i64 0)], .p (.bin .neq), none⟩,
    ⟨(some 6), [.t 15], .p (.mov), none⟩])
  (.ret))
  (.skip)))
 (.seq (.ops [⟨(some 16), [.t 7], .p (.mov), none⟩,
   ⟨(some 17), [.t 16, .c (.int .i64 0)], .p (.bin .neq), none⟩,
   ⟨(some 6), [.t 17], .p (.mov), none⟩])
 (.ret))))
def r_wind_Inside : List ARes := [.tmp 6]
def F_wind_Inside : AFunc := .code c_wind_Inside r_wind_Inside
/- glyphicref20.Inside -/
def c_glyphicref20_Inside : AC :=
 .seq (.ops [⟨(some 5), [.t 2], .n (.box), none⟩,
   ⟨(some 6), [.c (.bool false)], .p (.mov), none⟩])
 (.seq (.ops [⟨(some 8), [.t 0], .p (.mov), none⟩,
   ⟨(some 9), [.t 5], .r (.load (some 2)), none⟩,
   ⟨(some 10), [.t 8, .t 9], .w (.callF f_glyphicref20_Number), none⟩,
   ⟨(some 7), [.t 10], .p (.mov), none⟩])
 (.seq (.seq (.ops [⟨(some 11), [.t 1], .p (.mov), none⟩,
   ⟨(some 12), [.t 11, .c (.int .i64 0)], .p (.bin .eql), none⟩])
 (.cond (.t 12)
  (.seq (.ops [⟨(some 13), [.t 7], .p (.mov), none⟩,
    ⟨(some 14), [.t 13, .c (.int .i64 2)], .p (.bin .rem), none⟩,
    ⟨(some 15), [.t 14, .c (.int .i64 0)], .p (.bin .neq), none⟩,
    ⟨(some 6), [.t 15], .p (.mov), none⟩])
  (.ret))
  (.skip)))
 (.seq (.ops [⟨(some 16), [.t 7], .p (.mov), none⟩,
   ⟨(some 17), [.t 16, .c (.int .i64 0)], .p (.bin .neq), none⟩,
   ⟨(some 6), [.t 17], .p (.mov), none⟩])
 (.ret))))
def r_glyphicref20_Inside : List ARes := [.tmp 6]
def F_glyphicref20_Inside : AFunc := .code c_glyphicref20_Inside r_glyphicref20_Inside
/- glyphiclaw16.first -/
def c_glyphiclaw16_first : AC :=
 .seq (.ops [⟨(some 0), [.c (.bool false)], .p (.mov), none⟩])
 (.seq (.ops [⟨(some 1), [], .n (.alloc [(.slice none 0 (.exact 0))]), none⟩])
 (.seq (.ops [⟨(some 5), [.c (.int .u8 1)], .p (.build [(.int .u8 0), (.int .u8 0), (.int .u8 0), (.int .u8 0)] [(0, 1)]), none⟩,
   ⟨(some 6), [.t 1, .t 5], .w (.callF f_palette_Palette_Add), none⟩,
   ⟨(some 4), [.t 6], .p (.mov), none⟩,
   ⟨(some 7), [.t 4], .p (.ext 0), none⟩,
   ⟨(some 8), [.t 4], .p (.ext 1), none⟩,
   ⟨(some 2), [.t 7], .p (.mov), none⟩,
   ⟨(some 3), [.t 8], .p (.mov), none⟩])
 (.seq (.ops [⟨(some 9), [.t 2], .p (.mov), none⟩,
   ⟨(some 10), [.t 9, .c (.int .i64 0)], .p (.bin .eql), none⟩,
   ⟨(some 11), [.t 10], .p (.mov), none⟩,
   ⟨(some 12), [.t 3], .p (.mov), some (11, true)⟩,
   ⟨(some 13), [.t 11, .t 12, .c (.bool false)], .p (.pick), none⟩,
   ⟨(some 14), [.t 13], .p (.mov), none⟩,
   ⟨(some 15), [.t 1], .w (.callF f_palette_Palette_Colors), some (14, true)⟩,
   ⟨(some 16), [.t 15], .p (.lenSl), some (14, true)⟩,
   ⟨(some 17), [.t 16, .c (.int .i64 1)], .p (.bin .eql), some (14, true)⟩,
   ⟨(some 18), [.t 14, .t 17, .c (.bool false)], .p (.pick), none⟩,
   ⟨(some 19), [.t 18], .p (.mov), none⟩,
   ⟨(some 20), [], .p (.build [(.int .u8 0), (.int .u8 0), (.int .u8 0), (.int .u8 0)] []), some (19, true)⟩,
   ⟨(some 21), [.t 1, .t 20], .w (.callF f_palette_Palette_Find), some (19, true)⟩,
   ⟨(some 22), [.t 21, .c (.int .i64 (-1))], .p (.bin .eql), some (19, true)⟩,
   ⟨(some 23), [.t 19, .t 22, .c (.bool false)], .p (.pick), none⟩,
   ⟨(some 0), [.t 23], .p (.mov), none⟩])
 (.ret))))
def r_glyphiclaw16_first : List ARes := [.tmp 0]
def F_glyphiclaw16_first : AFunc := .code c_glyphiclaw16_first r_glyphiclaw16_first
/- (*palette.Palette).Add -/
def c_palette_Palette_Add : AC :=
 .seq (.ops [⟨(some 3), [.t 1], .n (.box), none⟩,
   ⟨(some 4), [.c (.int .i64 0)], .p (.mov), none⟩,
   ⟨(some 5), [.c (.bool false)], .p (.mov), none⟩])
 (.seq (.ops [⟨(some 7), [.t 0], .p (.mov), none⟩,
   ⟨(some 8), [.t 3], .r (.load (some 4)), none⟩,
   ⟨(some 9), [.t 7, .t 8], .w (.callF f_palette_Palette_Find), none⟩,
   ⟨(some 6), [.t 9], .p (.mov), none⟩])
 (.seq (.block 0
  (.seq (.ops [⟨(some 11), [.t 6], .p (.mov), none⟩,
    ⟨(some 12), [.t 11, .c (.int .i64 0)], .p (.bin .geq), none⟩,
    ⟨(some 10), [.t 12], .p (.mov), none⟩])
  (.cond (.t 10)
   (.seq (.ops [⟨(some 13), [.t 6], .p (.mov), none⟩,
     ⟨(some 4), [.t 13], .p (.mov), none⟩,
     ⟨(some 5), [.c (.bool true)], .p (.mov), none⟩])
   (.ret))
   (.seq (.ops [⟨(some 15), [.t 0], .p (.mov), none⟩,
     ⟨(some 16), [.t 15], .p (.nilChk), none⟩,
     ⟨(some 17), [.t 16], .p (.fAddr 0), none⟩,
     ⟨(some 18), [.t 17], .r (.load none), none⟩,
     ⟨(some 19), [.t 18], .p (.lenSl), none⟩,
     ⟨(some 20), [.t 19, .c (.int .i64 256)], .p (.bin .geq), none⟩,
     ⟨(some 14), [.t 20], .p (.mov), none⟩])
   (.cond (.t 14)
    (.seq (.ops [⟨(some 4), [.c (.int .i64 (-1))], .p (.mov), none⟩,
      ⟨(some 5), [.c (.bool false)], .p (.mov), none⟩])
    (.ret))
    (.skip))))))
 (.seq (.draw [(⟨(some 22), [.t 0], .p (.mov), none⟩, 0),
   (⟨(some 23), [.t 22], .p (.nilChk), none⟩, 0),
   (⟨(some 24), [.t 23], .p (.fAddr 0), none⟩, 0),
   (⟨(some 25), [.t 24], .r (.load none), none⟩, 0),
   (⟨(some 26), [.t 3], .r (.load (some 4)), none⟩, 0),
   (⟨(some 27), [.t 26], .n (.bslice 1 [(.int .u8 0), (.int .u8 0), (.int .u8 0), (.int .u8 0)] [(0, 4)]), none⟩, 0),
   (⟨(some 28), [.t 25, .t 27], .w (.append 4 4), none⟩, 0),
   (⟨(some 21), [.t 0], .p (.mov), none⟩, 0),
   (⟨(some 29), [.t 21], .p (.nilChk), none⟩, 0),
   (⟨(some 30), [.t 29], .p (.fAddr 0), none⟩, 0),
   (⟨none, [.t 30, .t 28], .w (.store 1), none⟩, 0)])
 (.seq (.ops [⟨(some 31), [.t 0], .p (.mov), none⟩,
   ⟨(some 32), [.t 31], .p (.nilChk), none⟩,
   ⟨(some 33), [.t 32], .p (.fAddr 0), none⟩,
   ⟨(some 34), [.t 33], .r (.load none), none⟩,
   ⟨(some 35), [.t 34], .p (.lenSl), none⟩,
   ⟨(some 36), [.t 35, .c (.int .i64 1)], .p (.bin .sub), none⟩,
   ⟨(some 4), [.t 36], .p (.mov), none⟩,
   ⟨(some 5), [.c (.bool true)], .p (.mov), none⟩])
 (.ret)))))
def r_palette_Palette_Add : List ARes := [.tmp 4, .tmp 5]
def F_palette_Palette_Add : AFunc := .code c_palette_Palette_Add r_palette_Palette_Add
/- (*palette.Palette).Find -/
def c_palette_Palette_Find : AC :=
 .seq (.ops [⟨(some 3), [.t 1], .n (.box), none⟩,
   ⟨(some 4), [.c (.int .i64 0)], .p (.mov), none⟩])
 (.seq (.draw [(⟨(some 5), [.t 0], .p (.mov), none⟩, 0),
   (⟨(some 6), [.t 5], .p (.nilChk), none⟩, 0),
   (⟨(some 7), [.t 6], .p (.fAddr 0), none⟩, 0),
   (⟨(some 8), [.t 7], .r (.load none), none⟩, 0),
   (⟨(some 9), [.t 3], .r (.load (some 4)), none⟩, 0),
   (⟨(some 10), [.t 8, .t 9], .w (.callF f_slices_Index__api_Color_api_Color), none⟩, 0),
   (⟨(some 4), [.t 10], .p (.mov), none⟩, 0)])
 (.ret))
def r_palette_Palette_Find : List ARes := [.tmp 4]
def F_palette_Palette_Find : AFunc := .code c_palette_Palette_Find r_palette_Palette_Find
/- (*palette.Palette).Colors -/
def c_palette_Palette_Colors : AC :=
 .seq (.ops [⟨(some 2), [.c (.slice none 0 (.exact 0))], .p (.mov), none⟩])
 (.seq (.ops [⟨(some 3), [.t 0], .p (.mov), none⟩,
   ⟨(some 4), [.t 3], .p (.nilChk), none⟩,
   ⟨(some 5), [.t 4], .p (.fAddr 0), none⟩,
   ⟨(some 6), [.t 5], .r (.load none), none⟩,
   ⟨(some 7), [.t 6], .w (.callF f_slices_Clone__api_Color_api_Color), none⟩,
   ⟨(some 2), [.t 7], .p (.mov), none⟩])
 (.ret))
def r_palette_Palette_Colors : List ARes := [.tmp 2]
def F_palette_Palette_Colors : AFunc := .code c_palette_Palette_Colors r_palette_Palette_Colors
/- glyphicmake.Color -/
def c_glyphicmake_Color : AC :=
 .seq (.ops [⟨(some 2), [], .n (.alloc [(.int .u8 0), (.int .u8 0), (.int .u8 0), (.int .u8 0)]), none⟩])
 (.seq (.ops [⟨(some 3), [.c (.int .u8 255), .c (.int .u8 255)], .p (.build [(.int .u8 0), (.int .u8 0), (.int .u8 0), (.int .u8 0)] [(0, 1), (3, 1)]), none⟩,
   ⟨(some 4), [.c (.int .u8 128), .c (.int .u8 255)], .p (.build [(.int .u8 0), (.int .u8 0), (.int .u8 0), (.int .u8 0)] [(1, 1), (3, 1)]), none⟩,
   ⟨(some 5), [.c (.int .u8 200), .c (.int .u8 100)], .p (.build [(.int .u8 0), (.int .u8 0), (.int .u8 0), (.int .u8 0)] [(2, 1), (3, 1)]), none⟩,
   ⟨(some 6), [.c (.int .u8 10), .c (.int .u8 20), .c (.int .u8 30), .c (.int .u8 1)], .p (.build [(.int .u8 0), (.int .u8 0), (.int .u8 0), (.int .u8 0)] [(0, 1), (1, 1), (2, 1), (3, 1)]), none⟩,
   ⟨(some 7), [.c (.int .u8 255), .c (.int .u8 255), .c (.int .u8 255), .c (.int .u8 255)], .p (.build [(.int .u8 0), (.int .u8 0), (.int .u8 0), (.int .u8 0)] [(0, 1), (1, 1), (2, 1), (3, 1)]), none⟩,
   ⟨(some 8), [.c (.int .u8 0)], .p (.build [(.int .u8 0), (.int .u8 0), (.int .u8 0), (.int .u8 0)] [(3, 1)]), none⟩,
   ⟨(some 9), [.c (.int .u8 7), .c (.int .u8 254)], .p (.build [(.int .u8 0), (.int .u8 0), (.int .u8 0), (.int .u8 0)] [(0, 1), (3, 1)]), none⟩,
   ⟨(some 10), [.t 3, .t 4, .t 5, .t 6, .t 7, .t 8, .t 9], .n (.bslice 7 [(.int .u8 0), (.int .u8 0), (.int .u8 0), (.int .u8 0), (.int .u8 0), (.int .u8 0), (.int .u8 0), (.int .u8 0), (.int .u8 0), (.int .u8 0), (.int .u8 0), (.int .u8 0), (.int .u8 0), (.int .u8 0), (.int .u8 0), (.int .u8 0), (.int .u8 0), (.int .u8 0), (.int .u8 0), (.int .u8 0), (.int .u8 0), (.int .u8 0), (.int .u8 0), (.int .u8 0), (.int .u8 0), (.int .u8 0), (.int .u8 0), (.int .u8 0)] [(0, 4), (4, 4), (8, 4), (12, 4), (16, 4), (20, 4), (24, 4)]), none⟩,
   ⟨(some 11), [.t 0], .p (.mov), none⟩,
   ⟨(some 12), [.t 11, .c (.int .i64 7)], .w (.callF f_glyphicmake_Seq_Next), none⟩,
   ⟨(some 13), [.t 10, .t 12], .p (.iAddrS 4), none⟩,
   ⟨(some 14), [.t 13], .r (.load (some 4)), none⟩,
   ⟨none, [.t 2, .t 14], .w (.store 4), none⟩])
 (.ret))
def r_glyphicmake_Color : List ARes := [.cell 2 (some 4)]
def F_glyphicmake_Color : AFunc := .code c_glyphicmake_Color r_glyphicmake_Color
/- glyphicref12.Find -/
def c_glyphicref12_Find_l0 : AC :=
 .seq (.seq (.ops [⟨(some 6), [.t 5], .p (.mov), none⟩,
     ⟨(some 7), [.t 0], .p (.mov), none⟩,
     ⟨(some 8), [.t 7], .p (.lenSl), none⟩,
     ⟨(some 9), [.t 6, .t 8], .p (.bin .lss), none⟩])
   (.cond (.t 9)
    (.skip)
    (.exit 0)))
   (.seq (.block 1
    (.seq (.draw [(⟨(some 12), [.t 0], .p (.mov), none⟩, 0),
      (⟨(some 13), [.t 5], .p (.mov), none⟩, 0),
      (⟨(some 14), [.t 12, .t 13], .p (.iAddrS 4), none⟩, 0),
      (⟨(some 15), [.t 14], .r (.load (some 4)), none⟩, 0),
      (⟨(some 16), [.t 3], .r (.load (some 4)), none⟩, 0),
      (⟨(some 17), [.t 15, .t 16], .w (.callF f_glyphicref_SameColor), none⟩, 0)])
    (.cond (.t 17)
     (.seq (.ops [⟨(some 18), [.t 5], .p (.mov), none⟩,
       ⟨(some 4), [.t 18], .p (.mov), none⟩])
     (.ret))
     (.skip))))
   (.ops [⟨(some 10), [.t 5], .p (.mov), none⟩,
     ⟨(some 11), [.t 10, .c (.int .i64 1)], .p (.bin .add), none⟩,
     ⟨(some 5), [.t 11], .p (.mov), none⟩]))
def c_glyphicref12_Find : AC :=
 .seq (.ops [⟨(some 3), [.t 1], .n (.box), none⟩,
   ⟨(some 4), [.c (.int .i64 0)], .p (.mov), none⟩])
 (.seq (.seq (.ops [⟨(some 5), [.c (.int .i64 0)], .p (.mov), none⟩])
 (.block 0
  (.loop c_glyphicref12_Find_l0)))
 (.seq (.ops [⟨(some 4), [.c (.int .i64 (-1))], .p (.mov), none⟩])
 (.ret)))
def r_glyphicref12_Find : List ARes := [.tmp 4]
def F_glyphicref12_Find : AFunc := .code c_glyphicref12_Find r_glyphicref12_Find
/- glyphicref.SameColors -/
def c_glyphicref_SameColors_l0 : AC :=
 .seq (.seq (.ops [⟨(some 12), [.t 5], .p (.mov), none⟩,
     ⟨(some 13), [.t 0], .p (.mov), none⟩,
     ⟨(some 14), [.t 13], .p (.lenSl), none⟩,
     ⟨(some 15), [.t 12, .t 14], .p (.bin .lss), none⟩])
   (.cond (.t 15)
    (.skip)
    (.exit 0)))
   (.seq (.block 1
    (.seq (.draw [(⟨(some 18), [.t 0], .p (.mov), none⟩, 0),
      (⟨(some 19), [.t 5], .p (.mov), none⟩, 0),
      (⟨(some 20), [.t 18, .t 19], .p (.iAddrS 4), none⟩, 0),
      (⟨(some 21), [.t 20], .r (.load (some 4)), none⟩, 0),
      (⟨(some 22), [.t 1], .p (.mov), none⟩, 0),
      (⟨(some 23), [.t 5], .p (.mov), none⟩, 0),
      (⟨(some 24), [.t 22, .t 23], .p (.iAddrS 4), none⟩, 0),
      (⟨(some 25), [.t 24], .r (.load (some 4)), none⟩, 0),
      (⟨(some 26), [.t 21, .t 25], .w (.callF f_glyphicref_SameColor), none⟩, 0),
      (⟨(some 6), [.t 26], .p (.mov), none⟩, 0)])
    (.seq (.ops [⟨(some 27), [.t 6], .p (.mov), none⟩,
      ⟨(some 28), [.t 27], .p (.un .not), none⟩])
    (.cond (.t 28)
     (.seq (.ops [⟨(some 4), [.c (.bool false)], .p (.mov), none⟩])
     (.ret))
     (.skip)))))
   (.ops [⟨(some 16), [.t 5], .p (.mov), none⟩,
     ⟨(some 17), [.t 16, .c (.int .i64 1)], .p (.bin .add), none⟩,
     ⟨(some 5), [.t 17], .p (.mov), none⟩]))
def c_glyphicref_SameColors : AC :=
 .seq (.ops [⟨(some 4), [.c (.bool false)], .p (.mov), none⟩])
 (.seq (.seq (.ops [⟨(some 7), [.t 0], .p (.mov), none⟩,
   ⟨(some 8), [.t 7], .p (.lenSl), none⟩,
   ⟨(some 9), [.t 1], .p (.mov), none⟩,
   ⟨(some 10), [.t 9], .p (.lenSl), none⟩,
   ⟨(some 11), [.t 8, .t 10], .p (.bin .neq), none⟩])
 (.cond (.t 11)
  (.seq (.ops [⟨(some 4), [.c (.bool false)], .p (.mov), none⟩])
  (.ret))
  (.skip)))
 (.seq (.seq (.ops [⟨(some 5), [.c (.int .i64 0)], .p (.mov), none⟩])
 (.block 0
  (.loop c_glyphicref_SameColors_l0)))
 (.seq (.ops [⟨(some 4), [.c (.bool true)], .p (.mov), none⟩])
 (.ret))))
def r_glyphicref_SameColors : List ARes := [.tmp 4]
def F_glyphicref_SameColors : AFunc := .code c_glyphicref_SameColors r_glyphicref_SameColors
/- (*glyphicmake.Seq).Next -/
def c_glyphicmake_Seq_Next : AC :=
 .seq (.ops [⟨(some 4), [.c (.int .i64 0)], .p (.mov), none⟩])
 (.seq (.ops [⟨(some 5), [.c (.int .i64 0)], .p (.mov), none⟩])
 (.seq (.seq (.draw [(⟨(some 6), [.t 0], .p (.mov), none⟩, 0),
   (⟨(some 7), [.t 6], .p (.nilChk), none⟩, 0),
   (⟨(some 8), [.t 7], .p (.fAddr 1), none⟩, 0),
   (⟨(some 9), [.t 8], .r (.load none), none⟩, 0),
   (⟨(some 10), [.t 0], .p (.mov), none⟩, 0),
   (⟨(some 11), [.t 10], .p (.nilChk), none⟩, 0),
   (⟨(some 12), [.t 11], .p (.fAddr 0), none⟩, 0),
   (⟨(some 13), [.t 12], .r (.load none), none⟩, 0),
   (⟨(some 14), [.t 13], .p (.lenSl), none⟩, 0),
   (⟨(some 15), [.t 9, .t 14], .p (.bin .lss), none⟩, 0)])
 (.cond (.t 15)
  (.draw [(⟨(some 16), [.t 0], .p (.mov), none⟩, 0),
    (⟨(some 17), [.t 16], .p (.nilChk), none⟩, 0),
    (⟨(some 18), [.t 17], .p (.fAddr 0), none⟩, 0),
    (⟨(some 19), [.t 18], .r (.load none), none⟩, 0),
    (⟨(some 20), [.t 0], .p (.mov), none⟩, 0),
    (⟨(some 21), [.t 20], .p (.nilChk), none⟩, 0),
    (⟨(some 22), [.t 21], .p (.fAddr 1), none⟩, 0),
    (⟨(some 23), [.t 22], .r (.load none), none⟩, 0),
    (⟨(some 24), [.t 19, .t 23], .p (.iAddrS 1), none⟩, 0),
    (⟨(some 25), [.t 24], .r (.load none), none⟩, 0),
    (⟨(some 5), [.t 25], .p (.mov), none⟩, 0)])
  (.skip)))
 (.seq (.ops [⟨(some 26), [.t 0], .p (.mov), none⟩,
   ⟨(some 27), [.t 0], .p (.mov), none⟩,
   ⟨(some 28), [.t 27], .p (.nilChk), none⟩,
   ⟨(some 29), [.t 28], .p (.fAddr 1), none⟩,
   ⟨(some 30), [.t 29], .r (.load none), none⟩,
   ⟨(some 31), [.t 30, .c (.int .i64 1)], .p (.bin .add), none⟩,
   ⟨(some 32), [.t 26], .p (.nilChk), none⟩,
   ⟨(some 33), [.t 32], .p (.fAddr 1), none⟩,
   ⟨none, [.t 33, .t 31], .w (.store 1), none⟩])
 (.seq (.ops [⟨(some 34), [.t 5], .p (.mov), none⟩,
   ⟨(some 35), [.t 1], .p (.mov), none⟩,
   ⟨(some 36), [.t 34, .t 35], .w (.callF f_glyphicworld_Number), none⟩,
   ⟨(some 4), [.t 36], .p (.mov), none⟩])
 (.ret)))))
def r_glyphicmake_Seq_Next : List ARes := [.tmp 4]
def F_glyphicmake_Seq_Next : AFunc := .code c_glyphicmake_Seq_Next r_glyphicmake_Seq_Next
/- plane.Cross -/
def c_plane_Cross : AC :=
 .seq (.ops [⟨(some 3), [.t 0], .n (.box), none⟩,
   ⟨(some 4), [.t 1], .n (.box), none⟩,
   ⟨(some 5), [.t 2], .n (.box), none⟩,
   ⟨(some 6), [.c (.int .i64 0)], .p (.mov), none⟩])
 (.seq (.draw [(⟨(some 9), [.t 4], .r (.load (some 2)), none⟩, 0),
   (⟨(some 10), [.t 3], .r (.load (some 2)), none⟩, 0),
   (⟨(some 11), [.t 9, .t 10], .w (.callF f_plane_Sub), none⟩, 0),
   (⟨(some 12), [.t 5], .r (.load (some 2)), none⟩, 1),
   (⟨(some 13), [.t 3], .r (.load (some 2)), none⟩, 1),
   (⟨(some 14), [.t 12, .t 13], .w (.callF f_plane_Sub), none⟩, 0),
   (⟨(some 7), [], .n (.alloc [(.int .i64 0), (.int .i64 0)]), none⟩, 0),
   (⟨(some 8), [], .n (.alloc [(.int .i64 0), (.int .i64 0)]), none⟩, 1),
   (⟨none, [.t 7, .t 11], .w (.store 2), none⟩, 0),
   (⟨none, [.t 8, .t 14], .w (.store 2), none⟩, 0)])
 (.seq (.ops [⟨(some 15), [.t 7], .p (.fAddr 0), none⟩,
   ⟨(some 16), [.t 15], .r (.load none), none⟩,
   ⟨(some 17), [.t 8], .p (.fAddr 1), none⟩,
   ⟨(some 18), [.t 17], .r (.load none), none⟩,
   ⟨(some 19), [.t 16, .t 18], .p (.bin .mul), none⟩,
   ⟨(some 20), [.t 7], .p (.fAddr 1), none⟩,
   ⟨(some 21), [.t 20], .r (.load none), none⟩,
   ⟨(some 22), [.t 8], .p (.fAddr 0), none⟩,
   ⟨(some 23), [.t 22], .r (.load none), none⟩,
   ⟨(some 24), [.t 21, .t 23], .p (.bin .mul), none⟩,
   ⟨(some 25), [.t 19, .t 24], .p (.bin .sub), none⟩,
   ⟨(some 6), [.t 25], .p (.mov), none⟩])
 (.ret)))
def r_plane_Cross : List ARes := [.tmp 6]
def F_plane_Cross : AFunc := .code c_plane_Cross r_plane_Cross
/- glyphicref1.Cross -/
def c_glyphicref1_Cross : AC :=
 .seq (.ops [⟨(some 3), [.t 0], .n (.box), none⟩,
   ⟨(some 4), [.t 1], .n (.box), none⟩,
   ⟨(some 5), [.t 2], .n (.box), none⟩,
   ⟨(some 6), [.c (.int .i64 0)], .p (.mov), none⟩])
 (.seq (.ops [⟨(some 7), [.t 4], .p (.fAddr 0), none⟩,
   ⟨(some 8), [.t 7], .r (.load none), none⟩,
   ⟨(some 9), [.t 3], .p (.fAddr 0), none⟩,
   ⟨(some 10), [.t 9], .r (.load none), none⟩,
   ⟨(some 11), [.t 8, .t 10], .p (.bin .sub), none⟩,
   ⟨(some 12), [.t 5], .p (.fAddr 1), none⟩,
   ⟨(some 13), [.t 12], .r (.load none), none⟩,
   ⟨(some 14), [.t 3], .p (.fAddr 1), none⟩,
   ⟨(some 15), [.t 14], .r (.load none), none⟩,
   ⟨(some 16), [.t 13, .t 15], .p (.bin .sub), none⟩,
   ⟨(some 17), [.t 11, .t 16], .p (.bin .mul), none⟩,
   ⟨(some 18), [.t 4], .p (.fAddr 1), none⟩,
   ⟨(some 19), [.t 18], .r (.load none), none⟩,
   ⟨(some 20), [.t 3], .p (.fAddr 1), none⟩,
   ⟨(some 21), [.t 20], .r (.load none), none⟩,
   ⟨(some 22), [.t 19, .t 21], .p (.bin .sub), none⟩,
   ⟨(some 23), [.t 5], .p (.fAddr 0), none⟩,
   ⟨(some 24), [.t 23], .r (.load none), none⟩,
   ⟨(some 25), [.t 3], .p (.fAddr 0), none⟩,
   ⟨(some 26), [.t 25], .r (.load none), none⟩,
   ⟨(some 27), [.t 24, .t 26], .p (.bin .sub), none⟩,
   ⟨(some 28), [.t 22, .t 27], .p (.bin .mul), none⟩,
   ⟨(some 29), [.t 17, .t 28], .p (.bin .sub), none⟩,
   ⟨(some 6), [.t 29], .p (.mov), none⟩])
 (.ret))
def r_glyphicref1_Cross : List ARes := [.tmp 6]
def F_glyphicref1_Cross : AFunc := .code c_glyphicref1_Cross r_glyphicref1_Cross
/- slices.Index[[]api.Color,api.Color] -/
def c_slices_Index__api_Color_api_Color_l0 : AC :=
 .seq (.ops [⟨(some 9), [.t 8, .t 7], .p (.bin .lss), none⟩])
   (.seq (.cond (.t 9)
    (.skip)
    (.exit 0))
   (.seq (.block 1
    (.seq (.ops [⟨(some 10), [.t 8], .p (.mov), none⟩,
      ⟨(some 5), [.t 10], .p (.mov), none⟩])
    (.seq (.draw [(⟨(some 11), [.t 3], .r (.load (some 4)), none⟩, 0),
      (⟨(some 12), [.t 0], .p (.mov), none⟩, 0),
      (⟨(some 13), [.t 5], .p (.mov), none⟩, 0),
      (⟨(some 14), [.t 12, .t 13], .p (.iAddrS 4), none⟩, 0),
      (⟨(some 15), [.t 14], .r (.load (some 4)), none⟩, 0),
      (⟨(some 16), [.t 11, .t 15], .r (.eq false (.agg [(0, none, .int), (1, none, .int), (2, none, .int), (3, none, .int)])), none⟩, 0)])
    (.cond (.t 16)
     (.seq (.ops [⟨(some 17), [.t 5], .p (.mov), none⟩,
       ⟨(some 4), [.t 17], .p (.mov), none⟩])
     (.ret))
     (.skip)))))
   (.ops [⟨(some 18), [.t 8, .c (.int .i64 1)], .p (.bin .add), none⟩,
     ⟨(some 8), [.t 18], .p (.mov), none⟩])))
def c_slices_Index__api_Color_api_Color : AC :=
 .seq (.ops [⟨(some 3), [.t 1], .n (.box), none⟩,
   ⟨(some 4), [.c (.int .i64 0)], .p (.mov), none⟩])
 (.seq (.seq (.ops [⟨(some 6), [.t 0], .p (.mov), none⟩,
   ⟨(some 7), [.t 6], .p (.lenSl), none⟩,
   ⟨(some 8), [.c (.int .i64 0)], .p (.mov), none⟩])
 (.block 0
  (.loop c_slices_Index__api_Color_api_Color_l0)))
 (.seq (.ops [⟨(some 4), [.c (.int .i64 (-1))], .p (.mov), none⟩])
 (.ret)))
def r_slices_Index__api_Color_api_Color : List ARes := [.tmp 4]
def F_slices_Index__api_Color_api_Color : AFunc := .code c_slices_Index__api_Color_api_Color r_slices_Index__api_Color_api_Color
/- slices.Clone[[]api.Color,api.Color] -/
def c_slices_Clone__api_Color_api_Color : AC :=
 .seq (.ops [⟨(some 2), [.c (.slice none 0 (.exact 0))], .p (.mov), none⟩])
 (.seq (.seq (.ops [⟨(some 3), [.t 0], .p (.mov), none⟩,
   ⟨(some 4), [.t 3, .c (.slice none 0 (.exact 0))], .r (.eq false .nilS), none⟩])
 (.cond (.t 4)
  (.seq (.ops [⟨(some 2), [.c (.slice none 0 (.exact 0))], .p (.mov), none⟩])
  (.ret))
  (.skip)))
 (.seq (.ops [⟨(some 5), [], .n (.bslice 0 [] []), none⟩,
   ⟨(some 6), [.t 0], .p (.mov), none⟩,
   ⟨(some 7), [.t 5, .t 6], .w (.append 4 4), none⟩,
   ⟨(some 2), [.t 7], .p (.mov), none⟩])
 (.ret)))
def r_slices_Clone__api_Color_api_Color : List ARes := [.tmp 2]
def F_slices_Clone__api_Color_api_Color : AFunc := .code c_slices_Clone__api_Color_api_Color r_slices_Clone__api_Color_api_Color
/- glyphicworld.Number -/
def c_glyphicworld_Number : AC :=
 .seq (.ops [⟨(some 4), [.c (.int .i64 0)], .p (.mov), none⟩])
 (.seq (.ops [⟨(some 6), [.t 0], .p (.mov), none⟩,
   ⟨(some 7), [.t 1], .p (.mov), none⟩,
   ⟨(some 8), [.t 6, .t 7], .p (.bin .rem), none⟩,
   ⟨(some 5), [.t 8], .p (.mov), none⟩])
 (.seq (.seq (.ops [⟨(some 9), [.t 5], .p (.mov), none⟩,
   ⟨(some 10), [.t 9, .c (.int .i64 0)], .p (.bin .lss), none⟩])
 (.cond (.t 10)
  (.ops [⟨(some 11), [.t 5], .p (.mov), none⟩,
    ⟨(some 12), [.t 1], .p (.mov), none⟩,
    ⟨(some 13), [.t 11, .t 12], .p (.bin .add), none⟩,
    ⟨(some 5), [.t 13], .p (.mov), none⟩])
  (.skip)))
 (.seq (.ops [⟨(some 14), [.t 5], .p (.mov), none⟩,
   ⟨(some 4), [.t 14], .p (.mov), none⟩])
 (.ret))))
def r_glyphicworld_Number : List ARes := [.tmp 4]
def F_glyphicworld_Number : AFunc := .code c_glyphicworld_Number r_glyphicworld_Number
/- plane.Sub -/
def c_plane_Sub : AC :=
 .seq (.ops [⟨(some 2), [.t 0], .n (.box), none⟩,
   ⟨(some 3), [.t 1], .n (.box), none⟩,
   ⟨(some 4), [], .n (.alloc [(.int .i64 0), (.int .i64 0)]), none⟩])
 (.seq (.ops [⟨(some 5), [.t 2], .p (.fAddr 0), none⟩,
   ⟨(some 6), [.t 5], .r (.load none), none⟩,
   ⟨(some 7), [.t 3], .p (.fAddr 0), none⟩,
   ⟨(some 8), [.t 7], .r (.load none), none⟩,
   ⟨(some 9), [.t 6, .t 8], .p (.bin .sub), none⟩,
   ⟨(some 10), [.t 2], .p (.fAddr 1), none⟩,
   ⟨(some 11), [.t 10], .r (.load none), none⟩,
   ⟨(some 12), [.t 3], .p (.fAddr 1), none⟩,
   ⟨(some 13), [.t 12], .r (.load none), none⟩,
   ⟨(some 14), [.t 11, .t 13], .p (.bin .sub), none⟩,
   ⟨(some 15), [.t 9, .t 14], .p (.build [(.int .i64 0), (.int .i64 0)] [(0, 1), (1, 1)]), none⟩,
   ⟨none, [.t 4, .t 15], .w (.store 2), none⟩])
 (.ret))
def r_plane_Sub : List ARes := [.cell 4 (some 2)]
def F_plane_Sub : AFunc := .code c_plane_Sub r_plane_Sub
def cfg : Cfg := ⟨[], []⟩
def envL : List (Nat × AFunc) := [(f_glyphiclaw16_PaletteOrder, F_glyphiclaw16_PaletteOrder), (f_color_Wide, F_color_Wide), (f_color_Show, F_color_Show), (f_glyphicref_SameColor, F_glyphicref_SameColor), (f_glyphicmake_Edges, F_glyphicmake_Edges), (f_glyphicmake_Ring, F_glyphicmake_Ring), (f_glyphicmake_Point, F_glyphicmake_Point), (f_wind_One, F_wind_One), (f_glyphicref20_One, F_glyphicref20_One), (f_wind_Number, F_wind_Number), (f_glyphicref20_Number, F_glyphicref20_Number), (f_wind_Inside, F_wind_Inside), (f_glyphicref20_Inside, F_glyphicref20_Inside), (f_glyphiclaw16_first, F_glyphiclaw16_first), (f_palette_Palette_Add, F_palette_Palette_Add), (f_palette_Palette_Find, F_palette_Palette_Find), (f_palette_Palette_Colors, F_palette_Palette_Colors), (f_glyphicmake_Color, F_glyphicmake_Color), (f_glyphicref12_Find, F_glyphicref12_Find), (f_glyphicref_SameColors, F_glyphicref_SameColors), (f_glyphicmake_Seq_Next, F_glyphicmake_Seq_Next), (f_plane_Cross, F_plane_Cross), (f_glyphicref1_Cross, F_glyphicref1_Cross), (f_slices_Index__api_Color_api_Color, F_slices_Index__api_Color_api_Color), (f_slices_Clone__api_Color_api_Color, F_slices_Clone__api_Color_api_Color), (f_glyphicworld_Number, F_glyphicworld_Number), (f_plane_Sub, F_plane_Sub)]
theorem E_glyphiclaw16_PaletteOrder : lookE envL f_glyphiclaw16_PaletteOrder = some F_glyphiclaw16_PaletteOrder := rfl
theorem E_color_Wide : lookE envL f_color_Wide = some F_color_Wide := rfl
theorem E_color_Show : lookE envL f_color_Show = some F_color_Show := rfl
theorem E_glyphicref_SameColor : lookE envL f_glyphicref_SameColor = some F_glyphicref_SameColor := rfl
theorem E_glyphicmake_Edges : lookE envL f_glyphicmake_Edges = some F_glyphicmake_Edges := rfl
theorem E_glyphicmake_Ring : lookE envL f_glyphicmake_Ring = some F_glyphicmake_Ring := rfl
theorem E_glyphicmake_Point : lookE envL f_glyphicmake_Point = some F_glyphicmake_Point := rfl
theorem E_wind_One : lookE envL f_wind_One = some F_wind_One := rfl
theorem E_glyphicref20_One : lookE envL f_glyphicref20_One = some F_glyphicref20_One := rfl
theorem E_wind_Number : lookE envL f_wind_Number = some F_wind_Number := rfl
theorem E_glyphicref20_Number : lookE envL f_glyphicref20_Number = some F_glyphicref20_Number := rfl
theorem E_wind_Inside : lookE envL f_wind_Inside = some F_wind_Inside := rfl
theorem E_glyphicref20_Inside : lookE envL f_glyphicref20_Inside = some F_glyphicref20_Inside := rfl
theorem E_glyphiclaw16_first : lookE envL f_glyphiclaw16_first = some F_glyphiclaw16_first := rfl
theorem E_palette_Palette_Add : lookE envL f_palette_Palette_Add = some F_palette_Palette_Add := rfl
theorem E_palette_Palette_Find : lookE envL f_palette_Palette_Find = some F_palette_Palette_Find := rfl
theorem E_palette_Palette_Colors : lookE envL f_palette_Palette_Colors = some F_palette_Palette_Colors := rfl
theorem E_glyphicmake_Color : lookE envL f_glyphicmake_Color = some F_glyphicmake_Color := rfl
theorem E_glyphicref12_Find : lookE envL f_glyphicref12_Find = some F_glyphicref12_Find := rfl
theorem E_glyphicref_SameColors : lookE envL f_glyphicref_SameColors = some F_glyphicref_SameColors := rfl
theorem E_glyphicmake_Seq_Next : lookE envL f_glyphicmake_Seq_Next = some F_glyphicmake_Seq_Next := rfl
theorem E_plane_Cross : lookE envL f_plane_Cross = some F_plane_Cross := rfl
theorem E_glyphicref1_Cross : lookE envL f_glyphicref1_Cross = some F_glyphicref1_Cross := rfl
theorem E_slices_Index__api_Color_api_Color : lookE envL f_slices_Index__api_Color_api_Color = some F_slices_Index__api_Color_api_Color := rfl
theorem E_slices_Clone__api_Color_api_Color : lookE envL f_slices_Clone__api_Color_api_Color = some F_slices_Clone__api_Color_api_Color := rfl
theorem E_glyphicworld_Number : lookE envL f_glyphicworld_Number = some F_glyphicworld_Number := rfl
theorem E_plane_Sub : lookE envL f_plane_Sub = some F_plane_Sub := rfl
end Go.IR
