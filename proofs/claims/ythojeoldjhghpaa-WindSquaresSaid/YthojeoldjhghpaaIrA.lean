/- The functions that the seat's laws reach, as the fast run has them; under names that do not hang on the seat. By program (wip/pr2.py). -/
import Derived.Test.YthojeoldjhghpaaFrT
namespace Go.IR
set_option linter.unusedVariables false
set_option linter.unusedSimpArgs false
open Go Go.FR
abbrev f_glyphiclaw22_WindSquares : Nat := 6
abbrev f_glyphiclaw22_first : Nat := 21
abbrev f_glyphicmake_Edges : Nat := 22
abbrev f_glyphicmake_Ring : Nat := 23
abbrev f_glyphicmake_Point : Nat := 24
abbrev f_wind_One : Nat := 25
abbrev f_glyphicref20_One : Nat := 26
abbrev f_wind_Number : Nat := 27
abbrev f_glyphicref20_Number : Nat := 28
abbrev f_wind_Inside : Nat := 29
abbrev f_glyphicref20_Inside : Nat := 30
abbrev f_glyphiclaw22_square : Nat := 31
abbrev f_glyphicref_Edges : Nat := 32
abbrev f_glyphiclaw22_plus : Nat := 33
abbrev f_glyphicmake_Seq_Next : Nat := 42
abbrev f_plane_Cross : Nat := 43
abbrev f_glyphicref1_Cross : Nat := 44
abbrev f_glyphicworld_Number : Nat := 47
abbrev f_plane_Sub : Nat := 48
/- glyphiclaw22.WindSquares -/
def c_glyphiclaw22_WindSquares : AC :=
 .seq (.ops [⟨(some 8), [.c (.bool false)], .p (.mov), none⟩])
 (.seq (.ops [⟨(some 22), [], .w (.callF f_glyphiclaw22_first), none⟩,
   ⟨(some 9), [.t 22], .p (.mov), none⟩])
 (.seq (.seq (.ops [⟨(some 23), [.t 9], .p (.mov), none⟩,
   ⟨(some 24), [.t 23], .p (.un .not), none⟩])
 (.cond (.t 24)
  (.seq (.ops [⟨(some 8), [.c (.bool false)], .p (.mov), none⟩])
  (.ret))
  (.skip)))
 (.seq (.ops [⟨(some 25), [.t 0], .p (.mov), none⟩,
   ⟨(some 26), [.t 25, .c (.int .i64 20)], .p (.bin .rem), none⟩,
   ⟨(some 27), [.t 26, .c (.int .i64 20)], .p (.bin .add), none⟩,
   ⟨(some 28), [.t 27, .c (.int .i64 20)], .p (.bin .rem), none⟩,
   ⟨(some 29), [.t 28, .c (.int .i64 2)], .p (.bin .add), none⟩,
   ⟨(some 0), [.t 29], .p (.mov), none⟩])
 (.seq (.ops [⟨(some 30), [.t 0], .p (.mov), none⟩,
   ⟨(some 31), [.c (.int .i64 0), .c (.int .i64 0), .t 30, .c (.bool false)], .w (.callF f_glyphiclaw22_square), none⟩,
   ⟨(some 10), [.t 31], .p (.mov), none⟩])
 (.seq (.ops [⟨(some 32), [.t 1], .p (.mov), none⟩,
   ⟨(some 33), [.t 32, .c (.int .i64 30)], .p (.bin .rem), none⟩,
   ⟨(some 34), [.t 33, .c (.int .i64 30)], .p (.bin .add), none⟩,
   ⟨(some 35), [.t 34, .c (.int .i64 30)], .p (.bin .rem), none⟩,
   ⟨(some 36), [.t 35, .c (.int .i64 4)], .p (.bin .sub), none⟩,
   ⟨(some 11), [.t 36], .p (.mov), none⟩])
 (.seq (.ops [⟨(some 37), [.t 2], .p (.mov), none⟩,
   ⟨(some 38), [.t 37, .c (.int .i64 30)], .p (.bin .rem), none⟩,
   ⟨(some 39), [.t 38, .c (.int .i64 30)], .p (.bin .add), none⟩,
   ⟨(some 40), [.t 39, .c (.int .i64 30)], .p (.bin .rem), none⟩,
   ⟨(some 41), [.t 40, .c (.int .i64 4)], .p (.bin .sub), none⟩,
   ⟨(some 12), [.t 41], .p (.mov), none⟩])
 (.seq (.ops [⟨(some 42), [.t 11], .p (.mov), none⟩,
   ⟨(some 43), [.t 12], .p (.mov), none⟩,
   ⟨(some 44), [.t 42, .t 43], .p (.build [(.int .i64 0), (.int .i64 0)] [(0, 1), (1, 1)]), none⟩,
   ⟨(some 13), [], .n (.alloc [(.int .i64 0), (.int .i64 0)]), none⟩,
   ⟨none, [.t 13, .t 44], .w (.store 2), none⟩])
 (.seq (.ops [⟨(some 45), [.t 11], .p (.mov), none⟩,
   ⟨(some 46), [.t 45, .c (.int .i64 0)], .p (.bin .gtr), none⟩,
   ⟨(some 47), [.t 46], .p (.mov), none⟩,
   ⟨(some 48), [.t 11], .p (.mov), some (47, true)⟩,
   ⟨(some 49), [.t 0], .p (.mov), some (47, true)⟩,
   ⟨(some 50), [.t 48, .t 49], .p (.bin .lss), some (47, true)⟩,
   ⟨(some 51), [.t 47, .t 50, .c (.bool false)], .p (.pick), none⟩,
   ⟨(some 52), [.t 51], .p (.mov), none⟩,
   ⟨(some 53), [.t 12], .p (.mov), some (52, true)⟩,
   ⟨(some 54), [.t 53, .c (.int .i64 0)], .p (.bin .gtr), some (52, true)⟩,
   ⟨(some 55), [.t 52, .t 54, .c (.bool false)], .p (.pick), none⟩,
   ⟨(some 56), [.t 55], .p (.mov), none⟩,
   ⟨(some 57), [.t 12], .p (.mov), some (56, true)⟩,
   ⟨(some 58), [.t 0], .p (.mov), some (56, true)⟩,
   ⟨(some 59), [.t 57, .t 58], .p (.bin .lss), some (56, true)⟩,
   ⟨(some 60), [.t 56, .t 59, .c (.bool false)], .p (.pick), none⟩,
   ⟨(some 14), [.t 60], .p (.mov), none⟩])
 (.seq (.ops [⟨(some 61), [.t 14], .p (.mov), none⟩,
   ⟨(some 62), [.t 61], .p (.un .not), none⟩,
   ⟨(some 63), [.t 62], .p (.mov), none⟩,
   ⟨(some 64), [.t 11], .p (.mov), some (63, true)⟩,
   ⟨(some 65), [.t 64, .c (.int .i64 0)], .p (.bin .geq), some (63, true)⟩,
   ⟨(some 66), [.t 63, .t 65, .c (.bool false)], .p (.pick), none⟩,
   ⟨(some 67), [.t 66], .p (.mov), none⟩,
   ⟨(some 68), [.t 11], .p (.mov), some (67, true)⟩,
   ⟨(some 69), [.t 0], .p (.mov), some (67, true)⟩,
   ⟨(some 70), [.t 68, .t 69], .p (.bin .leq), some (67, true)⟩,
   ⟨(some 71), [.t 67, .t 70, .c (.bool false)], .p (.pick), none⟩,
   ⟨(some 72), [.t 71], .p (.mov), none⟩,
   ⟨(some 73), [.t 12], .p (.mov), some (72, true)⟩,
   ⟨(some 74), [.t 73, .c (.int .i64 0)], .p (.bin .geq), some (72, true)⟩,
   ⟨(some 75), [.t 72, .t 74, .c (.bool false)], .p (.pick), none⟩,
   ⟨(some 76), [.t 75], .p (.mov), none⟩,
   ⟨(some 77), [.t 12], .p (.mov), some (76, true)⟩,
   ⟨(some 78), [.t 0], .p (.mov), some (76, true)⟩,
   ⟨(some 79), [.t 77, .t 78], .p (.bin .leq), some (76, true)⟩,
   ⟨(some 80), [.t 76, .t 79, .c (.bool false)], .p (.pick), none⟩,
   ⟨(some 15), [.t 80], .p (.mov), none⟩])
 (.seq (.ops [⟨(some 81), [.t 0], .p (.mov), none⟩,
   ⟨(some 82), [.c (.int .i64 0), .c (.int .i64 0), .t 81, .c (.bool false)], .w (.callF f_glyphiclaw22_square), none⟩,
   ⟨(some 83), [.t 0], .p (.mov), none⟩,
   ⟨(some 84), [.t 83, .c (.int .i64 1)], .p (.bin .sub), none⟩,
   ⟨(some 85), [.t 3], .p (.mov), none⟩,
   ⟨(some 86), [.c (.int .i64 1), .c (.int .i64 1), .t 84, .t 85], .w (.callF f_glyphiclaw22_square), none⟩,
   ⟨(some 87), [.t 82, .t 86], .w (.append 4 32), none⟩,
   ⟨(some 16), [.t 87], .p (.mov), none⟩])
 (.seq (.ops [⟨(some 88), [.t 11], .p (.mov), none⟩,
   ⟨(some 89), [.t 88, .c (.int .i64 1)], .p (.bin .gtr), none⟩,
   ⟨(some 90), [.t 89], .p (.mov), none⟩,
   ⟨(some 91), [.t 11], .p (.mov), some (90, true)⟩,
   ⟨(some 92), [.t 0], .p (.mov), some (90, true)⟩,
   ⟨(some 93), [.t 91, .t 92], .p (.bin .lss), some (90, true)⟩,
   ⟨(some 94), [.t 90, .t 93, .c (.bool false)], .p (.pick), none⟩,
   ⟨(some 95), [.t 94], .p (.mov), none⟩,
   ⟨(some 96), [.t 12], .p (.mov), some (95, true)⟩,
   ⟨(some 97), [.t 96, .c (.int .i64 1)], .p (.bin .gtr), some (95, true)⟩,
   ⟨(some 98), [.t 95, .t 97, .c (.bool false)], .p (.pick), none⟩,
   ⟨(some 99), [.t 98], .p (.mov), none⟩,
   ⟨(some 100), [.t 12], .p (.mov), some (99, true)⟩,
   ⟨(some 101), [.t 0], .p (.mov), some (99, true)⟩,
   ⟨(some 102), [.t 100, .t 101], .p (.bin .lss), some (99, true)⟩,
   ⟨(some 103), [.t 99, .t 102, .c (.bool false)], .p (.pick), none⟩,
   ⟨(some 104), [.t 103], .p (.mov), none⟩,
   ⟨(some 105), [.t 11], .p (.mov), some (104, true)⟩,
   ⟨(some 106), [.t 105, .c (.int .i64 1)], .p (.bin .sub), some (104, true)⟩,
   ⟨(some 107), [.t 0], .p (.mov), some (104, true)⟩,
   ⟨(some 108), [.t 107, .c (.int .i64 1)], .p (.bin .sub), some (104, true)⟩,
   ⟨(some 109), [.t 106, .t 108], .p (.bin .lss), some (104, true)⟩,
   ⟨(some 110), [.t 104, .t 109, .c (.bool false)], .p (.pick), none⟩,
   ⟨(some 111), [.t 110], .p (.mov), none⟩,
   ⟨(some 112), [.t 12], .p (.mov), some (111, true)⟩,
   ⟨(some 113), [.t 112, .c (.int .i64 1)], .p (.bin .sub), some (111, true)⟩,
   ⟨(some 114), [.t 0], .p (.mov), some (111, true)⟩,
   ⟨(some 115), [.t 114, .c (.int .i64 1)], .p (.bin .sub), some (111, true)⟩,
   ⟨(some 116), [.t 113, .t 115], .p (.bin .lss), some (111, true)⟩,
   ⟨(some 117), [.t 111, .t 116, .c (.bool false)], .p (.pick), none⟩,
   ⟨(some 17), [.t 117], .p (.mov), none⟩])
 (.seq (.ops [⟨(some 118), [.t 17], .p (.mov), none⟩,
   ⟨(some 119), [.t 118], .p (.un .not), none⟩,
   ⟨(some 120), [.t 119], .p (.mov), none⟩,
   ⟨(some 121), [.t 11], .p (.mov), some (120, true)⟩,
   ⟨(some 122), [.t 121, .c (.int .i64 1)], .p (.bin .geq), some (120, true)⟩,
   ⟨(some 123), [.t 120, .t 122, .c (.bool false)], .p (.pick), none⟩,
   ⟨(some 124), [.t 123], .p (.mov), none⟩,
   ⟨(some 125), [.t 11], .p (.mov), some (124, true)⟩,
   ⟨(some 126), [.t 0], .p (.mov), some (124, true)⟩,
   ⟨(some 127), [.t 125, .t 126], .p (.bin .leq), some (124, true)⟩,
   ⟨(some 128), [.t 124, .t 127, .c (.bool false)], .p (.pick), none⟩,
   ⟨(some 129), [.t 128], .p (.mov), none⟩,
   ⟨(some 130), [.t 12], .p (.mov), some (129, true)⟩,
   ⟨(some 131), [.t 130, .c (.int .i64 1)], .p (.bin .geq), some (129, true)⟩,
   ⟨(some 132), [.t 129, .t 131, .c (.bool false)], .p (.pick), none⟩,
   ⟨(some 133), [.t 132], .p (.mov), none⟩,
   ⟨(some 134), [.t 12], .p (.mov), some (133, true)⟩,
   ⟨(some 135), [.t 0], .p (.mov), some (133, true)⟩,
   ⟨(some 136), [.t 134, .t 135], .p (.bin .leq), some (133, true)⟩,
   ⟨(some 137), [.t 133, .t 136, .c (.bool false)], .p (.pick), none⟩,
   ⟨(some 18), [.t 137], .p (.mov), none⟩])
 (.seq (.ops [⟨(some 138), [.t 10], .p (.mov), none⟩,
   ⟨(some 139), [.t 13], .r (.load (some 2)), none⟩,
   ⟨(some 140), [.t 138, .t 139], .w (.callF f_wind_Number), none⟩,
   ⟨(some 19), [.t 140], .p (.mov), none⟩])
 (.seq (.ops [⟨(some 141), [.t 16], .p (.mov), none⟩,
   ⟨(some 142), [.t 13], .r (.load (some 2)), none⟩,
   ⟨(some 143), [.t 141, .t 142], .w (.callF f_wind_Number), none⟩,
   ⟨(some 20), [.t 143], .p (.mov), none⟩])
 (.seq (.seq (.ops [⟨(some 144), [.t 15], .p (.mov), none⟩])
 (.cond (.t 144)
  (.seq (.ops [⟨(some 145), [.t 9], .p (.mov), none⟩,
    ⟨(some 8), [.t 145], .p (.mov), none⟩])
  (.ret))
  (.skip)))
 (.seq (.ops [⟨(some 21), [.c (.int .i64 0)], .p (.mov), none⟩])
 (.seq (.seq (.ops [⟨(some 146), [.t 14], .p (.mov), none⟩])
 (.cond (.t 146)
  (.ops [⟨(some 21), [.c (.int .i64 1)], .p (.mov), none⟩])
  (.skip)))
 (.seq (.seq (.ops [⟨(some 147), [.t 19], .p (.mov), none⟩,
   ⟨(some 148), [.t 21], .p (.mov), none⟩,
   ⟨(some 149), [.t 147, .t 148], .p (.bin .neq), none⟩,
   ⟨(some 150), [.t 149], .p (.mov), none⟩,
   ⟨(some 151), [.t 19], .p (.mov), some (150, true)⟩,
   ⟨(some 152), [.t 21], .p (.mov), some (150, true)⟩,
   ⟨(some 153), [.t 152], .p (.un .neg), some (150, true)⟩,
   ⟨(some 154), [.t 151, .t 153], .p (.bin .neq), some (150, true)⟩,
   ⟨(some 155), [.t 150, .t 154, .c (.bool false)], .p (.pick), none⟩])
 (.cond (.t 155)
  (.seq (.ops [⟨(some 8), [.c (.bool false)], .p (.mov), none⟩])
  (.ret))
  (.skip)))
 (.seq (.seq (.ops [⟨(some 156), [.t 18], .p (.mov), none⟩])
 (.cond (.t 156)
  (.seq (.ops [⟨(some 157), [.t 9], .p (.mov), none⟩,
    ⟨(some 8), [.t 157], .p (.mov), none⟩])
  (.ret))
  (.skip)))
 (.seq (.seq (.ops [⟨(some 158), [.t 17], .p (.mov), none⟩,
   ⟨(some 159), [.t 158], .p (.mov), none⟩,
   ⟨(some 160), [.t 3], .p (.mov), some (159, true)⟩,
   ⟨(some 161), [.t 159, .t 160, .c (.bool false)], .p (.pick), none⟩])
 (.cond (.t 161)
  (.seq (.ops [⟨(some 162), [.t 9], .p (.mov), none⟩,
    ⟨(some 163), [.t 162], .p (.mov), none⟩,
    ⟨(some 164), [.t 20], .p (.mov), some (163, true)⟩,
    ⟨(some 165), [.t 164, .c (.int .i64 0)], .p (.bin .eql), some (163, true)⟩,
    ⟨(some 166), [.t 163, .t 165, .c (.bool false)], .p (.pick), none⟩,
    ⟨(some 8), [.t 166], .p (.mov), none⟩])
  (.ret))
  (.skip)))
 (.seq (.seq (.ops [⟨(some 167), [.t 17], .p (.mov), none⟩])
 (.cond (.t 167)
  (.seq (.ops [⟨(some 168), [.t 9], .p (.mov), none⟩,
    ⟨(some 169), [.t 168], .p (.mov), none⟩,
    ⟨(some 170), [.t 20], .p (.mov), some (169, true)⟩,
    ⟨(some 171), [.t 170, .c (.int .i64 2)], .p (.bin .eql), some (169, true)⟩,
    ⟨(some 172), [.t 171], .p (.mov), some (169, true)⟩,
    ⟨(some 173), [.t 20], .p (.mov), some (172, false)⟩,
    ⟨(some 174), [.t 173, .c (.int .i64 (-2))], .p (.bin .eql), some (172, false)⟩,
    ⟨(some 175), [.t 172, .c (.bool true), .t 174], .p (.pick), some (169, true)⟩,
    ⟨(some 176), [.t 169, .t 175, .c (.bool false)], .p (.pick), none⟩,
    ⟨(some 8), [.t 176], .p (.mov), none⟩])
  (.ret))
  (.skip)))
 (.seq (.ops [⟨(some 177), [.t 9], .p (.mov), none⟩,
   ⟨(some 178), [.t 177], .p (.mov), none⟩,
   ⟨(some 179), [.t 20], .p (.mov), some (178, true)⟩,
   ⟨(some 180), [.t 19], .p (.mov), some (178, true)⟩,
   ⟨(some 181), [.t 179, .t 180], .p (.bin .eql), some (178, true)⟩,
   ⟨(some 182), [.t 178, .t 181, .c (.bool false)], .p (.pick), none⟩,
   ⟨(some 8), [.t 182], .p (.mov), none⟩])
 (.ret)))))))))))))))))))))))
def r_glyphiclaw22_WindSquares : List ARes := [.tmp 8]
def F_glyphiclaw22_WindSquares : AFunc := .code c_glyphiclaw22_WindSquares r_glyphiclaw22_WindSquares
/- glyphiclaw22.first -/
def c_glyphiclaw22_first : AC :=
 .seq (.ops [⟨(some 0), [.c (.bool false)], .p (.mov), none⟩])
 (.seq (.ops [⟨(some 2), [.c (.int .i64 9)], .p (.build [(.int .i64 0), (.int .i64 0)] [(0, 1)]), none⟩,
   ⟨(some 3), [.c (.int .i64 9), .c (.int .i64 5)], .p (.build [(.int .i64 0), (.int .i64 0)] [(0, 1), (1, 1)]), none⟩,
   ⟨(some 4), [.t 2, .t 3], .p (.build [(.int .i64 0), (.int .i64 0), (.int .i64 0), (.int .i64 0)] [(0, 2), (2, 2)]), none⟩,
   ⟨(some 5), [.t 4], .n (.bslice 1 [(.int .i64 0), (.int .i64 0), (.int .i64 0), (.int .i64 0)] [(0, 4)]), none⟩,
   ⟨(some 1), [.t 5], .p (.mov), none⟩])
 (.seq (.ops [⟨(some 6), [], .p (.build [(.int .i64 0), (.int .i64 0)] []), none⟩,
   ⟨(some 7), [.c (.slice none 0 (.exact 0)), .t 6], .w (.callF f_wind_Number), none⟩,
   ⟨(some 8), [.t 7, .c (.int .i64 0)], .p (.bin .eql), none⟩,
   ⟨(some 9), [.t 8], .p (.mov), none⟩,
   ⟨(some 10), [.t 1], .p (.mov), some (9, true)⟩,
   ⟨(some 11), [.c (.int .i64 1), .c (.int .i64 1)], .p (.build [(.int .i64 0), (.int .i64 0)] [(0, 1), (1, 1)]), some (9, true)⟩,
   ⟨(some 12), [.t 10, .t 11], .w (.callF f_wind_Number), some (9, true)⟩,
   ⟨(some 13), [.t 12, .c (.int .i64 1)], .p (.bin .eql), some (9, true)⟩,
   ⟨(some 14), [.t 9, .t 13, .c (.bool false)], .p (.pick), none⟩,
   ⟨(some 15), [.t 14], .p (.mov), none⟩,
   ⟨(some 16), [], .p (.build [(.int .i64 0), (.int .i64 0)] []), some (15, true)⟩,
   ⟨(some 17), [.c (.slice none 0 (.exact 0)), .c (.int .i64 1), .t 16], .w (.callF f_wind_Inside), some (15, true)⟩,
   ⟨(some 18), [.t 17], .p (.un .not), some (15, true)⟩,
   ⟨(some 19), [.t 15, .t 18, .c (.bool false)], .p (.pick), none⟩,
   ⟨(some 0), [.t 19], .p (.mov), none⟩])
 (.ret)))
def r_glyphiclaw22_first : List ARes := [.tmp 0]
def F_glyphiclaw22_first : AFunc := .code c_glyphiclaw22_first r_glyphiclaw22_first
/- glyphicmake.Edges -/
def c_glyphicmake_Edges_l0 : AC :=
 .seq (.seq (.ops [⟨(some 14), [.t 8], .p (.mov), none⟩,
     ⟨(some 15), [.t 14, .c (.int .i64 0)], .p (.bin .gtr), none⟩])
   (.cond (.t 15)
    (.skip)
    (.exit 0)))
   (.seq (.block 1
    (.seq (.ops [⟨(some 18), [.t 0], .p (.mov), none⟩,
      ⟨(some 19), [.t 2], .p (.mov), none⟩,
      ⟨(some 20), [.t 18, .t 19], .w (.callF f_glyphicmake_Point), none⟩,
      ⟨(some 9), [], .n (.alloc [(.int .i64 0), (.int .i64 0)]), none⟩,
      ⟨none, [.t 9, .t 20], .w (.store 2), none⟩])
    (.draw [(⟨(some 23), [.t 0], .p (.mov), none⟩, 0),
      (⟨(some 24), [.t 2], .p (.mov), none⟩, 0),
      (⟨(some 25), [.t 23, .t 24], .w (.callF f_glyphicmake_Point), none⟩, 0),
      (⟨(some 21), [.t 7], .p (.mov), none⟩, 0),
      (⟨(some 22), [.t 9], .r (.load (some 2)), none⟩, 1),
      (⟨(some 26), [.t 22, .t 25], .p (.build [(.int .i64 0), (.int .i64 0), (.int .i64 0), (.int .i64 0)] [(0, 2), (2, 2)]), none⟩, 0),
      (⟨(some 27), [.t 26], .n (.bslice 1 [(.int .i64 0), (.int .i64 0), (.int .i64 0), (.int .i64 0)] [(0, 4)]), none⟩, 0),
      (⟨(some 28), [.t 21, .t 27], .w (.append 4 32), none⟩, 0),
      (⟨(some 7), [.t 28], .p (.mov), none⟩, 0)])))
   (.ops [⟨(some 16), [.t 8], .p (.mov), none⟩,
     ⟨(some 17), [.t 16, .c (.int .i64 1)], .p (.bin .sub), none⟩,
     ⟨(some 8), [.t 17], .p (.mov), none⟩]))
def c_glyphicmake_Edges : AC :=
 .seq (.ops [⟨(some 6), [.c (.slice none 0 (.exact 0))], .p (.mov), none⟩])
 (.seq (.ops [⟨(some 7), [.c (.slice none 0 (.exact 0))], .p (.mov), none⟩])
 (.seq (.seq (.ops [⟨(some 10), [.t 0], .p (.mov), none⟩,
   ⟨(some 11), [.t 1], .p (.mov), none⟩,
   ⟨(some 12), [.t 11, .c (.int .i64 1)], .p (.bin .add), none⟩,
   ⟨(some 13), [.t 10, .t 12], .w (.callF f_glyphicmake_Seq_Next), none⟩,
   ⟨(some 8), [.t 13], .p (.mov), none⟩])
 (.block 0
  (.loop c_glyphicmake_Edges_l0)))
 (.seq (.ops [⟨(some 29), [.t 7], .p (.mov), none⟩,
   ⟨(some 6), [.t 29], .p (.mov), none⟩])
 (.ret))))
def r_glyphicmake_Edges : List ARes := [.tmp 6]
def F_glyphicmake_Edges : AFunc := .code c_glyphicmake_Edges r_glyphicmake_Edges
/- glyphicmake.Ring -/
def c_glyphicmake_Ring_l0 : AC :=
 .seq (.seq (.ops [⟨(some 21), [.t 11], .p (.mov), none⟩,
     ⟨(some 22), [.t 7], .p (.mov), none⟩,
     ⟨(some 23), [.t 21, .t 22], .p (.bin .lss), none⟩])
   (.cond (.t 23)
    (.skip)
    (.exit 0)))
   (.seq (.block 1
    (.seq (.ops [⟨(some 26), [.t 0], .p (.mov), none⟩,
      ⟨(some 27), [.t 2], .p (.mov), none⟩,
      ⟨(some 28), [.t 26, .t 27], .w (.callF f_glyphicmake_Point), none⟩,
      ⟨(some 12), [], .n (.alloc [(.int .i64 0), (.int .i64 0)]), none⟩,
      ⟨none, [.t 12, .t 28], .w (.store 2), none⟩])
    (.seq (.ops [⟨(some 29), [.t 10], .p (.mov), none⟩,
      ⟨(some 30), [.t 9], .r (.load (some 2)), none⟩,
      ⟨(some 31), [.t 12], .r (.load (some 2)), none⟩,
      ⟨(some 32), [.t 30, .t 31], .p (.build [(.int .i64 0), (.int .i64 0), (.int .i64 0), (.int .i64 0)] [(0, 2), (2, 2)]), none⟩,
      ⟨(some 33), [.t 32], .n (.bslice 1 [(.int .i64 0), (.int .i64 0), (.int .i64 0), (.int .i64 0)] [(0, 4)]), none⟩,
      ⟨(some 34), [.t 29, .t 33], .w (.append 4 32), none⟩,
      ⟨(some 10), [.t 34], .p (.mov), none⟩])
    (.ops [⟨(some 35), [.t 12], .r (.load (some 2)), none⟩,
      ⟨none, [.t 9, .t 35], .w (.store 2), none⟩]))))
   (.ops [⟨(some 24), [.t 11], .p (.mov), none⟩,
     ⟨(some 25), [.t 24, .c (.int .i64 1)], .p (.bin .add), none⟩,
     ⟨(some 11), [.t 25], .p (.mov), none⟩]))
def c_glyphicmake_Ring : AC :=
 .seq (.ops [⟨(some 6), [.c (.slice none 0 (.exact 0))], .p (.mov), none⟩])
 (.seq (.ops [⟨(some 13), [.t 0], .p (.mov), none⟩,
   ⟨(some 14), [.t 1], .p (.mov), none⟩,
   ⟨(some 15), [.t 13, .t 14], .w (.callF f_glyphicmake_Seq_Next), none⟩,
   ⟨(some 16), [.c (.int .i64 3), .t 15], .p (.bin .add), none⟩,
   ⟨(some 7), [.t 16], .p (.mov), none⟩])
 (.seq (.ops [⟨(some 17), [.t 0], .p (.mov), none⟩,
   ⟨(some 18), [.t 2], .p (.mov), none⟩,
   ⟨(some 19), [.t 17, .t 18], .w (.callF f_glyphicmake_Point), none⟩,
   ⟨(some 8), [], .n (.alloc [(.int .i64 0), (.int .i64 0)]), none⟩,
   ⟨none, [.t 8, .t 19], .w (.store 2), none⟩])
 (.seq (.ops [⟨(some 20), [.t 8], .r (.load (some 2)), none⟩,
   ⟨(some 9), [], .n (.alloc [(.int .i64 0), (.int .i64 0)]), none⟩,
   ⟨none, [.t 9, .t 20], .w (.store 2), none⟩])
 (.seq (.ops [⟨(some 10), [.c (.slice none 0 (.exact 0))], .p (.mov), none⟩])
 (.seq (.seq (.ops [⟨(some 11), [.c (.int .i64 1)], .p (.mov), none⟩])
 (.block 0
  (.loop c_glyphicmake_Ring_l0)))
 (.seq (.ops [⟨(some 36), [.t 10], .p (.mov), none⟩,
   ⟨(some 37), [.t 9], .r (.load (some 2)), none⟩,
   ⟨(some 38), [.t 8], .r (.load (some 2)), none⟩,
   ⟨(some 39), [.t 37, .t 38], .p (.build [(.int .i64 0), (.int .i64 0), (.int .i64 0), (.int .i64 0)] [(0, 2), (2, 2)]), none⟩,
   ⟨(some 40), [.t 39], .n (.bslice 1 [(.int .i64 0), (.int .i64 0), (.int .i64 0), (.int .i64 0)] [(0, 4)]), none⟩,
   ⟨(some 41), [.t 36, .t 40], .w (.append 4 32), none⟩,
   ⟨(some 6), [.t 41], .p (.mov), none⟩])
 (.ret)))))))
def r_glyphicmake_Ring : List ARes := [.tmp 6]
def F_glyphicmake_Ring : AFunc := .code c_glyphicmake_Ring r_glyphicmake_Ring
/- glyphicmake.Point -/
def c_glyphicmake_Point : AC :=
 .seq (.ops [⟨(some 4), [], .n (.alloc [(.int .i64 0), (.int .i64 0)]), none⟩])
 (.seq (.ops [⟨(some 6), [.t 0], .p (.mov), none⟩,
   ⟨(some 7), [.t 1], .p (.mov), none⟩,
   ⟨(some 8), [.c (.int .i64 2), .t 7], .p (.bin .mul), none⟩,
   ⟨(some 9), [.t 8, .c (.int .i64 1)], .p (.bin .add), none⟩,
   ⟨(some 10), [.t 6, .t 9], .w (.callF f_glyphicmake_Seq_Next), none⟩,
   ⟨(some 11), [.t 1], .p (.mov), none⟩,
   ⟨(some 12), [.t 10, .t 11], .p (.bin .sub), none⟩,
   ⟨(some 5), [.t 12], .p (.mov), none⟩])
 (.seq (.ops [⟨(some 13), [.t 5], .p (.mov), none⟩,
   ⟨(some 14), [.t 0], .p (.mov), none⟩,
   ⟨(some 15), [.t 1], .p (.mov), none⟩,
   ⟨(some 16), [.c (.int .i64 2), .t 15], .p (.bin .mul), none⟩,
   ⟨(some 17), [.t 16, .c (.int .i64 1)], .p (.bin .add), none⟩,
   ⟨(some 18), [.t 14, .t 17], .w (.callF f_glyphicmake_Seq_Next), none⟩,
   ⟨(some 19), [.t 1], .p (.mov), none⟩,
   ⟨(some 20), [.t 18, .t 19], .p (.bin .sub), none⟩,
   ⟨(some 21), [.t 13, .t 20], .p (.build [(.int .i64 0), (.int .i64 0)] [(0, 1), (1, 1)]), none⟩,
   ⟨none, [.t 4, .t 21], .w (.store 2), none⟩])
 (.ret)))
def r_glyphicmake_Point : List ARes := [.cell 4 (some 2)]
def F_glyphicmake_Point : AFunc := .code c_glyphicmake_Point r_glyphicmake_Point
/- wind.One -/
def c_wind_One : AC :=
 .seq (.ops [⟨(some 2), [.t 0], .n (.box), none⟩,
   ⟨(some 3), [.t 1], .n (.box), none⟩,
   ⟨(some 4), [.c (.int .i64 0)], .p (.mov), none⟩])
 (.seq (.block 0
  (.seq (.ops [⟨(some 6), [.t 2], .p (.fAddr 0), none⟩,
    ⟨(some 7), [.t 6], .p (.fAddr 1), none⟩,
    ⟨(some 8), [.t 7], .r (.load none), none⟩,
    ⟨(some 9), [.t 3], .p (.fAddr 1), none⟩,
    ⟨(some 10), [.t 9], .r (.load none), none⟩,
    ⟨(some 11), [.t 8, .t 10], .p (.bin .leq), none⟩,
    ⟨(some 12), [.t 11], .p (.mov), none⟩,
    ⟨(some 13), [.t 2], .p (.fAddr 2), some (12, true)⟩,
    ⟨(some 14), [.t 13], .p (.fAddr 1), some (12, true)⟩,
    ⟨(some 15), [.t 14], .r (.load none), some (12, true)⟩,
    ⟨(some 16), [.t 3], .p (.fAddr 1), some (12, true)⟩,
    ⟨(some 17), [.t 16], .r (.load none), some (12, true)⟩,
    ⟨(some 18), [.t 15, .t 17], .p (.bin .gtr), some (12, true)⟩,
    ⟨(some 19), [.t 12, .t 18, .c (.bool false)], .p (.pick), none⟩,
    ⟨(some 20), [.t 19], .p (.mov), none⟩,
    ⟨(some 21), [.t 2], .p (.fAddr 0), some (20, true)⟩,
    ⟨(some 22), [.t 21], .r (.load (some 2)), some (20, true)⟩,
    ⟨(some 23), [.t 2], .p (.fAddr 2), some (20, true)⟩,
    ⟨(some 24), [.t 23], .r (.load (some 2)), some (20, true)⟩,
    ⟨(some 25), [.t 3], .r (.load (some 2)), some (20, true)⟩,
    ⟨(some 26), [.t 22, .t 24, .t 25], .w (.callF f_plane_Cross), some (20, true)⟩,
    ⟨(some 27), [.t 26, .c (.int .i64 0)], .p (.bin .gtr), some (20, true)⟩,
    ⟨(some 28), [.t 20, .t 27, .c (.bool false)], .p (.pick), none⟩,
    ⟨(some 5), [.t 28], .p (.mov), none⟩])
  (.cond (.t 5)
   (.seq (.ops [⟨(some 4), [.c (.int .i64 1)], .p (.mov), none⟩])
   (.ret))
   (.seq (.ops [⟨(some 30), [.t 2], .p (.fAddr 2), none⟩,
     ⟨(some 31), [.t 30], .p (.fAddr 1), none⟩,
     ⟨(some 32), [.t 31], .r (.load none), none⟩,
     ⟨(some 33), [.t 3], .p (.fAddr 1), none⟩,
     ⟨(some 34), [.t 33], .r (.load none), none⟩,
     ⟨(some 35), [.t 32, .t 34], .p (.bin .leq), none⟩,
     ⟨(some 36), [.t 35], .p (.mov), none⟩,
     ⟨(some 37), [.t 2], .p (.fAddr 0), some (36, true)⟩,
     ⟨(some 38), [.t 37], .p (.fAddr 1), some (36, true)⟩,
     ⟨(some 39), [.t 38], .r (.load none), some (36, true)⟩,
     ⟨(some 40), [.t 3], .p (.fAddr 1), some (36, true)⟩,
     ⟨(some 41), [.t 40], .r (.load none), some (36, true)⟩,
     ⟨(some 42), [.t 39, .t 41], .p (.bin .gtr), some (36, true)⟩,
     ⟨(some 43), [.t 36, .t 42, .c (.bool false)], .p (.pick), none⟩,
     ⟨(some 44), [.t 43], .p (.mov), none⟩,
     ⟨(some 45), [.t 2], .p (.fAddr 0), some (44, true)⟩,
     ⟨(some 46), [.t 45], .r (.load (some 2)), some (44, true)⟩,
     ⟨(some 47), [.t 2], .p (.fAddr 2), some (44, true)⟩,
     ⟨(some 48), [.t 47], .r (.load (some 2)), some (44, true)⟩,
     ⟨(some 49), [.t 3], .r (.load (some 2)), some (44, true)⟩,
     ⟨(some 50), [.t 46, .t 48, .t 49], .w (.callF f_plane_Cross), some (44, true)⟩,
     ⟨(some 51), [.t 50, .c (.int .i64 0)], .p (.bin .lss), some (44, true)⟩,
     ⟨(some 52), [.t 44, .t 51, .c (.bool false)], .p (.pick), none⟩,
     ⟨(some 29), [.t 52], .p (.mov), none⟩])
   (.cond (.t 29)
    (.seq (.ops [⟨(some 4), [.c (.int .i64 (-1))], .p (.mov), none⟩])
    (.ret))
    (.skip))))))
 (.seq (.ops [⟨(some 4), [.c (.int .i64 0)], .p (.mov), none⟩])
 (.ret)))
def r_wind_One : List ARes := [.tmp 4]
def F_wind_One : AFunc := .code c_wind_One r_wind_One
/- glyphicref20.One -/
def c_glyphicref20_One : AC :=
 .seq (.ops [⟨(some 2), [.t 0], .n (.box), none⟩,
   ⟨(some 3), [.t 1], .n (.box), none⟩,
   ⟨(some 4), [.c (.int .i64 0)], .p (.mov), none⟩])
 (.seq (.ops [⟨(some 6), [.t 2], .p (.fAddr 0), none⟩,
   ⟨(some 7), [.t 6], .r (.load (some 2)), none⟩,
   ⟨(some 8), [.t 2], .p (.fAddr 2), none⟩,
   ⟨(some 9), [.t 8], .r (.load (some 2)), none⟩,
   ⟨(some 10), [.t 3], .r (.load (some 2)), none⟩,
   ⟨(some 11), [.t 7, .t 9, .t 10], .w (.callF f_glyphicref1_Cross), none⟩,
   ⟨(some 5), [.t 11], .p (.mov), none⟩])
 (.seq (.seq (.ops [⟨(some 12), [.t 2], .p (.fAddr 0), none⟩,
   ⟨(some 13), [.t 12], .p (.fAddr 1), none⟩,
   ⟨(some 14), [.t 13], .r (.load none), none⟩,
   ⟨(some 15), [.t 3], .p (.fAddr 1), none⟩,
   ⟨(some 16), [.t 15], .r (.load none), none⟩,
   ⟨(some 17), [.t 14, .t 16], .p (.bin .leq), none⟩,
   ⟨(some 18), [.t 17], .p (.mov), none⟩,
   ⟨(some 19), [.t 2], .p (.fAddr 2), some (18, true)⟩,
   ⟨(some 20), [.t 19], .p (.fAddr 1), some (18, true)⟩,
   ⟨(some 21), [.t 20], .r (.load none), some (18, true)⟩,
   ⟨(some 22), [.t 3], .p (.fAddr 1), some (18, true)⟩,
   ⟨(some 23), [.t 22], .r (.load none), some (18, true)⟩,
   ⟨(some 24), [.t 21, .t 23], .p (.bin .gtr), some (18, true)⟩,
   ⟨(some 25), [.t 18, .t 24, .c (.bool false)], .p (.pick), none⟩,
   ⟨(some 26), [.t 25], .p (.mov), none⟩,
   ⟨(some 27), [.t 5], .p (.mov), some (26, true)⟩,
   ⟨(some 28), [.t 27, .c (.int .i64 0)], .p (.bin .gtr), some (26, true)⟩,
   ⟨(some 29), [.t 26, .t 28, .c (.bool false)], .p (.pick), none⟩])
 (.cond (.t 29)
  (.seq (.ops [⟨(some 4), [.c (.int .i64 1)], .p (.mov), none⟩])
  (.ret))
  (.skip)))
 (.seq (.seq (.ops [⟨(some 30), [.t 2], .p (.fAddr 2), none⟩,
   ⟨(some 31), [.t 30], .p (.fAddr 1), none⟩,
   ⟨(some 32), [.t 31], .r (.load none), none⟩,
   ⟨(some 33), [.t 3], .p (.fAddr 1), none⟩,
   ⟨(some 34), [.t 33], .r (.load none), none⟩,
   ⟨(some 35), [.t 32, .t 34], .p (.bin .leq), none⟩,
   ⟨(some 36), [.t 35], .p (.mov), none⟩,
   ⟨(some 37), [.t 2], .p (.fAddr 0), some (36, true)⟩,
   ⟨(some 38), [.t 37], .p (.fAddr 1), some (36, true)⟩,
   ⟨(some 39), [.t 38], .r (.load none), some (36, true)⟩,
   ⟨(some 40), [.t 3], .p (.fAddr 1), some (36, true)⟩,
   ⟨(some 41), [.t 40], .r (.load none), some (36, true)⟩,
   ⟨(some 42), [.t 39, .t 41], .p (.bin .gtr), some (36, true)⟩,
   ⟨(some 43), [.t 36, .t 42, .c (.bool false)], .p (.pick), none⟩,
   ⟨(some 44), [.t 43], .p (.mov), none⟩,
   ⟨(some 45), [.t 5], .p (.mov), some (44, true)⟩,
   ⟨(some 46), [.t 45, .c (.int .i64 0)], .p (.bin .lss), some (44, true)⟩,
   ⟨(some 47), [.t 44, .t 46, .c (.bool false)], .p (.pick), none⟩])
 (.cond (.t 47)
  (.seq (.ops [⟨(some 4), [.c (.int .i64 (-1))], .p (.mov), none⟩])
  (.ret))
  (.skip)))
 (.seq (.ops [⟨(some 4), [.c (.int .i64 0)], .p (.mov), none⟩])
 (.ret)))))
def r_glyphicref20_One : List ARes := [.tmp 4]
def F_glyphicref20_One : AFunc := .code c_glyphicref20_One r_glyphicref20_One
/- wind.Number -/
def c_wind_Number_l0 : AC :=
 .seq (.ops [⟨(some 11), [.t 10, .t 9], .p (.bin .lss), none⟩])
   (.seq (.cond (.t 11)
    (.skip)
    (.exit 0))
   (.seq (.block 1
    (.seq (.ops [⟨(some 12), [.t 8, .t 10], .p (.iAddrS 4), none⟩,
      ⟨(some 13), [.t 12], .r (.load (some 4)), none⟩,
      ⟨(some 7), [], .n (.alloc [(.int .i64 0), (.int .i64 0), (.int .i64 0), (.int .i64 0)]), none⟩,
      ⟨none, [.t 7, .t 13], .w (.store 4), none⟩])
    (.ops [⟨(some 14), [.t 5], .p (.mov), none⟩,
      ⟨(some 15), [.t 7], .r (.load (some 4)), none⟩,
      ⟨(some 16), [.t 3], .r (.load (some 2)), none⟩,
      ⟨(some 17), [.t 15, .t 16], .w (.callF f_wind_One), none⟩,
      ⟨(some 18), [.t 14, .t 17], .p (.bin .add), none⟩,
      ⟨(some 5), [.t 18], .p (.mov), none⟩])))
   (.ops [⟨(some 19), [.t 10, .c (.int .i64 1)], .p (.bin .add), none⟩,
     ⟨(some 10), [.t 19], .p (.mov), none⟩])))
def c_wind_Number : AC :=
 .seq (.ops [⟨(some 3), [.t 1], .n (.box), none⟩,
   ⟨(some 4), [.c (.int .i64 0)], .p (.mov), none⟩])
 (.seq (.ops [⟨(some 5), [.c (.int .i64 0)], .p (.mov), none⟩])
 (.seq (.seq (.ops [⟨(some 8), [.t 0], .p (.mov), none⟩,
   ⟨(some 9), [.t 8], .p (.lenSl), none⟩,
   ⟨(some 10), [.c (.int .i64 0)], .p (.mov), none⟩])
 (.block 0
  (.loop c_wind_Number_l0)))
 (.seq (.ops [⟨(some 20), [.t 5], .p (.mov), none⟩,
   ⟨(some 4), [.t 20], .p (.mov), none⟩])
 (.ret))))
def r_wind_Number : List ARes := [.tmp 4]
def F_wind_Number : AFunc := .code c_wind_Number r_wind_Number
/- glyphicref20.Number -/
def c_glyphicref20_Number_l0 : AC :=
 .seq (.seq (.ops [⟨(some 7), [.t 6], .p (.mov), none⟩,
     ⟨(some 8), [.t 0], .p (.mov), none⟩,
     ⟨(some 9), [.t 8], .p (.lenSl), none⟩,
     ⟨(some 10), [.t 7, .t 9], .p (.bin .lss), none⟩])
   (.cond (.t 10)
    (.skip)
    (.exit 0)))
   (.seq (.block 1
    (.draw [(⟨(some 14), [.t 0], .p (.mov), none⟩, 0),
      (⟨(some 15), [.t 6], .p (.mov), none⟩, 0),
      (⟨(some 16), [.t 14, .t 15], .p (.iAddrS 4), none⟩, 0),
      (⟨(some 17), [.t 16], .r (.load (some 4)), none⟩, 0),
      (⟨(some 18), [.t 3], .r (.load (some 2)), none⟩, 0),
      (⟨(some 19), [.t 17, .t 18], .w (.callF f_glyphicref20_One), none⟩, 0),
      (⟨(some 13), [.t 5], .p (.mov), none⟩, 0),
      (⟨(some 20), [.t 13, .t 19], .p (.bin .add), none⟩, 0),
      (⟨(some 5), [.t 20], .p (.mov), none⟩, 0)]))
   (.ops [⟨(some 11), [.t 6], .p (.mov), none⟩,
     ⟨(some 12), [.t 11, .c (.int .i64 1)], .p (.bin .add), none⟩,
     ⟨(some 6), [.t 12], .p (.mov), none⟩]))
def c_glyphicref20_Number : AC :=
 .seq (.ops [⟨(some 3), [.t 1], .n (.box), none⟩,
   ⟨(some 4), [.c (.int .i64 0)], .p (.mov), none⟩])
 (.seq (.ops [⟨(some 5), [.c (.int .i64 0)], .p (.mov), none⟩])
 (.seq (.seq (.ops [⟨(some 6), [.c (.int .i64 0)], .p (.mov), none⟩])
 (.block 0
  (.loop c_glyphicref20_Number_l0)))
 (.seq (.ops [⟨(some 21), [.t 5], .p (.mov), none⟩,
   ⟨(some 4), [.t 21], .p (.mov), none⟩])
 (.ret))))
def r_glyphicref20_Number : List ARes := [.tmp 4]
def F_glyphicref20_Number : AFunc := .code c_glyphicref20_Number r_glyphicref20_Number
/- wind.Inside -/
def c_wind_Inside : AC :=
 .seq (.ops [⟨(some 5), [.t 2], .n (.box), none⟩,
   ⟨(some 6), [.c (.bool false)], .p (.mov), none⟩])
 (.seq (.ops [⟨(some 8), [.t 0], .p (.mov), none⟩,
   ⟨(some 9), [.t 5], .r (.load (some 2)), none⟩,
   ⟨(some 10), [.t 8, .t 9], .w (.callF f_wind_Number), none⟩,
   ⟨(some 7), [.t 10], .p (.mov), none⟩])
 (.seq (.seq (.ops [⟨(some 11), [.t 1], .p (.mov), none⟩,
   ⟨(some 12), [.t 11, .c (.int .i64 0)], .p (.bin .eql), none⟩])
 (.cond (.t 12)
  (.seq (.ops [⟨(some 13), [.t 7], .p (.mov), none⟩,
    ⟨(some 14), [.t 13, .c (.int .i64 2)], .p (.bin .rem), none⟩,
    ⟨(some 15), [.t 14, .c (.int .i64 0)], .p (.bin .neq), none⟩,
    ⟨(some 6), [.t 15], .p (.mov), none⟩])
  (.ret))
  (.skip)))
 (.seq (.ops [⟨(some 16), [.t 7], .p (.mov), none⟩,
   ⟨(some 17), [.t 16, .c (.int .i64 0)], .p (.bin .neq), none⟩,
   ⟨(some 6), [.t 17], .p (.mov), none⟩])
 (.ret))))
def r_wind_Inside : List ARes := [.tmp 6]
def F_wind_Inside : AFunc := .code c_wind_Inside r_wind_Inside
/- glyphicref20.Inside -/
def c_glyphicref20_Inside : AC :=
 .seq (.ops [⟨(some 5), [.t 2], .n (.box), none⟩,
   ⟨(some 6), [.c (.bool false)], .p (.mov), none⟩])
 (.seq (.ops [⟨(some 8), [.t 0], .p (.mov), none⟩,
   ⟨(some 9), [.t 5], .r (.load (some 2)), none⟩,
   ⟨(some 10), [.t 8, .t 9], .w (.callF f_glyphicref20_Number), none⟩,
   ⟨(some 7), [.t 10], .p (.mov), none⟩])
 (.seq (.seq (.ops [⟨(some 11), [.t 1], .p (.mov), none⟩,
   ⟨(some 12), [.t 11, .c (.int .i64 0)], .p (.bin .eql), none⟩])
 (.cond (.t 12)
  (.seq (.ops [⟨(some 13), [.t 7], .p (.mov), none⟩,
    ⟨(some 14), [.t 13, .c (.int .i64 2)], .p (.bin .rem), none⟩,
    ⟨(some 15), [.t 14, .c (.int .i64 0)], .p (.bin .neq), none⟩,
    ⟨(some 6), [.t 15], .p (.mov), none⟩])
  (.ret))
  (.skip)))
 (.seq (.ops [⟨(some 16), [.t 7], .p (.mov), none⟩,
   ⟨(some 17), [.t 16, .c (.int .i64 0)], .p (.bin .neq), none⟩,
   ⟨(some 6), [.t 17], .p (.mov), none⟩])
 (.ret))))
def r_glyphicref20_Inside : List ARes := [.tmp 6]
def F_glyphicref20_Inside : AFunc := .code c_glyphicref20_Inside r_glyphicref20_Inside
/- glyphiclaw22.square -/
def c_glyphiclaw22_square_l0 : AC :=
 .seq (.seq (.ops [⟨(some 35), [.t 11], .p (.mov), none⟩,
     ⟨(some 36), [.t 35, .c (.int .i64 4)], .p (.bin .lss), none⟩])
   (.cond (.t 36)
    (.skip)
    (.exit 0)))
   (.seq (.block 1
    (.seq (.ops [⟨(some 39), [.t 9], .p (.mov), none⟩,
      ⟨(some 40), [.t 11], .p (.mov), none⟩,
      ⟨(some 41), [.t 39, .t 40], .p (.iAddrS 2), none⟩,
      ⟨(some 42), [.t 41], .r (.load (some 2)), none⟩,
      ⟨(some 12), [], .n (.alloc [(.int .i64 0), (.int .i64 0)]), none⟩,
      ⟨none, [.t 12, .t 42], .w (.store 2), none⟩])
    (.seq (.ops [⟨(some 43), [.t 9], .p (.mov), none⟩,
      ⟨(some 44), [.t 11], .p (.mov), none⟩,
      ⟨(some 45), [.t 44, .c (.int .i64 1)], .p (.bin .add), none⟩,
      ⟨(some 46), [.t 45, .c (.int .i64 4)], .p (.bin .rem), none⟩,
      ⟨(some 47), [.t 43, .t 46], .p (.iAddrS 2), none⟩,
      ⟨(some 48), [.t 47], .r (.load (some 2)), none⟩,
      ⟨(some 13), [], .n (.alloc [(.int .i64 0), (.int .i64 0)]), none⟩,
      ⟨none, [.t 13, .t 48], .w (.store 2), none⟩])
    (.seq (.seq (.ops [⟨(some 49), [.t 3], .p (.mov), none⟩])
    (.cond (.t 49)
     (.ops [⟨(some 50), [.t 13], .r (.load (some 2)), none⟩,
       ⟨(some 51), [.t 12], .r (.load (some 2)), none⟩,
       ⟨none, [.t 12, .t 50], .w (.store 2), none⟩,
       ⟨none, [.t 13, .t 51], .w (.store 2), none⟩])
     (.skip)))
    (.ops [⟨(some 52), [.t 10], .p (.mov), none⟩,
      ⟨(some 53), [.t 12], .r (.load (some 2)), none⟩,
      ⟨(some 54), [.t 13], .r (.load (some 2)), none⟩,
      ⟨(some 55), [.t 53, .t 54], .p (.build [(.int .i64 0), (.int .i64 0), (.int .i64 0), (.int .i64 0)] [(0, 2), (2, 2)]), none⟩,
      ⟨(some 56), [.t 55], .n (.bslice 1 [(.int .i64 0), (.int .i64 0), (.int .i64 0), (.int .i64 0)] [(0, 4)]), none⟩,
      ⟨(some 57), [.t 52, .t 56], .w (.append 4 32), none⟩,
      ⟨(some 10), [.t 57], .p (.mov), none⟩])))))
   (.ops [⟨(some 37), [.t 11], .p (.mov), none⟩,
     ⟨(some 38), [.t 37, .c (.int .i64 1)], .p (.bin .add), none⟩,
     ⟨(some 11), [.t 38], .p (.mov), none⟩]))
def c_glyphiclaw22_square : AC :=
 .seq (.ops [⟨(some 8), [.c (.slice none 0 (.exact 0))], .p (.mov), none⟩])
 (.seq (.ops [⟨(some 14), [.t 0], .p (.mov), none⟩,
   ⟨(some 15), [.t 1], .p (.mov), none⟩,
   ⟨(some 16), [.t 14, .t 15], .p (.build [(.int .i64 0), (.int .i64 0)] [(0, 1), (1, 1)]), none⟩,
   ⟨(some 17), [.t 0], .p (.mov), none⟩,
   ⟨(some 18), [.t 2], .p (.mov), none⟩,
   ⟨(some 19), [.t 17, .t 18], .p (.bin .add), none⟩,
   ⟨(some 20), [.t 1], .p (.mov), none⟩,
   ⟨(some 21), [.t 19, .t 20], .p (.build [(.int .i64 0), (.int .i64 0)] [(0, 1), (1, 1)]), none⟩,
   ⟨(some 22), [.t 0], .p (.mov), none⟩,
   ⟨(some 23), [.t 2], .p (.mov), none⟩,
   ⟨(some 24), [.t 22, .t 23], .p (.bin .add), none⟩,
   ⟨(some 25), [.t 1], .p (.mov), none⟩,
   ⟨(some 26), [.t 2], .p (.mov), none⟩,
   ⟨(some 27), [.t 25, .t 26], .p (.bin .add), none⟩,
   ⟨(some 28), [.t 24, .t 27], .p (.build [(.int .i64 0), (.int .i64 0)] [(0, 1), (1, 1)]), none⟩,
   ⟨(some 29), [.t 0], .p (.mov), none⟩,
   ⟨(some 30), [.t 1], .p (.mov), none⟩,
   ⟨(some 31), [.t 2], .p (.mov), none⟩,
   ⟨(some 32), [.t 30, .t 31], .p (.bin .add), none⟩,
   ⟨(some 33), [.t 29, .t 32], .p (.build [(.int .i64 0), (.int .i64 0)] [(0, 1), (1, 1)]), none⟩,
   ⟨(some 34), [.t 16, .t 21, .t 28, .t 33], .n (.bslice 4 [(.int .i64 0), (.int .i64 0), (.int .i64 0), (.int .i64 0), (.int .i64 0), (.int .i64 0), (.int .i64 0), (.int .i64 0)] [(0, 2), (2, 2), (4, 2), (6, 2)]), none⟩,
   ⟨(some 9), [.t 34], .p (.mov), none⟩])
 (.seq (.ops [⟨(some 10), [.c (.slice none 0 (.exact 0))], .p (.mov), none⟩])
 (.seq (.seq (.ops [⟨(some 11), [.c (.int .i64 0)], .p (.mov), none⟩])
 (.block 0
  (.loop c_glyphiclaw22_square_l0)))
 (.seq (.ops [⟨(some 58), [.t 10], .p (.mov), none⟩,
   ⟨(some 8), [.t 58], .p (.mov), none⟩])
 (.ret)))))
def r_glyphiclaw22_square : List ARes := [.tmp 8]
def F_glyphiclaw22_square : AFunc := .code c_glyphiclaw22_square r_glyphiclaw22_square
/- glyphicref.Edges -/
def c_glyphicref_Edges_l0 : AC :=
 .seq (.seq (.ops [⟨(some 8), [.t 4], .p (.mov), none⟩,
     ⟨(some 9), [.t 0], .p (.mov), none⟩,
     ⟨(some 10), [.t 9], .p (.lenSl), none⟩,
     ⟨(some 11), [.t 8, .t 10], .p (.bin .lss), none⟩])
   (.cond (.t 11)
    (.skip)
    (.exit 0)))
   (.seq (.block 1
    (.ops [⟨(some 14), [.t 3], .p (.mov), none⟩,
      ⟨(some 15), [.t 0], .p (.mov), none⟩,
      ⟨(some 16), [.t 4], .p (.mov), none⟩,
      ⟨(some 17), [.t 15, .t 16], .p (.iAddrS 4), none⟩,
      ⟨(some 18), [.t 17], .r (.load (some 4)), none⟩,
      ⟨(some 19), [.t 18], .n (.bslice 1 [(.int .i64 0), (.int .i64 0), (.int .i64 0), (.int .i64 0)] [(0, 4)]), none⟩,
      ⟨(some 20), [.t 14, .t 19], .w (.append 4 32), none⟩,
      ⟨(some 3), [.t 20], .p (.mov), none⟩]))
   (.ops [⟨(some 12), [.t 4], .p (.mov), none⟩,
     ⟨(some 13), [.t 12, .c (.int .i64 1)], .p (.bin .add), none⟩,
     ⟨(some 4), [.t 13], .p (.mov), none⟩]))
def c_glyphicref_Edges : AC :=
 .seq (.ops [⟨(some 2), [.c (.slice none 0 (.exact 0))], .p (.mov), none⟩])
 (.seq (.ops [⟨(some 5), [.t 0], .p (.mov), none⟩,
   ⟨(some 6), [.t 5], .p (.lenSl), none⟩,
   ⟨(some 7), [.c (.int .i64 0), .t 6], .n (.mkSlice 4 32 [(.int .i64 0), (.int .i64 0), (.int .i64 0), (.int .i64 0)]), none⟩,
   ⟨(some 3), [.t 7], .p (.mov), none⟩])
 (.seq (.seq (.ops [⟨(some 4), [.c (.int .i64 0)], .p (.mov), none⟩])
 (.block 0
  (.loop c_glyphicref_Edges_l0)))
 (.seq (.ops [⟨(some 21), [.t 3], .p (.mov), none⟩,
   ⟨(some 2), [.t 21], .p (.mov), none⟩])
 (.ret))))
def r_glyphicref_Edges : List ARes := [.tmp 2]
def F_glyphicref_Edges : AFunc := .code c_glyphicref_Edges r_glyphicref_Edges
/- glyphiclaw22.plus -/
def c_glyphiclaw22_plus : AC :=
 .seq (.ops [⟨(some 2), [.t 0], .n (.box), none⟩,
   ⟨(some 3), [.t 1], .n (.box), none⟩,
   ⟨(some 4), [], .n (.alloc [(.int .i64 0), (.int .i64 0)]), none⟩])
 (.seq (.ops [⟨(some 5), [.t 2], .p (.fAddr 0), none⟩,
   ⟨(some 6), [.t 5], .r (.load none), none⟩,
   ⟨(some 7), [.t 3], .p (.fAddr 0), none⟩,
   ⟨(some 8), [.t 7], .r (.load none), none⟩,
   ⟨(some 9), [.t 6, .t 8], .p (.bin .add), none⟩,
   ⟨(some 10), [.t 2], .p (.fAddr 1), none⟩,
   ⟨(some 11), [.t 10], .r (.load none), none⟩,
   ⟨(some 12), [.t 3], .p (.fAddr 1), none⟩,
   ⟨(some 13), [.t 12], .r (.load none), none⟩,
   ⟨(some 14), [.t 11, .t 13], .p (.bin .add), none⟩,
   ⟨(some 15), [.t 9, .t 14], .p (.build [(.int .i64 0), (.int .i64 0)] [(0, 1), (1, 1)]), none⟩,
   ⟨none, [.t 4, .t 15], .w (.store 2), none⟩])
 (.ret))
def r_glyphiclaw22_plus : List ARes := [.cell 4 (some 2)]
def F_glyphiclaw22_plus : AFunc := .code c_glyphiclaw22_plus r_glyphiclaw22_plus
/- (*glyphicmake.Seq).Next -/
def c_glyphicmake_Seq_Next : AC :=
 .seq (.ops [⟨(some 4), [.c (.int .i64 0)], .p (.mov), none⟩])
 (.seq (.ops [⟨(some 5), [.c (.int .i64 0)], .p (.mov), none⟩])
 (.seq (.seq (.draw [(⟨(some 6), [.t 0], .p (.mov), none⟩, 0),
   (⟨(some 7), [.t 6], .p (.nilChk), none⟩, 0),
   (⟨(some 8), [.t 7], .p (.fAddr 1), none⟩, 0),
   (⟨(some 9), [.t 8], .r (.load none), none⟩, 0),
   (⟨(some 10), [.t 0], .p (.mov), none⟩, 0),
   (⟨(some 11), [.t 10], .p (.nilChk), none⟩, 0),
   (⟨(some 12), [.t 11], .p (.fAddr 0), none⟩, 0),
   (⟨(some 13), [.t 12], .r (.load none), none⟩, 0),
   (⟨(some 14), [.t 13], .p (.lenSl), none⟩, 0),
   (⟨(some 15), [.t 9, .t 14], .p (.bin .lss), none⟩, 0)])
 (.cond (.t 15)
  (.draw [(⟨(some 16), [.t 0], .p (.mov), none⟩, 0),
    (⟨(some 17), [.t 16], .p (.nilChk), none⟩, 0),
    (⟨(some 18), [.t 17], .p (.fAddr 0), none⟩, 0),
    (⟨(some 19), [.t 18], .r (.load none), none⟩, 0),
    (⟨(some 20), [.t 0], .p (.mov), none⟩, 0),
    (⟨(some 21), [.t 20], .p (.nilChk), none⟩, 0),
    (⟨(some 22), [.t 21], .p (.fAddr 1), none⟩, 0),
    (⟨(some 23), [.t 22], .r (.load none), none⟩, 0),
    (⟨(some 24), [.t 19, .t 23], .p (.iAddrS 1), none⟩, 0),
    (⟨(some 25), [.t 24], .r (.load none), none⟩, 0),
    (⟨(some 5), [.t 25], .p (.mov), none⟩, 0)])
  (.skip)))
 (.seq (.ops [⟨(some 26), [.t 0], .p (.mov), none⟩,
   ⟨(some 27), [.t 0], .p (.mov), none⟩,
   ⟨(some 28), [.t 27], .p (.nilChk), none⟩,
   ⟨(some 29), [.t 28], .p (.fAddr 1), none⟩,
   ⟨(some 30), [.t 29], .r (.load none), none⟩,
   ⟨(some 31), [.t 30, .c (.int .i64 1)], .p (.bin .add), none⟩,
   ⟨(some 32), [.t 26], .p (.nilChk), none⟩,
   ⟨(some 33), [.t 32], .p (.fAddr 1), none⟩,
   ⟨none, [.t 33, .t 31], .w (.store 1), none⟩])
 (.seq (.ops [⟨(some 34), [.t 5], .p (.mov), none⟩,
   ⟨(some 35), [.t 1], .p (.mov), none⟩,
   ⟨(some 36), [.t 34, .t 35], .w (.callF f_glyphicworld_Number), none⟩,
   ⟨(some 4), [.t 36], .p (.mov), none⟩])
 (.ret)))))
def r_glyphicmake_Seq_Next : List ARes := [.tmp 4]
def F_glyphicmake_Seq_Next : AFunc := .code c_glyphicmake_Seq_Next r_glyphicmake_Seq_Next
/- plane.Cross -/
def c_plane_Cross : AC :=
 .seq (.ops [⟨(some 3), [.t 0], .n (.box), none⟩,
   ⟨(some 4), [.t 1], .n (.box), none⟩,
   ⟨(some 5), [.t 2], .n (.box), none⟩,
   ⟨(some 6), [.c (.int .i64 0)], .p (.mov), none⟩])
 (.seq (.draw [(⟨(some 9), [.t 4], .r (.load (some 2)), none⟩, 0),
   (⟨(some 10), [.t 3], .r (.load (some 2)), none⟩, 0),
   (⟨(some 11), [.t 9, .t 10], .w (.callF f_plane_Sub), none⟩, 0),
   (⟨(some 12), [.t 5], .r (.load (some 2)), none⟩, 1),
   (⟨(some 13), [.t 3], .r (.load (some 2)), none⟩, 1),
   (⟨(some 14), [.t 12, .t 13], .w (.callF f_plane_Sub), none⟩, 0),
   (⟨(some 7), [], .n (.alloc [(.int .i64 0), (.int .i64 0)]), none⟩, 0),
   (⟨(some 8), [], .n (.alloc [(.int .i64 0), (.int .i64 0)]), none⟩, 1),
   (⟨none, [.t 7, .t 11], .w (.store 2), none⟩, 0),
   (⟨none, [.t 8, .t 14], .w (.store 2), none⟩, 0)])
 (.seq (.ops [⟨(some 15), [.t 7], .p (.fAddr 0), none⟩,
   ⟨(some 16), [.t 15], .r (.load none), none⟩,
   ⟨(some 17), [.t 8], .p (.fAddr 1), none⟩,
   ⟨(some 18), [.t 17], .r (.load none), none⟩,
   ⟨(some 19), [.t 16, .t 18], .p (.bin .mul), none⟩,
   ⟨(some 20), [.t 7], .p (.fAddr 1), none⟩,
   ⟨(some 21), [.t 20], .r (.load none), none⟩,
   ⟨(some 22), [.t 8], .p (.fAddr 0), none⟩,
   ⟨(some 23), [.t 22], .r (.load none), none⟩,
   ⟨(some 24), [.t 21, .t 23], .p (.bin .mul), none⟩,
   ⟨(some 25), [.t 19, .t 24], .p (.bin .sub), none⟩,
   ⟨(some 6), [.t 25], .p (.mov), none⟩])
 (.ret)))
def r_plane_Cross : List ARes := [.tmp 6]
def F_plane_Cross : AFunc := .code c_plane_Cross r_plane_Cross
/- glyphicref1.Cross -/
def c_glyphicref1_Cross : AC :=
 .seq (.ops [⟨(some 3), [.t 0], .n (.box), none⟩,
   ⟨(some 4), [.t 1], .n (.box), none⟩,
   ⟨(some 5), [.t 2], .n (.box), none⟩,
   ⟨(some 6), [.c (.int .i64 0)], .p (.mov), none⟩])
 (.seq (.ops [⟨(some 7), [.t 4], .p (.fAddr 0), none⟩,
   ⟨(some 8), [.t 7], .r (.load none), none⟩,
   ⟨(some 9), [.t 3], .p (.fAddr 0), none⟩,
   ⟨(some 10), [.t 9], .r (.load none), none⟩,
   ⟨(some 11), [.t 8, .t 10], .p (.bin .sub), none⟩,
   ⟨(some 12), [.t 5], .p (.fAddr 1), none⟩,
   ⟨(some 13), [.t 12], .r (.load none), none⟩,
   ⟨(some 14), [.t 3], .p (.fAddr 1), none⟩,
   ⟨(some 15), [.t 14], .r (.load none), none⟩,
   ⟨(some 16), [.t 13, .t 15], .p (.bin .sub), none⟩,
   ⟨(some 17), [.t 11, .t 16], .p (.bin .mul), none⟩,
   ⟨(some 18), [.t 4], .p (.fAddr 1), none⟩,
   ⟨(some 19), [.t 18], .r (.load none), none⟩,
   ⟨(some 20), [.t 3], .p (.fAddr 1), none⟩,
   ⟨(some 21), [.t 20], .r (.load none), none⟩,
   ⟨(some 22), [.t 19, .t 21], .p (.bin .sub), none⟩,
   ⟨(some 23), [.t 5], .p (.fAddr 0), none⟩,
   ⟨(some 24), [.t 23], .r (.load none), none⟩,
   ⟨(some 25), [.t 3], .p (.fAddr 0), none⟩,
   ⟨(some 26), [.t 25], .r (.load none), none⟩,
   ⟨(some 27), [.t 24, .t 26], .p (.bin .sub), none⟩,
   ⟨(some 28), [.t 22, .t 27], .p (.bin .mul), none⟩,
   ⟨(some 29), [.t 17, .t 28], .p (.bin .sub), none⟩,
   ⟨(some 6), [.t 29], .p (.mov), none⟩])
 (.ret))
def r_glyphicref1_Cross : List ARes := [.tmp 6]
def F_glyphicref1_Cross : AFunc := .code c_glyphicref1_Cross r_glyphicref1_Cross
/- glyphicworld.Number -/
def c_glyphicworld_Number : AC :=
 .seq (.ops [⟨(some 4), [.c (.int .i64 0)], .p (.mov), none⟩])
 (.seq (.ops [⟨(some 6), [.t 0], .p (.mov), none⟩,
   ⟨(some 7), [.t 1], .p (.mov), none⟩,
   ⟨(some 8), [.t 6, .t 7], .p (.bin .rem), none⟩,
   ⟨(some 5), [.t 8], .p (.mov), none⟩])
 (.seq (.seq (.ops [⟨(some 9), [.t 5], .p (.mov), none⟩,
   ⟨(some 10), [.t 9, .c (.int .i64 0)], .p (.bin .lss), none⟩])
 (.cond (.t 10)
  (.ops [⟨(some 11), [.t 5], .p (.mov), none⟩,
    ⟨(some 12), [.t 1], .p (.mov), none⟩,
    ⟨(some 13), [.t 11, .t 12], .p (.bin .add), none⟩,
    ⟨(some 5), [.t 13], .p (.mov), none⟩])
  (.skip)))
 (.seq (.ops [⟨(some 14), [.t 5], .p (.mov), none⟩,
   ⟨(some 4), [.t 14], .p (.mov), none⟩])
 (.ret))))
def r_glyphicworld_Number : List ARes := [.tmp 4]
def F_glyphicworld_Number : AFunc := .code c_glyphicworld_Number r_glyphicworld_Number
/- plane.Sub -/
def c_plane_Sub : AC :=
 .seq (.ops [⟨(some 2), [.t 0], .n (.box), none⟩,
   ⟨(some 3), [.t 1], .n (.box), none⟩,
   ⟨(some 4), [], .n (.alloc [(.int .i64 0), (.int .i64 0)]), none⟩])
 (.seq (.ops [⟨(some 5), [.t 2], .p (.fAddr 0), none⟩,
   ⟨(some 6), [.t 5], .r (.load none), none⟩,
   ⟨(some 7), [.t 3], .p (.fAddr 0), none⟩,
   ⟨(some 8), [.t 7], .r (.load none), none⟩,
   ⟨(some 9), [.t 6, .t 8], .p (.bin .sub), none⟩,
   ⟨(some 10), [.t 2], .p (.fAddr 1), none⟩,
   ⟨(some 11), [.t 10], .r (.load none), none⟩,
   ⟨(some 12), [.t 3], .p (.fAddr 1), none⟩,
   ⟨(some 13), [.t 12], .r (.load none), none⟩,
   ⟨(some 14), [.t 11, .t 13], .p (.bin .sub), none⟩,
   ⟨(some 15), [.t 9, .t 14], .p (.build [(.int .i64 0), (.int .i64 0)] [(0, 1), (1, 1)]), none⟩,
   ⟨none, [.t 4, .t 15], .w (.store 2), none⟩])
 (.ret))
def r_plane_Sub : List ARes := [.cell 4 (some 2)]
def F_plane_Sub : AFunc := .code c_plane_Sub r_plane_Sub
def cfg : Cfg := ⟨[], []⟩
def envL : List (Nat × AFunc) := [(f_glyphiclaw22_WindSquares, F_glyphiclaw22_WindSquares), (f_glyphiclaw22_first, F_glyphiclaw22_first), (f_glyphicmake_Edges, F_glyphicmake_Edges), (f_glyphicmake_Ring, F_glyphicmake_Ring), (f_glyphicmake_Point, F_glyphicmake_Point), (f_wind_One, F_wind_One), (f_glyphicref20_One, F_glyphicref20_One), (f_wind_Number, F_wind_Number), (f_glyphicref20_Number, F_glyphicref20_Number), (f_wind_Inside, F_wind_Inside), (f_glyphicref20_Inside, F_glyphicref20_Inside), (f_glyphiclaw22_square, F_glyphiclaw22_square), (f_glyphicref_Edges, F_glyphicref_Edges), (f_glyphiclaw22_plus, F_glyphiclaw22_plus), (f_glyphicmake_Seq_Next, F_glyphicmake_Seq_Next), (f_plane_Cross, F_plane_Cross), (f_glyphicref1_Cross, F_glyphicref1_Cross), (f_glyphicworld_Number, F_glyphicworld_Number), (f_plane_Sub, F_plane_Sub)]
theorem E_glyphiclaw22_WindSquares : lookE envL f_glyphiclaw22_WindSquares = some F_glyphiclaw22_WindSquares := rfl
theorem E_glyphiclaw22_first : lookE envL f_glyphiclaw22_first = some F_glyphiclaw22_first := rfl
theorem E_glyphicmake_Edges : lookE envL f_glyphicmake_Edges = some F_glyphicmake_Edges := rfl
theorem E_glyphicmake_Ring : lookE envL f_glyphicmake_Ring = some F_glyphicmake_Ring := rfl
theorem E_glyphicmake_Point : lookE envL f_glyphicmake_Point = some F_glyphicmake_Point := rfl
theorem E_wind_One : lookE envL f_wind_One = some F_wind_One := rfl
theorem E_glyphicref20_One : lookE envL f_glyphicref20_One = some F_glyphicref20_One := rfl
theorem E_wind_Number : lookE envL f_wind_Number = some F_wind_Number := rfl
theorem E_glyphicref20_Number : lookE envL f_glyphicref20_Number = some F_glyphicref20_Number := rfl
theorem E_wind_Inside : lookE envL f_wind_Inside = some F_wind_Inside := rfl
theorem E_glyphicref20_Inside : lookE envL f_glyphicref20_Inside = some F_glyphicref20_Inside := rfl
theorem E_glyphiclaw22_square : lookE envL f_glyphiclaw22_square = some F_glyphiclaw22_square := rfl
theorem E_glyphicref_Edges : lookE envL f_glyphicref_Edges = some F_glyphicref_Edges := rfl
theorem E_glyphiclaw22_plus : lookE envL f_glyphiclaw22_plus = some F_glyphiclaw22_plus := rfl
theorem E_glyphicmake_Seq_Next : lookE envL f_glyphicmake_Seq_Next = some F_glyphicmake_Seq_Next := rfl
theorem E_plane_Cross : lookE envL f_plane_Cross = some F_plane_Cross := rfl
theorem E_glyphicref1_Cross : lookE envL f_glyphicref1_Cross = some F_glyphicref1_Cross := rfl
theorem E_glyphicworld_Number : lookE envL f_glyphicworld_Number = some F_glyphicworld_Number := rfl
theorem E_plane_Sub : lookE envL f_plane_Sub = some F_plane_Sub := rfl
end Go.IR
