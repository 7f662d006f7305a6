/- The functions that the seat's laws reach, as the fast run has them; under names that do not hang on the seat. By program (wip/pr2.py). -/
import Derived.Test.YthojeoldjhghpabFrT
namespace Go.IR
set_option linter.unusedVariables false
set_option linter.unusedSimpArgs false
open Go Go.FR
abbrev f_glyphiclaw22_WindRings : Nat := 3
abbrev f_glyphiclaw22_first : Nat := 4
abbrev f_glyphicmake_Ring : Nat := 5
abbrev f_glyphicref20_Near : Nat := 6
abbrev f_wind_Number : Nat := 7
abbrev f_glyphicref_Edges : Nat := 8
abbrev f_wind_Inside : Nat := 9
abbrev f_glyphicmake_Seq_Next : Nat := 10
abbrev f_glyphicmake_Point : Nat := 11
abbrev f_glyphicref1_Near : Nat := 12
abbrev f_wind_One : Nat := 13
abbrev f_glyphicworld_Number : Nat := 14
abbrev f_glyphicref1_Dot : Nat := 15
abbrev f_glyphicref1_Len2 : Nat := 16
abbrev f_glyphicref1_size : Nat := 17
abbrev f_glyphicref1_Cross : Nat := 18
abbrev f_math_bits_Mul64 : Nat := 19
abbrev f_plane_Cross : Nat := 20
abbrev f_plane_Sub : Nat := 21
/- glyphiclaw22.WindRings -/
def c_glyphiclaw22_WindRings_l0 : AC :=
 .seq (.seq (.ops [⟨(some 46), [.t 13], .p (.mov), none⟩,
     ⟨(some 47), [.t 46, .c (.int .i64 0)], .p (.bin .geq), none⟩])
   (.cond (.t 47)
    (.skip)
    (.exit 0)))
   (.seq (.block 1
    (.seq (.draw [(⟨(some 50), [.t 11], .p (.mov), none⟩, 0),
      (⟨(some 51), [.t 9], .p (.mov), none⟩, 0),
      (⟨(some 52), [.t 13], .p (.mov), none⟩, 0),
      (⟨(some 53), [.t 51, .t 52], .p (.iAddrS 4), none⟩, 0),
      (⟨(some 54), [.t 53], .p (.fAddr 2), none⟩, 0),
      (⟨(some 55), [.t 54], .r (.load (some 2)), none⟩, 0),
      (⟨(some 56), [.t 9], .p (.mov), none⟩, 0),
      (⟨(some 57), [.t 13], .p (.mov), none⟩, 0),
      (⟨(some 58), [.t 56, .t 57], .p (.iAddrS 4), none⟩, 0),
      (⟨(some 59), [.t 58], .p (.fAddr 0), none⟩, 0),
      (⟨(some 60), [.t 59], .r (.load (some 2)), none⟩, 0),
      (⟨(some 61), [.t 55, .t 60], .p (.build [(.int .i64 0), (.int .i64 0), (.int .i64 0), (.int .i64 0)] [(0, 2), (2, 2)]), none⟩, 0),
      (⟨(some 62), [.t 61], .n (.bslice 1 [(.int .i64 0), (.int .i64 0), (.int .i64 0), (.int .i64 0)] [(0, 4)]), none⟩, 0),
      (⟨(some 63), [.t 50, .t 62], .w (.append 4 32), none⟩, 0),
      (⟨(some 11), [.t 63], .p (.mov), none⟩, 0)])
    (.draw [(⟨(some 64), [.t 12], .p (.mov), none⟩, 0),
      (⟨(some 65), [.t 64], .p (.mov), none⟩, 0),
      (⟨(some 66), [.t 9], .p (.mov), some (65, false)⟩, 0),
      (⟨(some 67), [.t 13], .p (.mov), some (65, false)⟩, 0),
      (⟨(some 68), [.t 66, .t 67], .p (.iAddrS 4), some (65, false)⟩, 0),
      (⟨(some 69), [.t 68], .r (.load (some 4)), some (65, false)⟩, 0),
      (⟨(some 70), [.t 69], .n (.bslice 1 [(.int .i64 0), (.int .i64 0), (.int .i64 0), (.int .i64 0)] [(0, 4)]), some (65, false)⟩, 0),
      (⟨(some 71), [.t 10], .r (.load (some 2)), some (65, false)⟩, 0),
      (⟨(some 72), [.t 70, .c (.int .i64 0), .t 71], .w (.callF f_glyphicref20_Near), some (65, false)⟩, 0),
      (⟨(some 73), [.t 65, .c (.bool true), .t 72], .p (.pick), none⟩, 0),
      (⟨(some 12), [.t 73], .p (.mov), none⟩, 0)])))
   (.ops [⟨(some 48), [.t 13], .p (.mov), none⟩,
     ⟨(some 49), [.t 48, .c (.int .i64 1)], .p (.bin .sub), none⟩,
     ⟨(some 13), [.t 49], .p (.mov), none⟩]))
def c_glyphiclaw22_WindRings : AC :=
 .seq (.ops [⟨(some 6), [.c (.bool false)], .p (.mov), none⟩])
 (.seq (.ops [⟨(some 20), [], .w (.callF f_glyphiclaw22_first), none⟩,
   ⟨(some 7), [.t 20], .p (.mov), none⟩])
 (.seq (.seq (.ops [⟨(some 21), [.t 7], .p (.mov), none⟩,
   ⟨(some 22), [.t 21], .p (.un .not), none⟩])
 (.cond (.t 22)
  (.seq (.ops [⟨(some 6), [.c (.bool false)], .p (.mov), none⟩])
  (.ret))
  (.skip)))
 (.seq (.seq (.ops [⟨(some 23), [.t 0], .p (.mov), none⟩,
   ⟨(some 24), [.t 23], .p (.lenSl), none⟩,
   ⟨(some 25), [.t 24, .c (.int .i64 80)], .p (.bin .gtr), none⟩])
 (.cond (.t 25)
  (.seq (.ops [⟨(some 26), [.t 7], .p (.mov), none⟩,
    ⟨(some 6), [.t 26], .p (.mov), none⟩])
  (.ret))
  (.skip)))
 (.seq (.ops [⟨(some 27), [.t 0], .p (.mov), none⟩,
   ⟨(some 28), [.t 27], .p (.build [(.slice none 0 (.exact 0)), (.int .i64 0)] [(0, 1)]), none⟩,
   ⟨(some 29), [.t 28], .n (.box), none⟩,
   ⟨(some 8), [.t 29], .p (.mov), none⟩])
 (.seq (.ops [⟨(some 30), [.t 8], .p (.mov), none⟩,
   ⟨(some 31), [.t 30, .c (.int .i64 8), .c (.int .i64 30)], .w (.callF f_glyphicmake_Ring), none⟩,
   ⟨(some 9), [.t 31], .p (.mov), none⟩])
 (.seq (.ops [⟨(some 32), [.t 1], .p (.mov), none⟩,
   ⟨(some 33), [.t 32, .c (.int .i64 70)], .p (.bin .rem), none⟩,
   ⟨(some 34), [.t 33, .c (.int .i64 70)], .p (.bin .add), none⟩,
   ⟨(some 35), [.t 34, .c (.int .i64 70)], .p (.bin .rem), none⟩,
   ⟨(some 36), [.t 35, .c (.int .i64 35)], .p (.bin .sub), none⟩,
   ⟨(some 37), [.t 2], .p (.mov), none⟩,
   ⟨(some 38), [.t 37, .c (.int .i64 70)], .p (.bin .rem), none⟩,
   ⟨(some 39), [.t 38, .c (.int .i64 70)], .p (.bin .add), none⟩,
   ⟨(some 40), [.t 39, .c (.int .i64 70)], .p (.bin .rem), none⟩,
   ⟨(some 41), [.t 40, .c (.int .i64 35)], .p (.bin .sub), none⟩,
   ⟨(some 42), [.t 36, .t 41], .p (.build [(.int .i64 0), (.int .i64 0)] [(0, 1), (1, 1)]), none⟩,
   ⟨(some 10), [], .n (.alloc [(.int .i64 0), (.int .i64 0)]), none⟩,
   ⟨none, [.t 10, .t 42], .w (.store 2), none⟩])
 (.seq (.ops [⟨(some 11), [.c (.slice none 0 (.exact 0))], .p (.mov), none⟩])
 (.seq (.ops [⟨(some 12), [.c (.bool false)], .p (.mov), none⟩])
 (.seq (.seq (.ops [⟨(some 43), [.t 9], .p (.mov), none⟩,
   ⟨(some 44), [.t 43], .p (.lenSl), none⟩,
   ⟨(some 45), [.t 44, .c (.int .i64 1)], .p (.bin .sub), none⟩,
   ⟨(some 13), [.t 45], .p (.mov), none⟩])
 (.block 0
  (.loop c_glyphiclaw22_WindRings_l0)))
 (.seq (.ops [⟨(some 74), [.t 9], .p (.mov), none⟩,
   ⟨(some 75), [.t 10], .r (.load (some 2)), none⟩,
   ⟨(some 76), [.t 74, .t 75], .w (.callF f_wind_Number), none⟩,
   ⟨(some 14), [.t 76], .p (.mov), none⟩])
 (.seq (.ops [⟨(some 77), [.t 11], .p (.mov), none⟩,
   ⟨(some 78), [.t 10], .r (.load (some 2)), none⟩,
   ⟨(some 79), [.t 77, .t 78], .w (.callF f_wind_Number), none⟩,
   ⟨(some 15), [.t 79], .p (.mov), none⟩])
 (.seq (.draw [(⟨(some 80), [.t 9], .p (.mov), none⟩, 0),
   (⟨(some 81), [.t 80], .w (.callF f_glyphicref_Edges), none⟩, 0),
   (⟨(some 82), [.t 9], .p (.mov), none⟩, 0),
   (⟨(some 83), [.t 81, .t 82], .w (.append 4 32), none⟩, 0),
   (⟨(some 84), [.t 10], .r (.load (some 2)), none⟩, 2),
   (⟨(some 85), [.t 83, .t 84], .w (.callF f_wind_Number), none⟩, 0),
   (⟨(some 16), [.t 85], .p (.mov), none⟩, 0)])
 (.seq (.ops [⟨(some 86), [.t 9], .p (.mov), none⟩,
   ⟨(some 87), [.t 10], .p (.fAddr 1), none⟩,
   ⟨(some 88), [.t 87], .r (.load none), none⟩,
   ⟨(some 89), [.c (.int .i64 31), .t 88], .p (.build [(.int .i64 0), (.int .i64 0)] [(0, 1), (1, 1)]), none⟩,
   ⟨(some 90), [.t 86, .t 89], .w (.callF f_wind_Number), none⟩,
   ⟨(some 17), [.t 90], .p (.mov), none⟩])
 (.seq (.ops [⟨(some 91), [.t 9], .p (.mov), none⟩,
   ⟨(some 92), [.t 10], .p (.fAddr 1), none⟩,
   ⟨(some 93), [.t 92], .r (.load none), none⟩,
   ⟨(some 94), [.c (.int .i64 (-31)), .t 93], .p (.build [(.int .i64 0), (.int .i64 0)] [(0, 1), (1, 1)]), none⟩,
   ⟨(some 95), [.t 91, .t 94], .w (.callF f_wind_Number), none⟩,
   ⟨(some 18), [.t 95], .p (.mov), none⟩])
 (.seq (.ops [⟨(some 96), [.t 9], .p (.mov), none⟩,
   ⟨(some 97), [.t 10], .p (.fAddr 0), none⟩,
   ⟨(some 98), [.t 97], .r (.load none), none⟩,
   ⟨(some 99), [.t 98, .c (.int .i64 31)], .p (.build [(.int .i64 0), (.int .i64 0)] [(0, 1), (1, 1)]), none⟩,
   ⟨(some 100), [.t 96, .t 99], .w (.callF f_wind_Number), none⟩,
   ⟨(some 19), [.t 100], .p (.mov), none⟩])
 (.seq (.ops [⟨(some 101), [.t 7], .p (.mov), none⟩,
   ⟨(some 102), [.t 101], .p (.mov), none⟩,
   ⟨(some 103), [.t 12], .p (.mov), some (102, true)⟩,
   ⟨(some 104), [.t 103], .p (.mov), some (102, true)⟩,
   ⟨(some 105), [.t 14], .p (.mov), some (104, false)⟩,
   ⟨(some 106), [.t 15], .p (.mov), some (104, false)⟩,
   ⟨(some 107), [.t 106], .p (.un .neg), some (104, false)⟩,
   ⟨(some 108), [.t 105, .t 107], .p (.bin .eql), some (104, false)⟩,
   ⟨(some 109), [.t 104, .c (.bool true), .t 108], .p (.pick), some (102, true)⟩,
   ⟨(some 110), [.t 102, .t 109, .c (.bool false)], .p (.pick), none⟩,
   ⟨(some 111), [.t 110], .p (.mov), none⟩,
   ⟨(some 112), [.t 16], .p (.mov), some (111, true)⟩,
   ⟨(some 113), [.t 14], .p (.mov), some (111, true)⟩,
   ⟨(some 114), [.c (.int .i64 2), .t 113], .p (.bin .mul), some (111, true)⟩,
   ⟨(some 115), [.t 112, .t 114], .p (.bin .eql), some (111, true)⟩,
   ⟨(some 116), [.t 111, .t 115, .c (.bool false)], .p (.pick), none⟩,
   ⟨(some 117), [.t 116], .p (.mov), none⟩,
   ⟨(some 118), [.t 17], .p (.mov), some (117, true)⟩,
   ⟨(some 119), [.t 118, .c (.int .i64 0)], .p (.bin .eql), some (117, true)⟩,
   ⟨(some 120), [.t 117, .t 119, .c (.bool false)], .p (.pick), none⟩,
   ⟨(some 121), [.t 120], .p (.mov), none⟩,
   ⟨(some 122), [.t 18], .p (.mov), some (121, true)⟩,
   ⟨(some 123), [.t 122, .c (.int .i64 0)], .p (.bin .eql), some (121, true)⟩,
   ⟨(some 124), [.t 121, .t 123, .c (.bool false)], .p (.pick), none⟩,
   ⟨(some 125), [.t 124], .p (.mov), none⟩,
   ⟨(some 126), [.t 19], .p (.mov), some (125, true)⟩,
   ⟨(some 127), [.t 126, .c (.int .i64 0)], .p (.bin .eql), some (125, true)⟩,
   ⟨(some 128), [.t 125, .t 127, .c (.bool false)], .p (.pick), none⟩,
   ⟨(some 129), [.t 128], .p (.mov), none⟩,
   ⟨(some 130), [.t 9], .p (.mov), some (129, true)⟩,
   ⟨(some 131), [.t 10], .r (.load (some 2)), some (129, true)⟩,
   ⟨(some 132), [.t 130, .c (.int .i64 0), .t 131], .w (.callF f_wind_Inside), some (129, true)⟩,
   ⟨(some 133), [.t 14], .p (.mov), some (129, true)⟩,
   ⟨(some 134), [.t 133, .c (.int .i64 1)], .p (.bin .and), some (129, true)⟩,
   ⟨(some 135), [.t 134, .c (.int .i64 1)], .p (.bin .eql), some (129, true)⟩,
   ⟨(some 136), [.t 132, .t 135], .r (.eq false .bool), some (129, true)⟩,
   ⟨(some 137), [.t 129, .t 136, .c (.bool false)], .p (.pick), none⟩,
   ⟨(some 138), [.t 137], .p (.mov), none⟩,
   ⟨(some 139), [.t 9], .p (.mov), some (138, true)⟩,
   ⟨(some 140), [.t 10], .r (.load (some 2)), some (138, true)⟩,
   ⟨(some 141), [.t 139, .c (.int .i64 1), .t 140], .w (.callF f_wind_Inside), some (138, true)⟩,
   ⟨(some 142), [.t 14], .p (.mov), some (138, true)⟩,
   ⟨(some 143), [.t 142, .c (.int .i64 0)], .p (.bin .neq), some (138, true)⟩,
   ⟨(some 144), [.t 141, .t 143], .r (.eq false .bool), some (138, true)⟩,
   ⟨(some 145), [.t 138, .t 144, .c (.bool false)], .p (.pick), none⟩,
   ⟨(some 6), [.t 145], .p (.mov), none⟩])
 (.ret)))))))))))))))))
def r_glyphiclaw22_WindRings : List ARes := [.tmp 6]
def F_glyphiclaw22_WindRings : AFunc := .code c_glyphiclaw22_WindRings r_glyphiclaw22_WindRings
/- glyphiclaw22.first -/
def c_glyphiclaw22_first : AC :=
 .seq (.ops [⟨(some 0), [.c (.bool false)], .p (.mov), none⟩])
 (.seq (.ops [⟨(some 2), [.c (.int .i64 9)], .p (.build [(.int .i64 0), (.int .i64 0)] [(0, 1)]), none⟩,
   ⟨(some 3), [.c (.int .i64 9), .c (.int .i64 5)], .p (.build [(.int .i64 0), (.int .i64 0)] [(0, 1), (1, 1)]), none⟩,
   ⟨(some 4), [.t 2, .t 3], .p (.build [(.int .i64 0), (.int .i64 0), (.int .i64 0), (.int .i64 0)] [(0, 2), (2, 2)]), none⟩,
   ⟨(some 5), [.t 4], .n (.bslice 1 [(.int .i64 0), (.int .i64 0), (.int .i64 0), (.int .i64 0)] [(0, 4)]), none⟩,
   ⟨(some 1), [.t 5], .p (.mov), none⟩])
 (.seq (.ops [⟨(some 6), [], .p (.build [(.int .i64 0), (.int .i64 0)] []), none⟩,
   ⟨(some 7), [.c (.slice none 0 (.exact 0)), .t 6], .w (.callF f_wind_Number), none⟩,
   ⟨(some 8), [.t 7, .c (.int .i64 0)], .p (.bin .eql), none⟩,
   ⟨(some 9), [.t 8], .p (.mov), none⟩,
   ⟨(some 10), [.t 1], .p (.mov), some (9, true)⟩,
   ⟨(some 11), [.c (.int .i64 1), .c (.int .i64 1)], .p (.build [(.int .i64 0), (.int .i64 0)] [(0, 1), (1, 1)]), some (9, true)⟩,
   ⟨(some 12), [.t 10, .t 11], .w (.callF f_wind_Number), some (9, true)⟩,
   ⟨(some 13), [.t 12, .c (.int .i64 1)], .p (.bin .eql), some (9, true)⟩,
   ⟨(some 14), [.t 9, .t 13, .c (.bool false)], .p (.pick), none⟩,
   ⟨(some 15), [.t 14], .p (.mov), none⟩,
   ⟨(some 16), [], .p (.build [(.int .i64 0), (.int .i64 0)] []), some (15, true)⟩,
   ⟨(some 17), [.c (.slice none 0 (.exact 0)), .c (.int .i64 1), .t 16], .w (.callF f_wind_Inside), some (15, true)⟩,
   ⟨(some 18), [.t 17], .p (.un .not), some (15, true)⟩,
   ⟨(some 19), [.t 15, .t 18, .c (.bool false)], .p (.pick), none⟩,
   ⟨(some 0), [.t 19], .p (.mov), none⟩])
 (.ret)))
def r_glyphiclaw22_first : List ARes := [.tmp 0]
def F_glyphiclaw22_first : AFunc := .code c_glyphiclaw22_first r_glyphiclaw22_first
/- glyphicmake.Ring -/
def c_glyphicmake_Ring_l0 : AC :=
 .seq (.seq (.ops [⟨(some 21), [.t 11], .p (.mov), none⟩,
     ⟨(some 22), [.t 7], .p (.mov), none⟩,
     ⟨(some 23), [.t 21, .t 22], .p (.bin .lss), none⟩])
   (.cond (.t 23)
    (.skip)
    (.exit 0)))
   (.seq (.block 1
    (.seq (.ops [⟨(some 26), [.t 0], .p (.mov), none⟩,
      ⟨(some 27), [.t 2], .p (.mov), none⟩,
      ⟨(some 28), [.t 26, .t 27], .w (.callF f_glyphicmake_Point), none⟩,
      ⟨(some 12), [], .n (.alloc [(.int .i64 0), (.int .i64 0)]), none⟩,
      ⟨none, [.t 12, .t 28], .w (.store 2), none⟩])
    (.seq (.ops [⟨(some 29), [.t 10], .p (.mov), none⟩,
      ⟨(some 30), [.t 9], .r (.load (some 2)), none⟩,
      ⟨(some 31), [.t 12], .r (.load (some 2)), none⟩,
      ⟨(some 32), [.t 30, .t 31], .p (.build [(.int .i64 0), (.int .i64 0), (.int .i64 0), (.int .i64 0)] [(0, 2), (2, 2)]), none⟩,
      ⟨(some 33), [.t 32], .n (.bslice 1 [(.int .i64 0), (.int .i64 0), (.int .i64 0), (.int .i64 0)] [(0, 4)]), none⟩,
      ⟨(some 34), [.t 29, .t 33], .w (.append 4 32), none⟩,
      ⟨(some 10), [.t 34], .p (.mov), none⟩])
    (.ops [⟨(some 35), [.t 12], .r (.load (some 2)), none⟩,
      ⟨none, [.t 9, .t 35], .w (.store 2), none⟩]))))
   (.ops [⟨(some 24), [.t 11], .p (.mov), none⟩,
     ⟨(some 25), [.t 24, .c (.int .i64 1)], .p (.bin .add), none⟩,
     ⟨(some 11), [.t 25], .p (.mov), none⟩]))
def c_glyphicmake_Ring : AC :=
 .seq (.ops [⟨(some 6), [.c (.slice none 0 (.exact 0))], .p (.mov), none⟩])
 (.seq (.ops [⟨(some 13), [.t 0], .p (.mov), none⟩,
   ⟨(some 14), [.t 1], .p (.mov), none⟩,
   ⟨(some 15), [.t 13, .t 14], .w (.callF f_glyphicmake_Seq_Next), none⟩,
   ⟨(some 16), [.c (.int .i64 3), .t 15], .p (.bin .add), none⟩,
   ⟨(some 7), [.t 16], .p (.mov), none⟩])
 (.seq (.ops [⟨(some 17), [.t 0], .p (.mov), none⟩,
   ⟨(some 18), [.t 2], .p (.mov), none⟩,
   ⟨(some 19), [.t 17, .t 18], .w (.callF f_glyphicmake_Point), none⟩,
   ⟨(some 8), [], .n (.alloc [(.int .i64 0), (.int .i64 0)]), none⟩,
   ⟨none, [.t 8, .t 19], .w (.store 2), none⟩])
 (.seq (.ops [⟨(some 20), [.t 8], .r (.load (some 2)), none⟩,
   ⟨(some 9), [], .n (.alloc [(.int .i64 0), (.int .i64 0)]), none⟩,
   ⟨none, [.t 9, .t 20], .w (.store 2), none⟩])
 (.seq (.ops [⟨(some 10), [.c (.slice none 0 (.exact 0))], .p (.mov), none⟩])
 (.seq (.seq (.ops [⟨(some 11), [.c (.int .i64 1)], .p (.mov), none⟩])
 (.block 0
  (.loop c_glyphicmake_Ring_l0)))
 (.seq (.ops [⟨(some 36), [.t 10], .p (.mov), none⟩,
   ⟨(some 37), [.t 9], .r (.load (some 2)), none⟩,
   ⟨(some 38), [.t 8], .r (.load (some 2)), none⟩,
   ⟨(some 39), [.t 37, .t 38], .p (.build [(.int .i64 0), (.int .i64 0), (.int .i64 0), (.int .i64 0)] [(0, 2), (2, 2)]), none⟩,
   ⟨(some 40), [.t 39], .n (.bslice 1 [(.int .i64 0), (.int .i64 0), (.int .i64 0), (.int .i64 0)] [(0, 4)]), none⟩,
   ⟨(some 41), [.t 36, .t 40], .w (.append 4 32), none⟩,
   ⟨(some 6), [.t 41], .p (.mov), none⟩])
 (.ret)))))))
def r_glyphicmake_Ring : List ARes := [.tmp 6]
def F_glyphicmake_Ring : AFunc := .code c_glyphicmake_Ring r_glyphicmake_Ring
/- glyphicref20.Near -/
def c_glyphicref20_Near_l0 : AC :=
 .seq (.seq (.ops [⟨(some 8), [.t 7], .p (.mov), none⟩,
     ⟨(some 9), [.t 0], .p (.mov), none⟩,
     ⟨(some 10), [.t 9], .p (.lenSl), none⟩,
     ⟨(some 11), [.t 8, .t 10], .p (.bin .lss), none⟩])
   (.cond (.t 11)
    (.skip)
    (.exit 0)))
   (.seq (.block 1
    (.seq (.draw [(⟨(some 14), [.t 0], .p (.mov), none⟩, 0),
      (⟨(some 15), [.t 7], .p (.mov), none⟩, 0),
      (⟨(some 16), [.t 14, .t 15], .p (.iAddrS 4), none⟩, 0),
      (⟨(some 17), [.t 16], .p (.fAddr 0), none⟩, 0),
      (⟨(some 18), [.t 17], .r (.load (some 2)), none⟩, 0),
      (⟨(some 19), [.t 0], .p (.mov), none⟩, 0),
      (⟨(some 20), [.t 7], .p (.mov), none⟩, 0),
      (⟨(some 21), [.t 19, .t 20], .p (.iAddrS 4), none⟩, 0),
      (⟨(some 22), [.t 21], .p (.fAddr 2), none⟩, 0),
      (⟨(some 23), [.t 22], .r (.load (some 2)), none⟩, 0),
      (⟨(some 24), [.t 5], .r (.load (some 2)), none⟩, 0),
      (⟨(some 25), [.t 1], .p (.mov), none⟩, 0),
      (⟨(some 26), [.t 18, .t 23, .t 24, .t 25], .w (.callF f_glyphicref1_Near), none⟩, 0)])
    (.cond (.t 26)
     (.seq (.ops [⟨(some 6), [.c (.bool true)], .p (.mov), none⟩])
     (.ret))
     (.skip))))
   (.ops [⟨(some 12), [.t 7], .p (.mov), none⟩,
     ⟨(some 13), [.t 12, .c (.int .i64 1)], .p (.bin .add), none⟩,
     ⟨(some 7), [.t 13], .p (.mov), none⟩]))
def c_glyphicref20_Near : AC :=
 .seq (.ops [⟨(some 5), [.t 2], .n (.box), none⟩,
   ⟨(some 6), [.c (.bool false)], .p (.mov), none⟩])
 (.seq (.seq (.ops [⟨(some 7), [.c (.int .i64 0)], .p (.mov), none⟩])
 (.block 0
  (.loop c_glyphicref20_Near_l0)))
 (.seq (.ops [⟨(some 6), [.c (.bool false)], .p (.mov), none⟩])
 (.ret)))
def r_glyphicref20_Near : List ARes := [.tmp 6]
def F_glyphicref20_Near : AFunc := .code c_glyphicref20_Near r_glyphicref20_Near
/- wind.Number -/
def c_wind_Number_l0 : AC :=
 .seq (.ops [⟨(some 11), [.t 10, .t 9], .p (.bin .lss), none⟩])
   (.seq (.cond (.t 11)
    (.skip)
    (.exit 0))
   (.seq (.block 1
    (.seq (.ops [⟨(some 12), [.t 8, .t 10], .p (.iAddrS 4), none⟩,
      ⟨(some 13), [.t 12], .r (.load (some 4)), none⟩,
      ⟨(some 7), [], .n (.alloc [(.int .i64 0), (.int .i64 0), (.int .i64 0), (.int .i64 0)]), none⟩,
      ⟨none, [.t 7, .t 13], .w (.store 4), none⟩])
    (.ops [⟨(some 14), [.t 5], .p (.mov), none⟩,
      ⟨(some 15), [.t 7], .r (.load (some 4)), none⟩,
      ⟨(some 16), [.t 3], .r (.load (some 2)), none⟩,
      ⟨(some 17), [.t 15, .t 16], .w (.callF f_wind_One), none⟩,
      ⟨(some 18), [.t 14, .t 17], .p (.bin .add), none⟩,
      ⟨(some 5), [.t 18], .p (.mov), none⟩])))
   (.ops [⟨(some 19), [.t 10, .c (.int .i64 1)], .p (.bin .add), none⟩,
     ⟨(some 10), [.t 19], .p (.mov), none⟩])))
def c_wind_Number : AC :=
 .seq (.ops [⟨(some 3), [.t 1], .n (.box), none⟩,
   ⟨(some 4), [.c (.int .i64 0)], .p (.mov), none⟩])
 (.seq (.ops [⟨(some 5), [.c (.int .i64 0)], .p (.mov), none⟩])
 (.seq (.seq (.ops [⟨(some 8), [.t 0], .p (.mov), none⟩,
   ⟨(some 9), [.t 8], .p (.lenSl), none⟩,
   ⟨(some 10), [.c (.int .i64 0)], .p (.mov), none⟩])
 (.block 0
  (.loop c_wind_Number_l0)))
 (.seq (.ops [⟨(some 20), [.t 5], .p (.mov), none⟩,
   ⟨(some 4), [.t 20], .p (.mov), none⟩])
 (.ret))))
def r_wind_Number : List ARes := [.tmp 4]
def F_wind_Number : AFunc := .code c_wind_Number r_wind_Number
/- glyphicref.Edges -/
def c_glyphicref_Edges_l0 : AC :=
 .seq (.seq (.ops [⟨(some 8), [.t 4], .p (.mov), none⟩,
     ⟨(some 9), [.t 0], .p (.mov), none⟩,
     ⟨(some 10), [.t 9], .p (.lenSl), none⟩,
     ⟨(some 11), [.t 8, .t 10], .p (.bin .lss), none⟩])
   (.cond (.t 11)
    (.skip)
    (.exit 0)))
   (.seq (.block 1
    (.ops [⟨(some 14), [.t 3], .p (.mov), none⟩,
      ⟨(some 15), [.t 0], .p (.mov), none⟩,
      ⟨(some 16), [.t 4], .p (.mov), none⟩,
      ⟨(some 17), [.t 15, .t 16], .p (.iAddrS 4), none⟩,
      ⟨(some 18), [.t 17], .r (.load (some 4)), none⟩,
      ⟨(some 19), [.t 18], .n (.bslice 1 [(.int .i64 0), (.int .i64 0), (.int .i64 0), (.int .i64 0)] [(0, 4)]), none⟩,
      ⟨(some 20), [.t 14, .t 19], .w (.append 4 32), none⟩,
      ⟨(some 3), [.t 20], .p (.mov), none⟩]))
   (.ops [⟨(some 12), [.t 4], .p (.mov), none⟩,
     ⟨(some 13), [.t 12, .c (.int .i64 1)], .p (.bin .add), none⟩,
     ⟨(some 4), [.t 13], .p (.mov), none⟩]))
def c_glyphicref_Edges : AC :=
 .seq (.ops [⟨(some 2), [.c (.slice none 0 (.exact 0))], .p (.mov), none⟩])
 (.seq (.ops [⟨(some 5), [.t 0], .p (.mov), none⟩,
   ⟨(some 6), [.t 5], .p (.lenSl), none⟩,
   ⟨(some 7), [.c (.int .i64 0), .t 6], .n (.mkSlice 4 32 [(.int .i64 0), (.int .i64 0), (.int .i64 0), (.int .i64 0)]), none⟩,
   ⟨(some 3), [.t 7], .p (.mov), none⟩])
 (.seq (.seq (.ops [⟨(some 4), [.c (.int .i64 0)], .p (.mov), none⟩])
 (.block 0
  (.loop c_glyphicref_Edges_l0)))
 (.seq (.ops [⟨(some 21), [.t 3], .p (.mov), none⟩,
   ⟨(some 2), [.t 21], .p (.mov), none⟩])
 (.ret))))
def r_glyphicref_Edges : List ARes := [.tmp 2]
def F_glyphicref_Edges : AFunc := .code c_glyphicref_Edges r_glyphicref_Edges
/- wind.Inside -/
def c_wind_Inside : AC :=
 .seq (.ops [⟨(some 5), [.t 2], .n (.box), none⟩,
   ⟨(some 6), [.c (.bool false)], .p (.mov), none⟩])
 (.seq (.ops [⟨(some 8), [.t 0], .p (.mov), none⟩,
   ⟨(some 9), [.t 5], .r (.load (some 2)), none⟩,
   ⟨(some 10), [.t 8, .t 9], .w (.callF f_wind_Number), none⟩,
   ⟨(some 7), [.t 10], .p (.mov), none⟩])
 (.seq (.seq (.ops [⟨(some 11), [.t 1], .p (.mov), none⟩,
   ⟨(some 12), [.t 11, .c (.int .i64 0)], .p (.bin .eql), none⟩])
 (.cond (.t 12)
  (.seq (.ops [⟨(some 13), [.t 7], .p (.mov), none⟩,
    ⟨(some 14), [.t 13, .c (.int .i64 2)], .p (.bin .rem), none⟩,
    ⟨(some 15), [.t 14, .c (.int .i64 0)], .p (.bin .neq), none⟩,
    ⟨(some 6), [.t 15], .p (.mov), none⟩])
  (.ret))
  (.skip)))
 (.seq (.ops [⟨(some 16), [.t 7], .p (.mov), none⟩,
   ⟨(some 17), [.t 16, .c (.int .i64 0)], .p (.bin .neq), none⟩,
   ⟨(some 6), [.t 17], .p (.mov), none⟩])
 (.ret))))
def r_wind_Inside : List ARes := [.tmp 6]
def F_wind_Inside : AFunc := .code c_wind_Inside r_wind_Inside
/- (*glyphicmake.Seq).Next -/
def c_glyphicmake_Seq_Next : AC :=
 .seq (.ops [⟨(some 4), [.c (.int .i64 0)], .p (.mov), none⟩])
 (.seq (.ops [⟨(some 5), [.c (.int .i64 0)], .p (.mov), none⟩])
 (.seq (.seq (.draw [(⟨(some 6), [.t 0], .p (.mov), none⟩, 0),
   (⟨(some 7), [.t 6], .p (.nilChk), none⟩, 0),
   (⟨(some 8), [.t 7], .p (.fAddr 1), none⟩, 0),
   (⟨(some 9), [.t 8], .r (.load none), none⟩, 0),
   (⟨(some 10), [.t 0], .p (.mov), none⟩, 0),
   (⟨(some 11), [.t 10], .p (.nilChk), none⟩, 0),
   (⟨(some 12), [.t 11], .p (.fAddr 0), none⟩, 0),
   (⟨(some 13), [.t 12], .r (.load none), none⟩, 0),
   (⟨(some 14), [.t 13], .p (.lenSl), none⟩, 0),
   (⟨(some 15), [.t 9, .t 14], .p (.bin .lss), none⟩, 0)])
 (.cond (.t 15)
  (.draw [(⟨(some 16), [.t 0], .p (.mov), none⟩, 0),
    (⟨(some 17), [.t 16], .p (.nilChk), none⟩, 0),
    (⟨(some 18), [.t 17], .p (.fAddr 0), none⟩, 0),
    (⟨(some 19), [.t 18], .r (.load none), none⟩, 0),
    (⟨(some 20), [.t 0], .p (.mov), none⟩, 0),
    (⟨(some 21), [.t 20], .p (.nilChk), none⟩, 0),
    (⟨(some 22), [.t 21], .p (.fAddr 1), none⟩, 0),
    (⟨(some 23), [.t 22], .r (.load none), none⟩, 0),
    (⟨(some 24), [.t 19, .t 23], .p (.iAddrS 1), none⟩, 0),
    (⟨(some 25), [.t 24], .r (.load none), none⟩, 0),
    (⟨(some 5), [.t 25], .p (.mov), none⟩, 0)])
  (.skip)))
 (.seq (.ops [⟨(some 26), [.t 0], .p (.mov), none⟩,
   ⟨(some 27), [.t 0], .p (.mov), none⟩,
   ⟨(some 28), [.t 27], .p (.nilChk), none⟩,
   ⟨(some 29), [.t 28], .p (.fAddr 1), none⟩,
   ⟨(some 30), [.t 29], .r (.load none), none⟩,
   ⟨(some 31), [.t 30, .c (.int .i64 1)], .p (.bin .add), none⟩,
   ⟨(some 32), [.t 26], .p (.nilChk), none⟩,
   ⟨(some 33), [.t 32], .p (.fAddr 1), none⟩,
   ⟨none, [.t 33, .t 31], .w (.store 1), none⟩])
 (.seq (.ops [⟨(some 34), [.t 5], .p (.mov), none⟩,
   ⟨(some 35), [.t 1], .p (.mov), none⟩,
   ⟨(some 36), [.t 34, .t 35], .w (.callF f_glyphicworld_Number), none⟩,
   ⟨(some 4), [.t 36], .p (.mov), none⟩])
 (.ret)))))
def r_glyphicmake_Seq_Next : List ARes := [.tmp 4]
def F_glyphicmake_Seq_Next : AFunc := .code c_glyphicmake_Seq_Next r_glyphicmake_Seq_Next
/- glyphicmake.Point -/
def c_glyphicmake_Point : AC :=
 .seq (.ops [⟨(some 4), [], .n (.alloc [(.int .i64 0), (.int .i64 0)]), none⟩])
 (.seq (.ops [⟨(some 6), [.t 0], .p (.mov), none⟩,
   ⟨(some 7), [.t 1], .p (.mov), none⟩,
   ⟨(some 8), [.c (.int .i64 2), .t 7], .p (.bin .mul), none⟩,
   ⟨(some 9), [.t 8, .c (.int .i64 1)], .p (.bin .add), none⟩,
   ⟨(some 10), [.t 6, .t 9], .w (.callF f_glyphicmake_Seq_Next), none⟩,
   ⟨(some 11), [.t 1], .p (.mov), none⟩,
   ⟨(some 12), [.t 10, .t 11], .p (.bin .sub), none⟩,
   ⟨(some 5), [.t 12], .p (.mov), none⟩])
 (.seq (.ops [⟨(some 13), [.t 5], .p (.mov), none⟩,
   ⟨(some 14), [.t 0], .p (.mov), none⟩,
   ⟨(some 15), [.t 1], .p (.mov), none⟩,
   ⟨(some 16), [.c (.int .i64 2), .t 15], .p (.bin .mul), none⟩,
   ⟨(some 17), [.t 16, .c (.int .i64 1)], .p (.bin .add), none⟩,
   ⟨(some 18), [.t 14, .t 17], .w (.callF f_glyphicmake_Seq_Next), none⟩,
   ⟨(some 19), [.t 1], .p (.mov), none⟩,
   ⟨(some 20), [.t 18, .t 19], .p (.bin .sub), none⟩,
   ⟨(some 21), [.t 13, .t 20], .p (.build [(.int .i64 0), (.int .i64 0)] [(0, 1), (1, 1)]), none⟩,
   ⟨none, [.t 4, .t 21], .w (.store 2), none⟩])
 (.ret)))
def r_glyphicmake_Point : List ARes := [.cell 4 (some 2)]
def F_glyphicmake_Point : AFunc := .code c_glyphicmake_Point r_glyphicmake_Point
/- glyphicref1.Near -/
def c_glyphicref1_Near : AC :=
 .seq (.ops [⟨(some 4), [.t 0], .n (.box), none⟩,
   ⟨(some 5), [.t 1], .n (.box), none⟩,
   ⟨(some 6), [.t 2], .n (.box), none⟩,
   ⟨(some 8), [.c (.bool false)], .p (.mov), none⟩])
 (.seq (.ops [⟨(some 16), [.t 4], .r (.load (some 2)), none⟩,
   ⟨(some 17), [.t 5], .r (.load (some 2)), none⟩,
   ⟨(some 18), [.t 6], .r (.load (some 2)), none⟩,
   ⟨(some 19), [.t 16, .t 17, .t 18], .w (.callF f_glyphicref1_Dot), none⟩,
   ⟨(some 9), [.t 19], .p (.mov), none⟩])
 (.seq (.ops [⟨(some 20), [.t 4], .r (.load (some 2)), none⟩,
   ⟨(some 21), [.t 5], .r (.load (some 2)), none⟩,
   ⟨(some 22), [.t 20, .t 21], .w (.callF f_glyphicref1_Len2), none⟩,
   ⟨(some 10), [.t 22], .p (.mov), none⟩])
 (.seq (.block 0
  (.seq (.ops [⟨(some 24), [.t 9], .p (.mov), none⟩,
    ⟨(some 25), [.t 24, .c (.int .i64 0)], .p (.bin .leq), none⟩,
    ⟨(some 23), [.t 25], .p (.mov), none⟩])
  (.cond (.t 23)
   (.seq (.ops [⟨(some 26), [.t 4], .r (.load (some 2)), none⟩,
     ⟨(some 27), [.t 6], .r (.load (some 2)), none⟩,
     ⟨(some 28), [.t 26, .t 27], .w (.callF f_glyphicref1_Len2), none⟩,
     ⟨(some 29), [.t 3], .p (.mov), none⟩,
     ⟨(some 30), [.t 3], .p (.mov), none⟩,
     ⟨(some 31), [.t 29, .t 30], .p (.bin .mul), none⟩,
     ⟨(some 32), [.t 31, .c (.int .i64 4)], .p (.bin .quo), none⟩,
     ⟨(some 33), [.t 28, .t 32], .p (.bin .leq), none⟩,
     ⟨(some 8), [.t 33], .p (.mov), none⟩])
   (.ret))
   (.seq (.ops [⟨(some 35), [.t 9], .p (.mov), none⟩,
     ⟨(some 36), [.t 10], .p (.mov), none⟩,
     ⟨(some 37), [.t 35, .t 36], .p (.bin .geq), none⟩,
     ⟨(some 34), [.t 37], .p (.mov), none⟩])
   (.cond (.t 34)
    (.seq (.ops [⟨(some 38), [.t 5], .r (.load (some 2)), none⟩,
      ⟨(some 39), [.t 6], .r (.load (some 2)), none⟩,
      ⟨(some 40), [.t 38, .t 39], .w (.callF f_glyphicref1_Len2), none⟩,
      ⟨(some 41), [.t 3], .p (.mov), none⟩,
      ⟨(some 42), [.t 3], .p (.mov), none⟩,
      ⟨(some 43), [.t 41, .t 42], .p (.bin .mul), none⟩,
      ⟨(some 44), [.t 43, .c (.int .i64 4)], .p (.bin .quo), none⟩,
      ⟨(some 45), [.t 40, .t 44], .p (.bin .leq), none⟩,
      ⟨(some 8), [.t 45], .p (.mov), none⟩])
    (.ret))
    (.skip))))))
 (.seq (.ops [⟨(some 46), [.t 4], .r (.load (some 2)), none⟩,
   ⟨(some 47), [.t 5], .r (.load (some 2)), none⟩,
   ⟨(some 48), [.t 6], .r (.load (some 2)), none⟩,
   ⟨(some 49), [.t 46, .t 47, .t 48], .w (.callF f_glyphicref1_Cross), none⟩,
   ⟨(some 50), [.t 49], .w (.callF f_glyphicref1_size), none⟩,
   ⟨(some 11), [.t 50], .p (.mov), none⟩])
 (.seq (.ops [⟨(some 52), [.t 11], .p (.mov), none⟩,
   ⟨(some 53), [.c (.int .u64 2), .t 52], .p (.bin .mul), none⟩,
   ⟨(some 54), [.t 11], .p (.mov), none⟩,
   ⟨(some 55), [.c (.int .u64 2), .t 54], .p (.bin .mul), none⟩,
   ⟨(some 56), [.t 53, .t 55], .w (.callF f_math_bits_Mul64), none⟩,
   ⟨(some 51), [.t 56], .p (.mov), none⟩,
   ⟨(some 57), [.t 51], .p (.ext 0), none⟩,
   ⟨(some 58), [.t 51], .p (.ext 1), none⟩,
   ⟨(some 12), [.t 57], .p (.mov), none⟩,
   ⟨(some 13), [.t 58], .p (.mov), none⟩])
 (.seq (.ops [⟨(some 60), [.t 3], .p (.mov), none⟩,
   ⟨(some 61), [.t 3], .p (.mov), none⟩,
   ⟨(some 62), [.t 60, .t 61], .p (.bin .mul), none⟩,
   ⟨(some 63), [.t 62], .p (.conv .u64), none⟩,
   ⟨(some 64), [.t 10], .p (.mov), none⟩,
   ⟨(some 65), [.t 64], .p (.conv .u64), none⟩,
   ⟨(some 66), [.t 63, .t 65], .w (.callF f_math_bits_Mul64), none⟩,
   ⟨(some 59), [.t 66], .p (.mov), none⟩,
   ⟨(some 67), [.t 59], .p (.ext 0), none⟩,
   ⟨(some 68), [.t 59], .p (.ext 1), none⟩,
   ⟨(some 14), [.t 67], .p (.mov), none⟩,
   ⟨(some 15), [.t 68], .p (.mov), none⟩])
 (.seq (.ops [⟨(some 69), [.t 12], .p (.mov), none⟩,
   ⟨(some 70), [.t 14], .p (.mov), none⟩,
   ⟨(some 71), [.t 69, .t 70], .p (.bin .lss), none⟩,
   ⟨(some 72), [.t 71], .p (.mov), none⟩,
   ⟨(some 73), [.t 12], .p (.mov), some (72, false)⟩,
   ⟨(some 74), [.t 14], .p (.mov), some (72, false)⟩,
   ⟨(some 75), [.t 73, .t 74], .p (.bin .eql), some (72, false)⟩,
   ⟨(some 76), [.t 75], .p (.mov), some (72, false)⟩,
   ⟨(some 77), [.t 13], .p (.mov), some (76, true)⟩,
   ⟨(some 78), [.t 15], .p (.mov), some (76, true)⟩,
   ⟨(some 79), [.t 77, .t 78], .p (.bin .leq), some (76, true)⟩,
   ⟨(some 80), [.t 76, .t 79, .c (.bool false)], .p (.pick), some (72, false)⟩,
   ⟨(some 81), [.t 72, .c (.bool true), .t 80], .p (.pick), none⟩,
   ⟨(some 8), [.t 81], .p (.mov), none⟩])
 (.ret))))))))
def r_glyphicref1_Near : List ARes := [.tmp 8]
def F_glyphicref1_Near : AFunc := .code c_glyphicref1_Near r_glyphicref1_Near
/- wind.One -/
def c_wind_One : AC :=
 .seq (.ops [⟨(some 2), [.t 0], .n (.box), none⟩,
   ⟨(some 3), [.t 1], .n (.box), none⟩,
   ⟨(some 4), [.c (.int .i64 0)], .p (.mov), none⟩])
 (.seq (.block 0
  (.seq (.ops [⟨(some 6), [.t 2], .p (.fAddr 0), none⟩,
    ⟨(some 7), [.t 6], .p (.fAddr 1), none⟩,
    ⟨(some 8), [.t 7], .r (.load none), none⟩,
    ⟨(some 9), [.t 3], .p (.fAddr 1), none⟩,
    ⟨(some 10), [.t 9], .r (.load none), none⟩,
    ⟨(some 11), [.t 8, .t 10], .p (.bin .leq), none⟩,
    ⟨(some 12), [.t 11], .p (.mov), none⟩,
    ⟨(some 13), [.t 2], .p (.fAddr 2), some (12, true)⟩,
    ⟨(some 14), [.t 13], .p (.fAddr 1), some (12, true)⟩,
    ⟨(some 15), [.t 14], .r (.load none), some (12, true)⟩,
    ⟨(some 16), [.t 3], .p (.fAddr 1), some (12, true)⟩,
    ⟨(some 17), [.t 16], .r (.load none), some (12, true)⟩,
    ⟨(some 18), [.t 15, .t 17], .p (.bin .gtr), some (12, true)⟩,
    ⟨(some 19), [.t 12, .t 18, .c (.bool false)], .p (.pick), none⟩,
    ⟨(some 20), [.t 19], .p (.mov), none⟩,
    ⟨(some 21), [.t 2], .p (.fAddr 0), some (20, true)⟩,
    ⟨(some 22), [.t 21], .r (.load (some 2)), some (20, true)⟩,
    ⟨(some 23), [.t 2], .p (.fAddr 2), some (20, true)⟩,
    ⟨(some 24), [.t 23], .r (.load (some 2)), some (20, true)⟩,
    ⟨(some 25), [.t 3], .r (.load (some 2)), some (20, true)⟩,
    ⟨(some 26), [.t 22, .t 24, .t 25], .w (.callF f_plane_Cross), some (20, true)⟩,
    ⟨(some 27), [.t 26, .c (.int .i64 0)], .p (.bin .gtr), some (20, true)⟩,
    ⟨(some 28), [.t 20, .t 27, .c (.bool false)], .p (.pick), none⟩,
    ⟨(some 5), [.t 28], .p (.mov), none⟩])
  (.cond (.t 5)
   (.seq (.ops [⟨(some 4), [.c (.int .i64 1)], .p (.mov), none⟩])
   (.ret))
   (.seq (.ops [⟨(some 30), [.t 2], .p (.fAddr 2), none⟩,
     ⟨(some 31), [.t 30], .p (.fAddr 1), none⟩,
     ⟨(some 32), [.t 31], .r (.load none), none⟩,
     ⟨(some 33), [.t 3], .p (.fAddr 1), none⟩,
     ⟨(some 34), [.t 33], .r (.load none), none⟩,
     ⟨(some 35), [.t 32, .t 34], .p (.bin .leq), none⟩,
     ⟨(some 36), [.t 35], .p (.mov), none⟩,
     ⟨(some 37), [.t 2], .p (.fAddr 0), some (36, true)⟩,
     ⟨(some 38), [.t 37], .p (.fAddr 1), some (36, true)⟩,
     ⟨(some 39), [.t 38], .r (.load none), some (36, true)⟩,
     ⟨(some 40), [.t 3], .p (.fAddr 1), some (36, true)⟩,
     ⟨(some 41), [.t 40], .r (.load none), some (36, true)⟩,
     ⟨(some 42), [.t 39, .t 41], .p (.bin .gtr), some (36, true)⟩,
     ⟨(some 43), [.t 36, .t 42, .c (.bool false)], .p (.pick), none⟩,
     ⟨(some 44), [.t 43], .p (.mov), none⟩,
     ⟨(some 45), [.t 2], .p (.fAddr 0), some (44, true)⟩,
     ⟨(some 46), [.t 45], .r (.load (some 2)), some (44, true)⟩,
     ⟨(some 47), [.t 2], .p (.fAddr 2), some (44, true)⟩,
     ⟨(some 48), [.t 47], .r (.load (some 2)), some (44, true)⟩,
     ⟨(some 49), [.t 3], .r (.load (some 2)), some (44, true)⟩,
     ⟨(some 50), [.t 46, .t 48, .t 49], .w (.callF f_plane_Cross), some (44, true)⟩,
     ⟨(some 51), [.t 50, .c (.int .i64 0)], .p (.bin .lss), some (44, true)⟩,
     ⟨(some 52), [.t 44, .t 51, .c (.bool false)], .p (.pick), none⟩,
     ⟨(some 29), [.t 52], .p (.mov), none⟩])
   (.cond (.t 29)
    (.seq (.ops [⟨(some 4), [.c (.int .i64 (-1))], .p (.mov), none⟩])
    (.ret))
    (.skip))))))
 (.seq (.ops [⟨(some 4), [.c (.int .i64 0)], .p (.mov), none⟩])
 (.ret)))
def r_wind_One : List ARes := [.tmp 4]
def F_wind_One : AFunc := .code c_wind_One r_wind_One
/- glyphicworld.Number -/
def c_glyphicworld_Number : AC :=
 .seq (.ops [⟨(some 4), [.c (.int .i64 0)], .p (.mov), none⟩])
 (.seq (.ops [⟨(some 6), [.t 0], .p (.mov), none⟩,
   ⟨(some 7), [.t 1], .p (.mov), none⟩,
   ⟨(some 8), [.t 6, .t 7], .p (.bin .rem), none⟩,
   ⟨(some 5), [.t 8], .p (.mov), none⟩])
 (.seq (.seq (.ops [⟨(some 9), [.t 5], .p (.mov), none⟩,
   ⟨(some 10), [.t 9, .c (.int .i64 0)], .p (.bin .lss), none⟩])
 (.cond (.t 10)
  (.ops [⟨(some 11), [.t 5], .p (.mov), none⟩,
    ⟨(some 12), [.t 1], .p (.mov), none⟩,
    ⟨(some 13), [.t 11, .t 12], .p (.bin .add), none⟩,
    ⟨(some 5), [.t 13], .p (.mov), none⟩])
  (.skip)))
 (.seq (.ops [⟨(some 14), [.t 5], .p (.mov), none⟩,
   ⟨(some 4), [.t 14], .p (.mov), none⟩])
 (.ret))))
def r_glyphicworld_Number : List ARes := [.tmp 4]
def F_glyphicworld_Number : AFunc := .code c_glyphicworld_Number r_glyphicworld_Number
/- glyphicref1.Dot -/
def c_glyphicref1_Dot : AC :=
 .seq (.ops [⟨(some 3), [.t 0], .n (.box), none⟩,
   ⟨(some 4), [.t 1], .n (.box), none⟩,
   ⟨(some 5), [.t 2], .n (.box), none⟩,
   ⟨(some 6), [.c (.int .i64 0)], .p (.mov), none⟩])
 (.seq (.ops [⟨(some 7), [.t 4], .p (.fAddr 0), none⟩,
   ⟨(some 8), [.t 7], .r (.load none), none⟩,
   ⟨(some 9), [.t 3], .p (.fAddr 0), none⟩,
   ⟨(some 10), [.t 9], .r (.load none), none⟩,
   ⟨(some 11), [.t 8, .t 10], .p (.bin .sub), none⟩,
   ⟨(some 12), [.t 5], .p (.fAddr 0), none⟩,
   ⟨(some 13), [.t 12], .r (.load none), none⟩,
   ⟨(some 14), [.t 3], .p (.fAddr 0), none⟩,
   ⟨(some 15), [.t 14], .r (.load none), none⟩,
   ⟨(some 16), [.t 13, .t 15], .p (.bin .sub), none⟩,
   ⟨(some 17), [.t 11, .t 16], .p (.bin .mul), none⟩,
   ⟨(some 18), [.t 4], .p (.fAddr 1), none⟩,
   ⟨(some 19), [.t 18], .r (.load none), none⟩,
   ⟨(some 20), [.t 3], .p (.fAddr 1), none⟩,
   ⟨(some 21), [.t 20], .r (.load none), none⟩,
   ⟨(some 22), [.t 19, .t 21], .p (.bin .sub), none⟩,
   ⟨(some 23), [.t 5], .p (.fAddr 1), none⟩,
   ⟨(some 24), [.t 23], .r (.load none), none⟩,
   ⟨(some 25), [.t 3], .p (.fAddr 1), none⟩,
   ⟨(some 26), [.t 25], .r (.load none), none⟩,
   ⟨(some 27), [.t 24, .t 26], .p (.bin .sub), none⟩,
   ⟨(some 28), [.t 22, .t 27], .p (.bin .mul), none⟩,
   ⟨(some 29), [.t 17, .t 28], .p (.bin .add), none⟩,
   ⟨(some 6), [.t 29], .p (.mov), none⟩])
 (.ret))
def r_glyphicref1_Dot : List ARes := [.tmp 6]
def F_glyphicref1_Dot : AFunc := .code c_glyphicref1_Dot r_glyphicref1_Dot
/- glyphicref1.Len2 -/
def c_glyphicref1_Len2 : AC :=
 .seq (.ops [⟨(some 2), [.t 0], .n (.box), none⟩,
   ⟨(some 3), [.t 1], .n (.box), none⟩,
   ⟨(some 4), [.c (.int .i64 0)], .p (.mov), none⟩])
 (.seq (.ops [⟨(some 5), [.t 2], .r (.load (some 2)), none⟩,
   ⟨(some 6), [.t 3], .r (.load (some 2)), none⟩,
   ⟨(some 7), [.t 3], .r (.load (some 2)), none⟩,
   ⟨(some 8), [.t 5, .t 6, .t 7], .w (.callF f_glyphicref1_Dot), none⟩,
   ⟨(some 4), [.t 8], .p (.mov), none⟩])
 (.ret))
def r_glyphicref1_Len2 : List ARes := [.tmp 4]
def F_glyphicref1_Len2 : AFunc := .code c_glyphicref1_Len2 r_glyphicref1_Len2
/- glyphicref1.size -/
def c_glyphicref1_size : AC :=
 .seq (.ops [⟨(some 2), [.c (.int .u64 0)], .p (.mov), none⟩])
 (.seq (.seq (.ops [⟨(some 3), [.t 0], .p (.mov), none⟩,
   ⟨(some 4), [.t 3, .c (.int .i64 0)], .p (.bin .lss), none⟩])
 (.cond (.t 4)
  (.seq (.ops [⟨(some 5), [.t 0], .p (.mov), none⟩,
    ⟨(some 6), [.t 5, .c (.int .i64 1)], .p (.bin .add), none⟩,
    ⟨(some 7), [.t 6], .p (.un .neg), none⟩,
    ⟨(some 8), [.t 7], .p (.conv .u64), none⟩,
    ⟨(some 9), [.t 8, .c (.int .u64 1)], .p (.bin .add), none⟩,
    ⟨(some 2), [.t 9], .p (.mov), none⟩])
  (.ret))
  (.skip)))
 (.seq (.ops [⟨(some 10), [.t 0], .p (.mov), none⟩,
   ⟨(some 11), [.t 10], .p (.conv .u64), none⟩,
   ⟨(some 2), [.t 11], .p (.mov), none⟩])
 (.ret)))
def r_glyphicref1_size : List ARes := [.tmp 2]
def F_glyphicref1_size : AFunc := .code c_glyphicref1_size r_glyphicref1_size
/- glyphicref1.Cross -/
def c_glyphicref1_Cross : AC :=
 .seq (.ops [⟨(some 3), [.t 0], .n (.box), none⟩,
   ⟨(some 4), [.t 1], .n (.box), none⟩,
   ⟨(some 5), [.t 2], .n (.box), none⟩,
   ⟨(some 6), [.c (.int .i64 0)], .p (.mov), none⟩])
 (.seq (.ops [⟨(some 7), [.t 4], .p (.fAddr 0), none⟩,
   ⟨(some 8), [.t 7], .r (.load none), none⟩,
   ⟨(some 9), [.t 3], .p (.fAddr 0), none⟩,
   ⟨(some 10), [.t 9], .r (.load none), none⟩,
   ⟨(some 11), [.t 8, .t 10], .p (.bin .sub), none⟩,
   ⟨(some 12), [.t 5], .p (.fAddr 1), none⟩,
   ⟨(some 13), [.t 12], .r (.load none), none⟩,
   ⟨(some 14), [.t 3], .p (.fAddr 1), none⟩,
   ⟨(some 15), [.t 14], .r (.load none), none⟩,
   ⟨(some 16), [.t 13, .t 15], .p (.bin .sub), none⟩,
   ⟨(some 17), [.t 11, .t 16], .p (.bin .mul), none⟩,
   ⟨(some 18), [.t 4], .p (.fAddr 1), none⟩,
   ⟨(some 19), [.t 18], .r (.load none), none⟩,
   ⟨(some 20), [.t 3], .p (.fAddr 1), none⟩,
   ⟨(some 21), [.t 20], .r (.load none), none⟩,
   ⟨(some 22), [.t 19, .t 21], .p (.bin .sub), none⟩,
   ⟨(some 23), [.t 5], .p (.fAddr 0), none⟩,
   ⟨(some 24), [.t 23], .r (.load none), none⟩,
   ⟨(some 25), [.t 3], .p (.fAddr 0), none⟩,
   ⟨(some 26), [.t 25], .r (.load none), none⟩,
   ⟨(some 27), [.t 24, .t 26], .p (.bin .sub), none⟩,
   ⟨(some 28), [.t 22, .t 27], .p (.bin .mul), none⟩,
   ⟨(some 29), [.t 17, .t 28], .p (.bin .sub), none⟩,
   ⟨(some 6), [.t 29], .p (.mov), none⟩])
 (.ret))
def r_glyphicref1_Cross : List ARes := [.tmp 6]
def F_glyphicref1_Cross : AFunc := .code c_glyphicref1_Cross r_glyphicref1_Cross
/- math/bits.Mul64 -/
def c_math_bits_Mul64 : AC :=
 .seq (.ops [⟨(some 4), [.c (.int .u64 0)], .p (.mov), none⟩,
   ⟨(some 5), [.c (.int .u64 0)], .p (.mov), none⟩])
 (.seq (.ops [⟨(some 14), [.t 0], .p (.mov), none⟩,
   ⟨(some 15), [.t 14, .c (.int .u64 4294967295)], .p (.bin .and), none⟩,
   ⟨(some 6), [.t 15], .p (.mov), none⟩])
 (.seq (.ops [⟨(some 16), [.t 0], .p (.mov), none⟩,
   ⟨(some 17), [.t 16, .c (.int .u64 32)], .p (.bin .shr), none⟩,
   ⟨(some 7), [.t 17], .p (.mov), none⟩])
 (.seq (.ops [⟨(some 18), [.t 1], .p (.mov), none⟩,
   ⟨(some 19), [.t 18, .c (.int .u64 4294967295)], .p (.bin .and), none⟩,
   ⟨(some 8), [.t 19], .p (.mov), none⟩])
 (.seq (.ops [⟨(some 20), [.t 1], .p (.mov), none⟩,
   ⟨(some 21), [.t 20, .c (.int .u64 32)], .p (.bin .shr), none⟩,
   ⟨(some 9), [.t 21], .p (.mov), none⟩])
 (.seq (.ops [⟨(some 22), [.t 6], .p (.mov), none⟩,
   ⟨(some 23), [.t 8], .p (.mov), none⟩,
   ⟨(some 24), [.t 22, .t 23], .p (.bin .mul), none⟩,
   ⟨(some 10), [.t 24], .p (.mov), none⟩])
 (.seq (.ops [⟨(some 25), [.t 7], .p (.mov), none⟩,
   ⟨(some 26), [.t 8], .p (.mov), none⟩,
   ⟨(some 27), [.t 25, .t 26], .p (.bin .mul), none⟩,
   ⟨(some 28), [.t 10], .p (.mov), none⟩,
   ⟨(some 29), [.t 28, .c (.int .u64 32)], .p (.bin .shr), none⟩,
   ⟨(some 30), [.t 27, .t 29], .p (.bin .add), none⟩,
   ⟨(some 11), [.t 30], .p (.mov), none⟩])
 (.seq (.ops [⟨(some 31), [.t 11], .p (.mov), none⟩,
   ⟨(some 32), [.t 31, .c (.int .u64 4294967295)], .p (.bin .and), none⟩,
   ⟨(some 12), [.t 32], .p (.mov), none⟩])
 (.seq (.ops [⟨(some 33), [.t 11], .p (.mov), none⟩,
   ⟨(some 34), [.t 33, .c (.int .u64 32)], .p (.bin .shr), none⟩,
   ⟨(some 13), [.t 34], .p (.mov), none⟩])
 (.seq (.ops [⟨(some 35), [.t 12], .p (.mov), none⟩,
   ⟨(some 36), [.t 6], .p (.mov), none⟩,
   ⟨(some 37), [.t 9], .p (.mov), none⟩,
   ⟨(some 38), [.t 36, .t 37], .p (.bin .mul), none⟩,
   ⟨(some 39), [.t 35, .t 38], .p (.bin .add), none⟩,
   ⟨(some 12), [.t 39], .p (.mov), none⟩])
 (.seq (.ops [⟨(some 40), [.t 7], .p (.mov), none⟩,
   ⟨(some 41), [.t 9], .p (.mov), none⟩,
   ⟨(some 42), [.t 40, .t 41], .p (.bin .mul), none⟩,
   ⟨(some 43), [.t 13], .p (.mov), none⟩,
   ⟨(some 44), [.t 42, .t 43], .p (.bin .add), none⟩,
   ⟨(some 45), [.t 12], .p (.mov), none⟩,
   ⟨(some 46), [.t 45, .c (.int .u64 32)], .p (.bin .shr), none⟩,
   ⟨(some 47), [.t 44, .t 46], .p (.bin .add), none⟩,
   ⟨(some 4), [.t 47], .p (.mov), none⟩])
 (.seq (.ops [⟨(some 48), [.t 0], .p (.mov), none⟩,
   ⟨(some 49), [.t 1], .p (.mov), none⟩,
   ⟨(some 50), [.t 48, .t 49], .p (.bin .mul), none⟩,
   ⟨(some 5), [.t 50], .p (.mov), none⟩])
 (.ret))))))))))))
def r_math_bits_Mul64 : List ARes := [.tmp 4, .tmp 5]
def F_math_bits_Mul64 : AFunc := .code c_math_bits_Mul64 r_math_bits_Mul64
/- plane.Cross -/
def c_plane_Cross : AC :=
 .seq (.ops [⟨(some 3), [.t 0], .n (.box), none⟩,
   ⟨(some 4), [.t 1], .n (.box), none⟩,
   ⟨(some 5), [.t 2], .n (.box), none⟩,
   ⟨(some 6), [.c (.int .i64 0)], .p (.mov), none⟩])
 (.seq (.draw [(⟨(some 9), [.t 4], .r (.load (some 2)), none⟩, 0),
   (⟨(some 10), [.t 3], .r (.load (some 2)), none⟩, 0),
   (⟨(some 11), [.t 9, .t 10], .w (.callF f_plane_Sub), none⟩, 0),
   (⟨(some 12), [.t 5], .r (.load (some 2)), none⟩, 1),
   (⟨(some 13), [.t 3], .r (.load (some 2)), none⟩, 1),
   (⟨(some 14), [.t 12, .t 13], .w (.callF f_plane_Sub), none⟩, 0),
   (⟨(some 7), [], .n (.alloc [(.int .i64 0), (.int .i64 0)]), none⟩, 0),
   (⟨(some 8), [], .n (.alloc [(.int .i64 0), (.int .i64 0)]), none⟩, 1),
   (⟨none, [.t 7, .t 11], .w (.store 2), none⟩, 0),
   (⟨none, [.t 8, .t 14], .w (.store 2), none⟩, 0)])
 (.seq (.ops [⟨(some 15), [.t 7], .p (.fAddr 0), none⟩,
   ⟨(some 16), [.t 15], .r (.load none), none⟩,
   ⟨(some 17), [.t 8], .p (.fAddr 1), none⟩,
   ⟨(some 18), [.t 17], .r (.load none), none⟩,
   ⟨(some 19), [.t 16, .t 18], .p (.bin .mul), none⟩,
   ⟨(some 20), [.t 7], .p (.fAddr 1), none⟩,
   ⟨(some 21), [.t 20], .r (.load none), none⟩,
   ⟨(some 22), [.t 8], .p (.fAddr 0), none⟩,
   ⟨(some 23), [.t 22], .r (.load none), none⟩,
   ⟨(some 24), [.t 21, .t 23], .p (.bin .mul), none⟩,
   ⟨(some 25), [.t 19, .t 24], .p (.bin .sub), none⟩,
   ⟨(some 6), [.t 25], .p (.mov), none⟩])
 (.ret)))
def r_plane_Cross : List ARes := [.tmp 6]
def F_plane_Cross : AFunc := .code c_plane_Cross r_plane_Cross
/- plane.Sub -/
def c_plane_Sub : AC :=
 .seq (.ops [⟨(some 2), [.t 0], .n (.box), none⟩,
   ⟨(some 3), [.t 1], .n (.box), none⟩,
   ⟨(some 4), [], .n (.alloc [(.int .i64 0), (.int .i64 0)]), none⟩])
 (.seq (.ops [⟨(some 5), [.t 2], .p (.fAddr 0), none⟩,
   ⟨(some 6), [.t 5], .r (.load none), none⟩,
   ⟨(some 7), [.t 3], .p (.fAddr 0), none⟩,
   ⟨(some 8), [.t 7], .r (.load none), none⟩,
   ⟨(some 9), [.t 6, .t 8], .p (.bin .sub), none⟩,
   ⟨(some 10), [.t 2], .p (.fAddr 1), none⟩,
   ⟨(some 11), [.t 10], .r (.load none), none⟩,
   ⟨(some 12), [.t 3], .p (.fAddr 1), none⟩,
   ⟨(some 13), [.t 12], .r (.load none), none⟩,
   ⟨(some 14), [.t 11, .t 13], .p (.bin .sub), none⟩,
   ⟨(some 15), [.t 9, .t 14], .p (.build [(.int .i64 0), (.int .i64 0)] [(0, 1), (1, 1)]), none⟩,
   ⟨none, [.t 4, .t 15], .w (.store 2), none⟩])
 (.ret))
def r_plane_Sub : List ARes := [.cell 4 (some 2)]
def F_plane_Sub : AFunc := .code c_plane_Sub r_plane_Sub
def cfg : Cfg := ⟨[], []⟩
def envL : List (Nat × AFunc) := [(f_glyphiclaw22_WindRings, F_glyphiclaw22_WindRings), (f_glyphiclaw22_first, F_glyphiclaw22_first), (f_glyphicmake_Ring, F_glyphicmake_Ring), (f_glyphicref20_Near, F_glyphicref20_Near), (f_wind_Number, F_wind_Number), (f_glyphicref_Edges, F_glyphicref_Edges), (f_wind_Inside, F_wind_Inside), (f_glyphicmake_Seq_Next, F_glyphicmake_Seq_Next), (f_glyphicmake_Point, F_glyphicmake_Point), (f_glyphicref1_Near, F_glyphicref1_Near), (f_wind_One, F_wind_One), (f_glyphicworld_Number, F_glyphicworld_Number), (f_glyphicref1_Dot, F_glyphicref1_Dot), (f_glyphicref1_Len2, F_glyphicref1_Len2), (f_glyphicref1_size, F_glyphicref1_size), (f_glyphicref1_Cross, F_glyphicref1_Cross), (f_math_bits_Mul64, F_math_bits_Mul64), (f_plane_Cross, F_plane_Cross), (f_plane_Sub, F_plane_Sub)]
theorem E_glyphiclaw22_WindRings : lookE envL f_glyphiclaw22_WindRings = some F_glyphiclaw22_WindRings := rfl
theorem E_glyphiclaw22_first : lookE envL f_glyphiclaw22_first = some F_glyphiclaw22_first := rfl
theorem E_glyphicmake_Ring : lookE envL f_glyphicmake_Ring = some F_glyphicmake_Ring := rfl
theorem E_glyphicref20_Near : lookE envL f_glyphicref20_Near = some F_glyphicref20_Near := rfl
theorem E_wind_Number : lookE envL f_wind_Number = some F_wind_Number := rfl
theorem E_glyphicref_Edges : lookE envL f_glyphicref_Edges = some F_glyphicref_Edges := rfl
theorem E_wind_Inside : lookE envL f_wind_Inside = some F_wind_Inside := rfl
theorem E_glyphicmake_Seq_Next : lookE envL f_glyphicmake_Seq_Next = some F_glyphicmake_Seq_Next := rfl
theorem E_glyphicmake_Point : lookE envL f_glyphicmake_Point = some F_glyphicmake_Point := rfl
theorem E_glyphicref1_Near : lookE envL f_glyphicref1_Near = some F_glyphicref1_Near := rfl
theorem E_wind_One : lookE envL f_wind_One = some F_wind_One := rfl
theorem E_glyphicworld_Number : lookE envL f_glyphicworld_Number = some F_glyphicworld_Number := rfl
theorem E_glyphicref1_Dot : lookE envL f_glyphicref1_Dot = some F_glyphicref1_Dot := rfl
theorem E_glyphicref1_Len2 : lookE envL f_glyphicref1_Len2 = some F_glyphicref1_Len2 := rfl
theorem E_glyphicref1_size : lookE envL f_glyphicref1_size = some F_glyphicref1_size := rfl
theorem E_glyphicref1_Cross : lookE envL f_glyphicref1_Cross = some F_glyphicref1_Cross := rfl
theorem E_math_bits_Mul64 : lookE envL f_math_bits_Mul64 = some F_math_bits_Mul64 := rfl
theorem E_plane_Cross : lookE envL f_plane_Cross = some F_plane_Cross := rfl
theorem E_plane_Sub : lookE envL f_plane_Sub = some F_plane_Sub := rfl
end Go.IR
