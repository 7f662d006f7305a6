/- The functions that the seat's laws reach, as the fast run has them; under names that do not hang on the seat. By program (wip/pr2.py). -/
import Derived.Test.YthojeoldjhghpabDoorFrT
namespace Go.IR
set_option linter.unusedVariables false
set_option linter.unusedSimpArgs false
open Go Go.FR
abbrev f_glyphiclaw12_NamesTwice : Nat := 10
abbrev f_color_Show : Nat := 12
abbrev f_glyphicref_SameColor : Nat := 14
abbrev f_glyphicsee_Is : Nat := 17
abbrev f_color_Wide : Nat := 18
abbrev f_glyphicsee_Same : Nat := 24
abbrev f_glyphicref_Placed : Nat := 25
abbrev f_glyphiclaw12_first : Nat := 29
abbrev f_names_New : Nat := 30
abbrev f_names_Scope_Val : Nat := 31
abbrev f_names_Scope_Ref : Nat := 32
abbrev f_names_Scope_Shape : Nat := 33
abbrev f_glyphicref_None : Nat := 34
abbrev f_glyphicref12_New : Nat := 35
abbrev f_glyphicref_SameFault : Nat := 36
abbrev f_names_Check : Nat := 37
abbrev f_glyphicref_Bare : Nat := 41
abbrev f_glyphicsee_Fault : Nat := 43
abbrev f_names_first__int64 : Nat := 44
abbrev f_names_first__api_Color : Nat := 45
abbrev f_names_first__int : Nat := 46
abbrev f_names_Scope_items : Nat := 47
abbrev f_names_Scope_cmd : Nat := 48
abbrev f_glyphicsee_sentinel : Nat := 50
abbrev f_glyphicsee_sentinels : Nat := 53
abbrev f_glyphicsee_Alike : Nat := 54
abbrev t_p_api_At : Nat := 96
abbrev t_p_errors_errorString : Nat := 134
abbrev g_ErrText : Nat := 0
abbrev g_ErrName : Nat := 2
abbrev g_ErrTwice : Nat := 4
abbrev g_ErrPath : Nat := 6
abbrev g_ErrRange : Nat := 8
abbrev g_ErrLimit : Nat := 10
abbrev g_ErrShort : Nat := 12
abbrev g_ErrMagic : Nat := 14
abbrev g_ErrVarint : Nat := 16
abbrev g_ErrCanon : Nat := 18
abbrev g_ErrTrail : Nat := 20
abbrev g_ErrWidth : Nat := 22
abbrev g_ErrBudget : Nat := 24
/- glyphiclaw12.NamesTwice -/
def c_glyphiclaw12_NamesTwice_l0 : AC :=
 .seq (.seq (.ops [⟨(some 118), [.t 13], .p (.mov), none⟩,
        ⟨(some 119), [.t 12], .p (.mov), none⟩,
        ⟨(some 120), [.t 118, .t 119], .p (.bin .lss), none⟩])
      (.cond (.t 120)
       (.skip)
       (.exit 10)))
      (.seq (.block 11
       (.seq (.draw [(⟨(some 123), [.t 6], .p (.fAddr 3), none⟩, 0),
         (⟨(some 124), [.t 123], .r (.load none), none⟩, 0),
         (⟨(some 125), [.t 13], .p (.mov), none⟩, 0),
         (⟨(some 126), [.t 124, .t 125], .p (.iAddrS 3), none⟩, 0),
         (⟨(some 127), [.t 126], .p (.fAddr 0), none⟩, 0),
         (⟨(some 128), [.t 127], .r (.load none), none⟩, 0),
         (⟨(some 129), [.t 6], .p (.fAddr 3), none⟩, 0),
         (⟨(some 130), [.t 129], .r (.load none), none⟩, 0),
         (⟨(some 131), [.t 12], .p (.mov), none⟩, 0),
         (⟨(some 132), [.t 130, .t 131], .p (.iAddrS 3), none⟩, 0),
         (⟨(some 133), [.t 132], .p (.fAddr 0), none⟩, 0),
         (⟨(some 134), [.t 133], .r (.load none), none⟩, 0),
         (⟨(some 135), [.t 128, .t 134], .p (.bin .eql), none⟩, 0)])
       (.cond (.t 135)
        (.ops [⟨(some 136), [.t 12], .p (.mov), none⟩,
          ⟨(some 137), [.c (.int .i64 10), .t 136], .p (.bin .add), none⟩,
          ⟨(some 138), [.c (.int .i64 103), .t 137], .w (.callF f_glyphicref_Placed), none⟩,
          ⟨none, [.t 9, .t 138], .w (.store 3), none⟩])
        (.skip))))
      (.ops [⟨(some 121), [.t 13], .p (.mov), none⟩,
        ⟨(some 122), [.t 121, .c (.int .i64 1)], .p (.bin .add), none⟩,
        ⟨(some 13), [.t 122], .p (.mov), none⟩]))
def c_glyphiclaw12_NamesTwice_l1 : AC :=
 .seq (.seq (.ops [⟨(some 114), [.t 12], .p (.mov), none⟩,
     ⟨(some 115), [.t 114, .c (.int .i64 0)], .p (.bin .geq), none⟩])
   (.cond (.t 115)
    (.skip)
    (.exit 8)))
   (.seq (.block 9
    (.seq (.ops [⟨(some 13), [.c (.int .i64 0)], .p (.mov), none⟩])
    (.block 10
     (.loop c_glyphiclaw12_NamesTwice_l0))))
   (.ops [⟨(some 116), [.t 12], .p (.mov), none⟩,
     ⟨(some 117), [.t 116, .c (.int .i64 1)], .p (.bin .sub), none⟩,
     ⟨(some 12), [.t 117], .p (.mov), none⟩]))
def c_glyphiclaw12_NamesTwice_l2 : AC :=
 .seq (.seq (.ops [⟨(some 90), [.t 11], .p (.mov), none⟩,
        ⟨(some 91), [.t 10], .p (.mov), none⟩,
        ⟨(some 92), [.t 90, .t 91], .p (.bin .lss), none⟩])
      (.cond (.t 92)
       (.skip)
       (.exit 6)))
      (.seq (.block 7
       (.seq (.draw [(⟨(some 95), [.t 6], .p (.fAddr 4), none⟩, 0),
         (⟨(some 96), [.t 95], .r (.load none), none⟩, 0),
         (⟨(some 97), [.t 11], .p (.mov), none⟩, 0),
         (⟨(some 98), [.t 96, .t 97], .p (.iAddrS 6), none⟩, 0),
         (⟨(some 99), [.t 98], .p (.fAddr 0), none⟩, 0),
         (⟨(some 100), [.t 99], .r (.load none), none⟩, 0),
         (⟨(some 101), [.t 6], .p (.fAddr 4), none⟩, 0),
         (⟨(some 102), [.t 101], .r (.load none), none⟩, 0),
         (⟨(some 103), [.t 10], .p (.mov), none⟩, 0),
         (⟨(some 104), [.t 102, .t 103], .p (.iAddrS 6), none⟩, 0),
         (⟨(some 105), [.t 104], .p (.fAddr 0), none⟩, 0),
         (⟨(some 106), [.t 105], .r (.load none), none⟩, 0),
         (⟨(some 107), [.t 100, .t 106], .p (.bin .eql), none⟩, 0)])
       (.cond (.t 107)
        (.ops [⟨(some 108), [.t 10], .p (.mov), none⟩,
          ⟨(some 109), [.c (.int .i64 50), .t 108], .p (.bin .add), none⟩,
          ⟨(some 110), [.c (.int .i64 103), .t 109], .w (.callF f_glyphicref_Placed), none⟩,
          ⟨none, [.t 9, .t 110], .w (.store 3), none⟩])
        (.skip))))
      (.ops [⟨(some 93), [.t 11], .p (.mov), none⟩,
        ⟨(some 94), [.t 93, .c (.int .i64 1)], .p (.bin .add), none⟩,
        ⟨(some 11), [.t 94], .p (.mov), none⟩]))
def c_glyphiclaw12_NamesTwice_l3 : AC :=
 .seq (.seq (.ops [⟨(some 86), [.t 10], .p (.mov), none⟩,
     ⟨(some 87), [.t 86, .c (.int .i64 0)], .p (.bin .geq), none⟩])
   (.cond (.t 87)
    (.skip)
    (.exit 4)))
   (.seq (.block 5
    (.seq (.ops [⟨(some 11), [.c (.int .i64 0)], .p (.mov), none⟩])
    (.block 6
     (.loop c_glyphiclaw12_NamesTwice_l2))))
   (.ops [⟨(some 88), [.t 10], .p (.mov), none⟩,
     ⟨(some 89), [.t 88, .c (.int .i64 1)], .p (.bin .sub), none⟩,
     ⟨(some 10), [.t 89], .p (.mov), none⟩]))
def c_glyphiclaw12_NamesTwice_l4 : AC :=
 .seq (.seq (.ops [⟨(some 56), [.t 8], .p (.mov), none⟩,
     ⟨(some 57), [.t 1], .p (.mov), none⟩,
     ⟨(some 58), [.t 57], .p (.lenSl), none⟩,
     ⟨(some 59), [.t 56, .t 58], .p (.bin .lss), none⟩])
   (.cond (.t 59)
    (.skip)
    (.exit 2)))
   (.seq (.block 3
    (.draw [(⟨(some 62), [.t 6], .p (.fAddr 4), none⟩, 0),
      (⟨(some 63), [.t 62], .r (.load none), none⟩, 0),
      (⟨(some 64), [.t 1], .p (.mov), none⟩, 0),
      (⟨(some 65), [.t 8], .p (.mov), none⟩, 0),
      (⟨(some 66), [.t 64, .t 65], .p (.iAddrS 1), none⟩, 0),
      (⟨(some 67), [.t 66], .r (.load none), none⟩, 0),
      (⟨(some 68), [.t 67, .c (.int .i64 20)], .p (.bin .rem), none⟩, 0),
      (⟨(some 69), [.t 68, .c (.int .i64 20)], .p (.bin .add), none⟩, 0),
      (⟨(some 70), [.t 69, .c (.int .i64 20)], .p (.bin .rem), none⟩, 0),
      (⟨(some 71), [.c (.int .i64 97), .t 70], .p (.bin .add), none⟩, 0),
      (⟨(some 72), [.t 71], .p (.conv .u8), none⟩, 0),
      (⟨(some 73), [.t 72], .n (.bslice 1 [(.int .u8 0)] [(0, 1)]), none⟩, 0),
      (⟨(some 74), [.t 73], .r (.b2s), none⟩, 0),
      (⟨(some 75), [.c (.str [99]), .t 74], .p (.bin .add), none⟩, 0),
      (⟨(some 76), [.t 8], .p (.mov), none⟩, 0),
      (⟨(some 77), [.c (.int .i64 50), .t 76], .p (.bin .add), none⟩, 0),
      (⟨(some 78), [.t 75, .t 77], .p (.build [(.str []), (.int .u8 0), (.int .u8 0), (.int .u8 0), (.int .u8 0), (.int .i64 0)] [(0, 1), (5, 1)]), none⟩, 0),
      (⟨(some 79), [.t 78], .n (.bslice 1 [(.str []), (.int .u8 0), (.int .u8 0), (.int .u8 0), (.int .u8 0), (.int .i64 0)] [(0, 6)]), none⟩, 1),
      (⟨(some 80), [.t 63, .t 79], .w (.append 6 32), none⟩, 0),
      (⟨(some 81), [.t 6], .p (.fAddr 4), none⟩, 0),
      (⟨none, [.t 81, .t 80], .w (.store 1), none⟩, 0)]))
   (.ops [⟨(some 60), [.t 8], .p (.mov), none⟩,
     ⟨(some 61), [.t 60, .c (.int .i64 1)], .p (.bin .add), none⟩,
     ⟨(some 8), [.t 61], .p (.mov), none⟩]))
def c_glyphiclaw12_NamesTwice_l5 : AC :=
 .seq (.seq (.ops [⟨(some 30), [.t 7], .p (.mov), none⟩,
     ⟨(some 31), [.t 0], .p (.mov), none⟩,
     ⟨(some 32), [.t 31], .p (.lenSl), none⟩,
     ⟨(some 33), [.t 30, .t 32], .p (.bin .lss), none⟩])
   (.cond (.t 33)
    (.skip)
    (.exit 0)))
   (.seq (.block 1
    (.draw [(⟨(some 36), [.t 6], .p (.fAddr 3), none⟩, 0),
      (⟨(some 37), [.t 36], .r (.load none), none⟩, 0),
      (⟨(some 38), [.t 0], .p (.mov), none⟩, 0),
      (⟨(some 39), [.t 7], .p (.mov), none⟩, 0),
      (⟨(some 40), [.t 38, .t 39], .p (.iAddrS 1), none⟩, 0),
      (⟨(some 41), [.t 40], .r (.load none), none⟩, 0),
      (⟨(some 42), [.t 41, .c (.int .i64 20)], .p (.bin .rem), none⟩, 0),
      (⟨(some 43), [.t 42, .c (.int .i64 20)], .p (.bin .add), none⟩, 0),
      (⟨(some 44), [.t 43, .c (.int .i64 20)], .p (.bin .rem), none⟩, 0),
      (⟨(some 45), [.c (.int .i64 97), .t 44], .p (.bin .add), none⟩, 0),
      (⟨(some 46), [.t 45], .p (.conv .u8), none⟩, 0),
      (⟨(some 47), [.t 46], .n (.bslice 1 [(.int .u8 0)] [(0, 1)]), none⟩, 0),
      (⟨(some 48), [.t 47], .r (.b2s), none⟩, 0),
      (⟨(some 49), [.c (.str [99]), .t 48], .p (.bin .add), none⟩, 0),
      (⟨(some 50), [.t 7], .p (.mov), none⟩, 0),
      (⟨(some 51), [.c (.int .i64 10), .t 50], .p (.bin .add), none⟩, 0),
      (⟨(some 52), [.t 49, .t 51], .p (.build [(.str []), (.int .i64 0), (.int .i64 0)] [(0, 1), (2, 1)]), none⟩, 0),
      (⟨(some 53), [.t 52], .n (.bslice 1 [(.str []), (.int .i64 0), (.int .i64 0)] [(0, 3)]), none⟩, 1),
      (⟨(some 54), [.t 37, .t 53], .w (.append 3 32), none⟩, 0),
      (⟨(some 55), [.t 6], .p (.fAddr 3), none⟩, 0),
      (⟨none, [.t 55, .t 54], .w (.store 1), none⟩, 0)]))
   (.ops [⟨(some 34), [.t 7], .p (.mov), none⟩,
     ⟨(some 35), [.t 34, .c (.int .i64 1)], .p (.bin .add), none⟩,
     ⟨(some 7), [.t 35], .p (.mov), none⟩]))
def c_glyphiclaw12_NamesTwice : AC :=
 .seq (.ops [⟨(some 4), [.c (.bool false)], .p (.mov), none⟩])
 (.seq (.ops [⟨(some 18), [], .w (.callF f_glyphiclaw12_first), none⟩,
   ⟨(some 5), [.t 18], .p (.mov), none⟩])
 (.seq (.seq (.ops [⟨(some 19), [.t 5], .p (.mov), none⟩,
   ⟨(some 20), [.t 19], .p (.un .not), none⟩])
 (.cond (.t 20)
  (.seq (.ops [⟨(some 4), [.c (.bool false)], .p (.mov), none⟩])
  (.ret))
  (.skip)))
 (.seq (.seq (.ops [⟨(some 21), [.t 0], .p (.mov), none⟩,
   ⟨(some 22), [.t 21], .p (.lenSl), none⟩,
   ⟨(some 23), [.t 22, .c (.int .i64 12)], .p (.bin .gtr), none⟩,
   ⟨(some 24), [.t 23], .p (.mov), none⟩,
   ⟨(some 25), [.t 1], .p (.mov), some (24, false)⟩,
   ⟨(some 26), [.t 25], .p (.lenSl), some (24, false)⟩,
   ⟨(some 27), [.t 26, .c (.int .i64 12)], .p (.bin .gtr), some (24, false)⟩,
   ⟨(some 28), [.t 24, .c (.bool true), .t 27], .p (.pick), none⟩])
 (.cond (.t 28)
  (.seq (.ops [⟨(some 29), [.t 5], .p (.mov), none⟩,
    ⟨(some 4), [.t 29], .p (.mov), none⟩])
  (.ret))
  (.skip)))
 (.seq (.ops [⟨(some 6), [], .n (.alloc [(.int .i64 0), (.int .i64 0), (.int .i64 0), (.slice none 0 (.exact 0)), (.slice none 0 (.exact 0)), (.slice none 0 (.exact 0)), (.slice none 0 (.exact 0))]), none⟩])
 (.seq (.seq (.ops [⟨(some 7), [.c (.int .i64 0)], .p (.mov), none⟩])
 (.block 0
  (.loop c_glyphiclaw12_NamesTwice_l5)))
 (.seq (.seq (.ops [⟨(some 8), [.c (.int .i64 0)], .p (.mov), none⟩])
 (.block 2
  (.loop c_glyphiclaw12_NamesTwice_l4)))
 (.seq (.ops [⟨(some 82), [], .w (.callF f_glyphicref_None), none⟩,
   ⟨(some 9), [], .n (.alloc [(.int .i64 0), (.bool false), (.int .i64 0)]), none⟩,
   ⟨none, [.t 9, .t 82], .w (.store 3), none⟩])
 (.seq (.seq (.ops [⟨(some 83), [.t 1], .p (.mov), none⟩,
   ⟨(some 84), [.t 83], .p (.lenSl), none⟩,
   ⟨(some 85), [.t 84, .c (.int .i64 1)], .p (.bin .sub), none⟩,
   ⟨(some 10), [.t 85], .p (.mov), none⟩])
 (.block 4
  (.loop c_glyphiclaw12_NamesTwice_l3)))
 (.seq (.seq (.ops [⟨(some 111), [.t 0], .p (.mov), none⟩,
   ⟨(some 112), [.t 111], .p (.lenSl), none⟩,
   ⟨(some 113), [.t 112, .c (.int .i64 1)], .p (.bin .sub), none⟩,
   ⟨(some 12), [.t 113], .p (.mov), none⟩])
 (.block 8
  (.loop c_glyphiclaw12_NamesTwice_l1)))
 (.seq (.ops [⟨(some 140), [.t 6], .r (.load (some 7)), none⟩,
   ⟨(some 141), [.t 140], .w (.callF f_names_New), none⟩,
   ⟨(some 139), [.t 141], .p (.mov), none⟩,
   ⟨(some 142), [.t 139], .p (.ext 0), none⟩,
   ⟨(some 143), [.t 139], .p (.ext 1), none⟩,
   ⟨(some 14), [.t 142], .p (.mov), none⟩,
   ⟨(some 15), [.t 143], .p (.mov), none⟩])
 (.seq (.ops [⟨(some 145), [.t 6], .r (.load (some 7)), none⟩,
   ⟨(some 146), [.t 145], .w (.callF f_glyphicref12_New), none⟩,
   ⟨(some 144), [.t 146], .p (.mov), none⟩,
   ⟨(some 147), [.t 144], .p (.ext 0), none⟩,
   ⟨(some 148), [.t 144], .p (.ext 1), none⟩,
   ⟨(some 17), [], .n (.alloc [(.int .i64 0), (.bool false), (.int .i64 0)]), none⟩,
   ⟨(some 16), [.t 147], .p (.mov), none⟩,
   ⟨none, [.t 17, .t 148], .w (.store 3), none⟩])
 (.seq (.draw [(⟨(some 149), [.t 5], .p (.mov), none⟩, 0),
   (⟨(some 150), [.t 149], .p (.mov), none⟩, 0),
   (⟨(some 151), [.t 15], .p (.mov), some (150, true)⟩, 0),
   (⟨(some 152), [.t 9], .r (.load (some 3)), some (150, true)⟩, 0),
   (⟨(some 153), [.t 151, .t 152], .w (.callF f_glyphicsee_Same), some (150, true)⟩, 0),
   (⟨(some 154), [.t 150, .t 153, .c (.bool false)], .p (.pick), none⟩, 0),
   (⟨(some 155), [.t 154], .p (.mov), none⟩, 0),
   (⟨(some 156), [.t 17], .r (.load (some 3)), some (155, true)⟩, 0),
   (⟨(some 157), [.t 9], .r (.load (some 3)), some (155, true)⟩, 0),
   (⟨(some 158), [.t 156, .t 157], .w (.callF f_glyphicref_SameFault), some (155, true)⟩, 0),
   (⟨(some 159), [.t 155, .t 158, .c (.bool false)], .p (.pick), none⟩, 0),
   (⟨(some 160), [.t 159], .p (.mov), none⟩, 0),
   (⟨(some 161), [.t 6], .r (.load (some 7)), some (160, true)⟩, 0),
   (⟨(some 162), [.t 161], .w (.callF f_names_Check), some (160, true)⟩, 0),
   (⟨(some 163), [.t 9], .r (.load (some 3)), some (160, true)⟩, 1),
   (⟨(some 164), [.t 162, .t 163], .w (.callF f_glyphicsee_Same), some (160, true)⟩, 0),
   (⟨(some 165), [.t 160, .t 164, .c (.bool false)], .p (.pick), none⟩, 0),
   (⟨(some 4), [.t 165], .p (.mov), none⟩, 0)])
 (.ret)))))))))))))
def r_glyphiclaw12_NamesTwice : List ARes := [.tmp 4]
def F_glyphiclaw12_NamesTwice : AFunc := .code c_glyphiclaw12_NamesTwice r_glyphiclaw12_NamesTwice
/- color.Show -/
def c_color_Show_l0 : AC :=
 .seq (.ops [⟨(some 17), [.t 16, .c (.int .i64 4)], .p (.bin .lss), none⟩])
   (.seq (.cond (.t 17)
    (.skip)
    (.exit 0))
   (.seq (.block 1
    (.seq (.ops [⟨(some 18), [.t 16], .p (.mov), none⟩,
      ⟨(some 19), [.t 15, .t 16], .p (.idxArr 4 1 none), none⟩,
      ⟨(some 4), [.t 18], .p (.mov), none⟩,
      ⟨(some 5), [.t 19], .p (.mov), none⟩])
    (.seq (.ops [⟨(some 20), [.t 4], .p (.mov), none⟩,
      ⟨(some 21), [.t 20, .c (.int .i64 3)], .p (.bin .lss), none⟩,
      ⟨(some 22), [.t 21], .p (.mov), none⟩,
      ⟨(some 23), [.t 5], .p (.mov), some (22, false)⟩,
      ⟨(some 24), [.t 23, .c (.int .u8 255)], .p (.bin .neq), some (22, false)⟩,
      ⟨(some 25), [.t 22, .c (.bool true), .t 24], .p (.pick), none⟩])
    (.cond (.t 25)
     (.draw [(⟨(some 26), [.t 3], .p (.mov), none⟩, 0),
       (⟨(some 27), [.t 5], .p (.mov), none⟩, 0),
       (⟨(some 28), [.t 27, .c (.int .u64 4)], .p (.bin .shr), none⟩, 0),
       (⟨(some 29), [.c (.str [48, 49, 50, 51, 52, 53, 54, 55, 56, 57, 97, 98, 99, 100, 101, 102]), .t 28], .p (.idxStr), none⟩, 0),
       (⟨(some 30), [.t 5], .p (.mov), none⟩, 0),
       (⟨(some 31), [.t 30, .c (.int .u8 15)], .p (.bin .and), none⟩, 0),
       (⟨(some 32), [.c (.str [48, 49, 50, 51, 52, 53, 54, 55, 56, 57, 97, 98, 99, 100, 101, 102]), .t 31], .p (.idxStr), none⟩, 0),
       (⟨(some 33), [.t 29, .t 32], .n (.bslice 2 [(.int .u8 0), (.int .u8 0)] [(0, 1), (1, 1)]), none⟩, 0),
       (⟨(some 34), [.t 26, .t 33], .w (.append 1 1), none⟩, 0),
       (⟨(some 3), [.t 34], .p (.mov), none⟩, 0)])
     (.skip)))))
   (.ops [⟨(some 35), [.t 16, .c (.int .i64 1)], .p (.bin .add), none⟩,
     ⟨(some 16), [.t 35], .p (.mov), none⟩])))
def c_color_Show : AC :=
 .seq (.ops [⟨(some 1), [.t 0], .n (.box), none⟩,
   ⟨(some 2), [.c (.str [])], .p (.mov), none⟩])
 (.seq (.ops [⟨(some 6), [.c (.int .u8 35)], .n (.bslice 1 [(.int .u8 0)] [(0, 1)]), none⟩,
   ⟨(some 3), [.t 6], .p (.mov), none⟩])
 (.seq (.seq (.ops [⟨(some 7), [.t 1], .p (.fAddr 0), none⟩,
   ⟨(some 8), [.t 7], .r (.load none), none⟩,
   ⟨(some 9), [.t 1], .p (.fAddr 1), none⟩,
   ⟨(some 10), [.t 9], .r (.load none), none⟩,
   ⟨(some 11), [.t 1], .p (.fAddr 2), none⟩,
   ⟨(some 12), [.t 11], .r (.load none), none⟩,
   ⟨(some 13), [.t 1], .p (.fAddr 3), none⟩,
   ⟨(some 14), [.t 13], .r (.load none), none⟩,
   ⟨(some 15), [.t 8, .t 10, .t 12, .t 14], .p (.build [(.int .u8 0), (.int .u8 0), (.int .u8 0), (.int .u8 0)] [(0, 1), (1, 1), (2, 1), (3, 1)]), none⟩,
   ⟨(some 16), [.c (.int .i64 0)], .p (.mov), none⟩])
 (.block 0
  (.loop c_color_Show_l0)))
 (.seq (.ops [⟨(some 36), [.t 3], .p (.mov), none⟩,
   ⟨(some 37), [.t 36], .r (.b2s), none⟩,
   ⟨(some 2), [.t 37], .p (.mov), none⟩])
 (.ret))))
def r_color_Show : List ARes := [.tmp 2]
def F_color_Show : AFunc := .code c_color_Show r_color_Show
/- glyphicref.SameColor -/
def c_glyphicref_SameColor : AC :=
 .seq (.ops [⟨(some 2), [.t 0], .n (.box), none⟩,
   ⟨(some 3), [.t 1], .n (.box), none⟩,
   ⟨(some 4), [.c (.bool false)], .p (.mov), none⟩])
 (.seq (.ops [⟨(some 5), [.t 2], .p (.fAddr 0), none⟩,
   ⟨(some 6), [.t 5], .r (.load none), none⟩,
   ⟨(some 7), [.t 3], .p (.fAddr 0), none⟩,
   ⟨(some 8), [.t 7], .r (.load none), none⟩,
   ⟨(some 9), [.t 6, .t 8], .p (.bin .eql), none⟩,
   ⟨(some 10), [.t 9], .p (.mov), none⟩,
   ⟨(some 11), [.t 2], .p (.fAddr 1), some (10, true)⟩,
   ⟨(some 12), [.t 11], .r (.load none), some (10, true)⟩,
   ⟨(some 13), [.t 3], .p (.fAddr 1), some (10, true)⟩,
   ⟨(some 14), [.t 13], .r (.load none), some (10, true)⟩,
   ⟨(some 15), [.t 12, .t 14], .p (.bin .eql), some (10, true)⟩,
   ⟨(some 16), [.t 10, .t 15, .c (.bool false)], .p (.pick), none⟩,
   ⟨(some 17), [.t 16], .p (.mov), none⟩,
   ⟨(some 18), [.t 2], .p (.fAddr 2), some (17, true)⟩,
   ⟨(some 19), [.t 18], .r (.load none), some (17, true)⟩,
   ⟨(some 20), [.t 3], .p (.fAddr 2), some (17, true)⟩,
   ⟨(some 21), [.t 20], .r (.load none), some (17, true)⟩,
   ⟨(some 22), [.t 19, .t 21], .p (.bin .eql), some (17, true)⟩,
   ⟨(some 23), [.t 17, .t 22, .c (.bool false)], .p (.pick), none⟩,
   ⟨(some 24), [.t 23], .p (.mov), none⟩,
   ⟨(some 25), [.t 2], .p (.fAddr 3), some (24, true)⟩,
   ⟨(some 26), [.t 25], .r (.load none), some (24, true)⟩,
   ⟨(some 27), [.t 3], .p (.fAddr 3), some (24, true)⟩,
   ⟨(some 28), [.t 27], .r (.load none), some (24, true)⟩,
   ⟨(some 29), [.t 26, .t 28], .p (.bin .eql), some (24, true)⟩,
   ⟨(some 30), [.t 24, .t 29, .c (.bool false)], .p (.pick), none⟩,
   ⟨(some 4), [.t 30], .p (.mov), none⟩])
 (.ret))
def r_glyphicref_SameColor : List ARes := [.tmp 4]
def F_glyphicref_SameColor : AFunc := .code c_glyphicref_SameColor r_glyphicref_SameColor
/- glyphicsee.Is -/
def c_glyphicsee_Is : AC :=
 .seq (.ops [⟨(some 4), [.c (.bool false)], .p (.mov), none⟩])
 (.seq (.ops [⟨(some 5), [.t 0], .p (.mov), none⟩,
   ⟨(some 6), [.t 1], .p (.mov), none⟩,
   ⟨(some 7), [.t 6], .w (.callF f_glyphicref_Bare), none⟩,
   ⟨(some 8), [.t 5, .t 7], .w (.callF f_glyphicsee_Same), none⟩,
   ⟨(some 4), [.t 8], .p (.mov), none⟩])
 (.ret))
def r_glyphicsee_Is : List ARes := [.tmp 4]
def F_glyphicsee_Is : AFunc := .code c_glyphicsee_Is r_glyphicsee_Is
/- color.Wide -/
def c_color_Wide : AC :=
 .seq (.ops [⟨(some 1), [.t 0], .n (.box), none⟩,
   ⟨(some 2), [], .n (.alloc [(.int .i64 0), (.int .i64 0), (.int .i64 0), (.int .i64 0)]), none⟩])
 (.seq (.ops [⟨(some 3), [.t 1], .p (.fAddr 0), none⟩,
   ⟨(some 4), [.t 3], .r (.load none), none⟩,
   ⟨(some 5), [.t 4], .p (.conv .i64), none⟩,
   ⟨(some 6), [.c (.int .i64 257), .t 5], .p (.bin .mul), none⟩,
   ⟨(some 7), [.t 1], .p (.fAddr 1), none⟩,
   ⟨(some 8), [.t 7], .r (.load none), none⟩,
   ⟨(some 9), [.t 8], .p (.conv .i64), none⟩,
   ⟨(some 10), [.c (.int .i64 257), .t 9], .p (.bin .mul), none⟩,
   ⟨(some 11), [.t 1], .p (.fAddr 2), none⟩,
   ⟨(some 12), [.t 11], .r (.load none), none⟩,
   ⟨(some 13), [.t 12], .p (.conv .i64), none⟩,
   ⟨(some 14), [.c (.int .i64 257), .t 13], .p (.bin .mul), none⟩,
   ⟨(some 15), [.t 1], .p (.fAddr 3), none⟩,
   ⟨(some 16), [.t 15], .r (.load none), none⟩,
   ⟨(some 17), [.t 16], .p (.conv .i64), none⟩,
   ⟨(some 18), [.c (.int .i64 257), .t 17], .p (.bin .mul), none⟩,
   ⟨(some 19), [.t 6, .t 10, .t 14, .t 18], .p (.build [(.int .i64 0), (.int .i64 0), (.int .i64 0), (.int .i64 0)] [(0, 1), (1, 1), (2, 1), (3, 1)]), none⟩,
   ⟨none, [.t 2, .t 19], .w (.store 4), none⟩])
 (.ret))
def r_color_Wide : List ARes := [.cell 2 (some 4)]
def F_color_Wide : AFunc := .code c_color_Wide r_color_Wide
/- glyphicsee.Same -/
def c_glyphicsee_Same : AC :=
 .seq (.ops [⟨(some 3), [.t 1], .n (.box), none⟩,
   ⟨(some 4), [.c (.bool false)], .p (.mov), none⟩])
 (.seq (.draw [(⟨(some 5), [.t 0], .p (.mov), none⟩, 0),
   (⟨(some 6), [.t 5], .w (.callF f_glyphicsee_Fault), none⟩, 0),
   (⟨(some 7), [.t 3], .r (.load (some 3)), none⟩, 1),
   (⟨(some 8), [.t 6, .t 7], .w (.callF f_glyphicref_SameFault), none⟩, 0),
   (⟨(some 4), [.t 8], .p (.mov), none⟩, 0)])
 (.ret))
def r_glyphicsee_Same : List ARes := [.tmp 4]
def F_glyphicsee_Same : AFunc := .code c_glyphicsee_Same r_glyphicsee_Same
/- glyphicref.Placed -/
def c_glyphicref_Placed : AC :=
 .seq (.ops [⟨(some 4), [], .n (.alloc [(.int .i64 0), (.bool false), (.int .i64 0)]), none⟩])
 (.seq (.seq (.ops [⟨(some 5), [.t 0], .p (.mov), none⟩,
   ⟨(some 6), [.t 5, .c (.int .i64 0)], .p (.bin .eql), none⟩])
 (.cond (.t 6)
  (.seq (.ops [⟨(some 7), [], .w (.callF f_glyphicref_None), none⟩,
    ⟨none, [.t 4, .t 7], .w (.store 3), none⟩])
  (.ret))
  (.skip)))
 (.seq (.ops [⟨(some 8), [.t 0], .p (.mov), none⟩,
   ⟨(some 9), [.t 1], .p (.mov), none⟩,
   ⟨(some 10), [.t 8, .c (.bool true), .t 9], .p (.build [(.int .i64 0), (.bool false), (.int .i64 0)] [(0, 1), (1, 1), (2, 1)]), none⟩,
   ⟨none, [.t 4, .t 10], .w (.store 3), none⟩])
 (.ret)))
def r_glyphicref_Placed : List ARes := [.cell 4 (some 3)]
def F_glyphicref_Placed : AFunc := .code c_glyphicref_Placed r_glyphicref_Placed
/- glyphiclaw12.first -/
def c_glyphiclaw12_first : AC :=
 .seq (.ops [⟨(some 0), [.c (.bool false)], .p (.mov), none⟩])
 (.seq (.ops [⟨(some 6), [], .p (.build [(.int .i64 0), (.int .i64 0), (.int .i64 0), (.slice none 0 (.exact 0)), (.slice none 0 (.exact 0)), (.slice none 0 (.exact 0)), (.slice none 0 (.exact 0))] []), none⟩,
   ⟨(some 7), [.t 6], .w (.callF f_names_New), none⟩,
   ⟨(some 5), [.t 7], .p (.mov), none⟩,
   ⟨(some 8), [.t 5], .p (.ext 0), none⟩,
   ⟨(some 9), [.t 5], .p (.ext 1), none⟩,
   ⟨(some 1), [.t 8], .p (.mov), none⟩,
   ⟨(some 2), [.t 9], .p (.mov), none⟩])
 (.seq (.seq (.ops [⟨(some 10), [.t 2], .p (.mov), none⟩,
   ⟨(some 11), [.t 10, .c .nilIface], .r (.eq true (.iface [t_p_api_At, t_p_errors_errorString] true)), none⟩,
   ⟨(some 12), [.t 11], .p (.mov), none⟩,
   ⟨(some 13), [.t 1], .p (.mov), some (12, false)⟩,
   ⟨(some 14), [.t 13, .c (.ptr none)], .r (.eq false .ptr), some (12, false)⟩,
   ⟨(some 15), [.t 12, .c (.bool true), .t 14], .p (.pick), none⟩])
 (.cond (.t 15)
  (.seq (.ops [⟨(some 0), [.c (.bool false)], .p (.mov), none⟩])
  (.ret))
  (.skip)))
 (.seq (.ops [⟨(some 17), [.t 1], .p (.mov), none⟩,
   ⟨(some 18), [.c (.int .i64 5)], .p (.build [(.str []), (.int .i64 0), (.int .i64 0)] [(1, 1)]), none⟩,
   ⟨(some 19), [.t 17, .t 18], .w (.callF f_names_Scope_Val), none⟩,
   ⟨(some 16), [.t 19], .p (.mov), none⟩,
   ⟨(some 20), [.t 16], .p (.ext 0), none⟩,
   ⟨(some 21), [.t 16], .p (.ext 1), none⟩,
   ⟨(some 3), [.t 20], .p (.mov), none⟩,
   ⟨(some 4), [.t 21], .p (.mov), none⟩])
 (.seq (.ops [⟨(some 22), [], .p (.build [(.int .i64 0), (.int .i64 0), (.int .i64 0), (.slice none 0 (.exact 0)), (.slice none 0 (.exact 0)), (.slice none 0 (.exact 0)), (.slice none 0 (.exact 0))] []), none⟩,
   ⟨(some 23), [.t 22], .w (.callF f_names_Check), none⟩,
   ⟨(some 24), [.t 23, .c .nilIface], .r (.eq false (.iface [t_p_api_At, t_p_errors_errorString] true)), none⟩,
   ⟨(some 25), [.t 24], .p (.mov), none⟩,
   ⟨(some 26), [.t 4], .p (.mov), some (25, true)⟩,
   ⟨(some 27), [.t 26, .c .nilIface], .r (.eq false (.iface [t_p_api_At, t_p_errors_errorString] true)), some (25, true)⟩,
   ⟨(some 28), [.t 25, .t 27, .c (.bool false)], .p (.pick), none⟩,
   ⟨(some 29), [.t 28], .p (.mov), none⟩,
   ⟨(some 30), [.t 3], .p (.mov), some (29, true)⟩,
   ⟨(some 31), [.t 30, .c (.int .i64 5)], .p (.bin .eql), some (29, true)⟩,
   ⟨(some 32), [.t 29, .t 31, .c (.bool false)], .p (.pick), none⟩,
   ⟨(some 33), [.t 32], .p (.mov), none⟩,
   ⟨(some 34), [.t 1], .p (.mov), some (33, true)⟩,
   ⟨(some 35), [.t 34, .c (.str [97])], .w (.callF f_names_Scope_Shape), some (33, true)⟩,
   ⟨(some 36), [.t 35, .c (.int .i64 (-1))], .p (.bin .eql), some (33, true)⟩,
   ⟨(some 37), [.t 33, .t 36, .c (.bool false)], .p (.pick), none⟩,
   ⟨(some 0), [.t 37], .p (.mov), none⟩])
 (.ret)))))
def r_glyphiclaw12_first : List ARes := [.tmp 0]
def F_glyphiclaw12_first : AFunc := .code c_glyphiclaw12_first r_glyphiclaw12_first
/- names.New -/
def c_names_New_l0 : AC :=
 .seq (.ops [⟨(some 67), [.t 66, .t 65], .p (.bin .lss), none⟩])
   (.seq (.cond (.t 67)
    (.skip)
    (.exit 4))
   (.seq (.block 5
    (.seq (.ops [⟨(some 68), [.t 66], .p (.mov), none⟩,
      ⟨(some 69), [.t 64, .t 66], .p (.iAddrS 3), none⟩,
      ⟨(some 70), [.t 69], .r (.load (some 3)), none⟩,
      ⟨(some 12), [], .n (.alloc [(.str []), (.int .i64 0), (.slice none 0 (.exact 0))]), none⟩,
      ⟨(some 11), [.t 68], .p (.mov), none⟩,
      ⟨none, [.t 12, .t 70], .w (.store 3), none⟩])
    (.seq (.draw [(⟨(some 71), [.t 4], .p (.mov), none⟩, 0),
      (⟨(some 72), [.t 71], .p (.nilChk), none⟩, 0),
      (⟨(some 73), [.t 72], .p (.fAddr 2), none⟩, 0),
      (⟨(some 74), [.t 73], .r (.load none), none⟩, 0),
      (⟨(some 75), [.t 12], .p (.fAddr 0), none⟩, 0),
      (⟨(some 76), [.t 75], .r (.load none), none⟩, 0),
      (⟨(some 77), [.t 11], .p (.mov), none⟩, 0),
      (⟨(some 78), [.t 12], .p (.fAddr 1), none⟩, 0),
      (⟨(some 79), [.t 78], .r (.load none), none⟩, 0),
      (⟨(some 80), [.t 74, .t 76, .t 77, .t 79], .w (.callF f_names_first__int), none⟩, 0),
      (⟨(some 13), [.t 80], .p (.mov), none⟩, 0)])
    (.seq (.ops [⟨(some 81), [.t 13], .p (.mov), none⟩,
      ⟨(some 82), [.t 81, .c .nilIface], .r (.eq true (.iface [t_p_api_At, t_p_errors_errorString] true)), none⟩])
    (.cond (.t 82)
     (.seq (.ops [⟨(some 83), [.t 13], .p (.mov), none⟩,
       ⟨(some 2), [.c (.ptr none)], .p (.mov), none⟩,
       ⟨(some 3), [.t 83], .p (.mov), none⟩])
     (.ret))
     (.skip))))))
   (.ops [⟨(some 84), [.t 66, .c (.int .i64 1)], .p (.bin .add), none⟩,
     ⟨(some 66), [.t 84], .p (.mov), none⟩])))
def c_names_New_l1 : AC :=
 .seq (.ops [⟨(some 45), [.t 44, .t 43], .p (.bin .lss), none⟩])
   (.seq (.cond (.t 45)
    (.skip)
    (.exit 2))
   (.seq (.block 3
    (.seq (.ops [⟨(some 46), [.t 42, .t 44], .p (.iAddrS 6), none⟩,
      ⟨(some 47), [.t 46], .r (.load (some 6)), none⟩,
      ⟨(some 9), [], .n (.alloc [(.str []), (.int .u8 0), (.int .u8 0), (.int .u8 0), (.int .u8 0), (.int .i64 0)]), none⟩,
      ⟨none, [.t 9, .t 47], .w (.store 6), none⟩])
    (.seq (.draw [(⟨(some 48), [.t 4], .p (.mov), none⟩, 0),
      (⟨(some 49), [.t 48], .p (.nilChk), none⟩, 0),
      (⟨(some 50), [.t 49], .p (.fAddr 1), none⟩, 0),
      (⟨(some 51), [.t 50], .r (.load none), none⟩, 0),
      (⟨(some 52), [.t 9], .p (.fAddr 0), none⟩, 0),
      (⟨(some 53), [.t 52], .r (.load none), none⟩, 0),
      (⟨(some 54), [.t 9], .p (.fAddr 1), none⟩, 0),
      (⟨(some 55), [.t 54], .r (.load (some 4)), none⟩, 0),
      (⟨(some 56), [.t 9], .p (.fAddr 5), none⟩, 0),
      (⟨(some 57), [.t 56], .r (.load none), none⟩, 0),
      (⟨(some 58), [.t 51, .t 53, .t 55, .t 57], .w (.callF f_names_first__api_Color), none⟩, 0),
      (⟨(some 10), [.t 58], .p (.mov), none⟩, 0)])
    (.seq (.ops [⟨(some 59), [.t 10], .p (.mov), none⟩,
      ⟨(some 60), [.t 59, .c .nilIface], .r (.eq true (.iface [t_p_api_At, t_p_errors_errorString] true)), none⟩])
    (.cond (.t 60)
     (.seq (.ops [⟨(some 61), [.t 10], .p (.mov), none⟩,
       ⟨(some 2), [.c (.ptr none)], .p (.mov), none⟩,
       ⟨(some 3), [.t 61], .p (.mov), none⟩])
     (.ret))
     (.skip))))))
   (.ops [⟨(some 62), [.t 44, .c (.int .i64 1)], .p (.bin .add), none⟩,
     ⟨(some 44), [.t 62], .p (.mov), none⟩])))
def c_names_New_l2 : AC :=
 .seq (.ops [⟨(some 23), [.t 22, .t 21], .p (.bin .lss), none⟩])
   (.seq (.cond (.t 23)
    (.skip)
    (.exit 0))
   (.seq (.block 1
    (.seq (.ops [⟨(some 24), [.t 20, .t 22], .p (.iAddrS 3), none⟩,
      ⟨(some 25), [.t 24], .r (.load (some 3)), none⟩,
      ⟨(some 6), [], .n (.alloc [(.str []), (.int .i64 0), (.int .i64 0)]), none⟩,
      ⟨none, [.t 6, .t 25], .w (.store 3), none⟩])
    (.seq (.draw [(⟨(some 26), [.t 4], .p (.mov), none⟩, 0),
      (⟨(some 27), [.t 26], .p (.nilChk), none⟩, 0),
      (⟨(some 28), [.t 27], .p (.fAddr 0), none⟩, 0),
      (⟨(some 29), [.t 28], .r (.load none), none⟩, 0),
      (⟨(some 30), [.t 6], .p (.fAddr 0), none⟩, 0),
      (⟨(some 31), [.t 30], .r (.load none), none⟩, 0),
      (⟨(some 32), [.t 6], .p (.fAddr 1), none⟩, 0),
      (⟨(some 33), [.t 32], .r (.load none), none⟩, 0),
      (⟨(some 34), [.t 6], .p (.fAddr 2), none⟩, 0),
      (⟨(some 35), [.t 34], .r (.load none), none⟩, 0),
      (⟨(some 36), [.t 29, .t 31, .t 33, .t 35], .w (.callF f_names_first__int64), none⟩, 0),
      (⟨(some 7), [.t 36], .p (.mov), none⟩, 0)])
    (.seq (.ops [⟨(some 37), [.t 7], .p (.mov), none⟩,
      ⟨(some 38), [.t 37, .c .nilIface], .r (.eq true (.iface [t_p_api_At, t_p_errors_errorString] true)), none⟩])
    (.cond (.t 38)
     (.seq (.ops [⟨(some 39), [.t 7], .p (.mov), none⟩,
       ⟨(some 2), [.c (.ptr none)], .p (.mov), none⟩,
       ⟨(some 3), [.t 39], .p (.mov), none⟩])
     (.ret))
     (.skip))))))
   (.ops [⟨(some 40), [.t 22, .c (.int .i64 1)], .p (.bin .add), none⟩,
     ⟨(some 22), [.t 40], .p (.mov), none⟩])))
def c_names_New : AC :=
 .seq (.ops [⟨(some 1), [.t 0], .n (.box), none⟩,
   ⟨(some 2), [.c (.ptr none)], .p (.mov), none⟩,
   ⟨(some 3), [.c .nilIface], .p (.mov), none⟩])
 (.seq (.ops [⟨(some 14), [], .n (.mkMap), none⟩,
   ⟨(some 15), [], .n (.mkMap), none⟩,
   ⟨(some 16), [], .n (.mkMap), none⟩,
   ⟨(some 17), [.t 14, .t 15, .t 16], .p (.build [(.map none), (.map none), (.map none)] [(0, 1), (1, 1), (2, 1)]), none⟩,
   ⟨(some 18), [.t 17], .n (.box), none⟩,
   ⟨(some 4), [.t 18], .p (.mov), none⟩])
 (.seq (.seq (.ops [⟨(some 19), [.t 1], .p (.fAddr 3), none⟩,
   ⟨(some 20), [.t 19], .r (.load none), none⟩,
   ⟨(some 21), [.t 20], .p (.lenSl), none⟩,
   ⟨(some 22), [.c (.int .i64 0)], .p (.mov), none⟩])
 (.block 0
  (.loop c_names_New_l2)))
 (.seq (.seq (.ops [⟨(some 41), [.t 1], .p (.fAddr 4), none⟩,
   ⟨(some 42), [.t 41], .r (.load none), none⟩,
   ⟨(some 43), [.t 42], .p (.lenSl), none⟩,
   ⟨(some 44), [.c (.int .i64 0)], .p (.mov), none⟩])
 (.block 2
  (.loop c_names_New_l1)))
 (.seq (.seq (.ops [⟨(some 63), [.t 1], .p (.fAddr 5), none⟩,
   ⟨(some 64), [.t 63], .r (.load none), none⟩,
   ⟨(some 65), [.t 64], .p (.lenSl), none⟩,
   ⟨(some 66), [.c (.int .i64 0)], .p (.mov), none⟩])
 (.block 4
  (.loop c_names_New_l0)))
 (.seq (.ops [⟨(some 85), [.t 4], .p (.mov), none⟩,
   ⟨(some 2), [.t 85], .p (.mov), none⟩,
   ⟨(some 3), [.c .nilIface], .p (.mov), none⟩])
 (.ret))))))
def r_names_New : List ARes := [.tmp 2, .tmp 3]
def F_names_New : AFunc := .code c_names_New r_names_New
/- (*names.Scope).Val -/
def c_names_Scope_Val : AC :=
 .seq (.ops [⟨(some 3), [.t 1], .n (.box), none⟩,
   ⟨(some 4), [.c (.int .i64 0)], .p (.mov), none⟩,
   ⟨(some 5), [.c .nilIface], .p (.mov), none⟩])
 (.seq (.seq (.ops [⟨(some 8), [.t 3], .p (.fAddr 0), none⟩,
   ⟨(some 9), [.t 8], .r (.load none), none⟩,
   ⟨(some 10), [.t 9, .c (.str [])], .p (.bin .eql), none⟩])
 (.cond (.t 10)
  (.seq (.ops [⟨(some 11), [.t 3], .p (.fAddr 1), none⟩,
    ⟨(some 12), [.t 11], .r (.load none), none⟩,
    ⟨(some 4), [.t 12], .p (.mov), none⟩,
    ⟨(some 5), [.c .nilIface], .p (.mov), none⟩])
  (.ret))
  (.skip)))
 (.seq (.draw [(⟨(some 14), [.t 0], .p (.mov), none⟩, 0),
   (⟨(some 15), [.t 14], .p (.nilChk), none⟩, 0),
   (⟨(some 16), [.t 15], .p (.fAddr 0), none⟩, 0),
   (⟨(some 17), [.t 16], .r (.load none), none⟩, 0),
   (⟨(some 18), [.t 3], .p (.fAddr 0), none⟩, 0),
   (⟨(some 19), [.t 18], .r (.load none), none⟩, 0),
   (⟨(some 20), [.t 17, .t 19], .r (.lookup true true (.int .i64 0)), none⟩, 0),
   (⟨(some 13), [.t 20], .p (.mov), none⟩, 0),
   (⟨(some 21), [.t 13], .p (.ext 0), none⟩, 0),
   (⟨(some 22), [.t 13], .p (.ext 1), none⟩, 0),
   (⟨(some 6), [.t 21], .p (.mov), none⟩, 0),
   (⟨(some 7), [.t 22], .p (.mov), none⟩, 0)])
 (.seq (.seq (.ops [⟨(some 23), [.t 7], .p (.mov), none⟩,
   ⟨(some 24), [.t 23], .p (.un .not), none⟩])
 (.cond (.t 24)
  (.seq (.draw [(⟨(some 25), [.t 3], .p (.fAddr 2), none⟩, 0),
    (⟨(some 26), [.t 25], .r (.load none), none⟩, 0),
    (⟨(some 27), [.c (.ptr (some (g_ErrName, 0)))], .r (.load none), none⟩, 0),
    (⟨(some 28), [.t 26, .t 27], .p (.build [(.int .i64 0), .nilIface] [(0, 1), (1, 1)]), none⟩, 0),
    (⟨(some 29), [.t 28], .n (.box), none⟩, 0),
    (⟨(some 30), [.t 29], .p (.mkI t_p_api_At), none⟩, 0),
    (⟨(some 4), [.c (.int .i64 0)], .p (.mov), none⟩, 0),
    (⟨(some 5), [.t 30], .p (.mov), none⟩, 0)])
  (.ret))
  (.skip)))
 (.seq (.ops [⟨(some 31), [.t 6], .p (.mov), none⟩,
   ⟨(some 4), [.t 31], .p (.mov), none⟩,
   ⟨(some 5), [.c .nilIface], .p (.mov), none⟩])
 (.ret)))))
def r_names_Scope_Val : List ARes := [.tmp 4, .tmp 5]
def F_names_Scope_Val : AFunc := .code c_names_Scope_Val r_names_Scope_Val
/- (*names.Scope).Ref -/
def c_names_Scope_Ref : AC :=
 .seq (.ops [⟨(some 3), [.t 1], .n (.box), none⟩,
   ⟨(some 4), [], .n (.alloc [(.int .u8 0), (.int .u8 0), (.int .u8 0), (.int .u8 0)]), none⟩,
   ⟨(some 5), [.c .nilIface], .p (.mov), none⟩])
 (.seq (.seq (.ops [⟨(some 8), [.t 3], .p (.fAddr 0), none⟩,
   ⟨(some 9), [.t 8], .r (.load none), none⟩,
   ⟨(some 10), [.t 9, .c (.str [])], .p (.bin .eql), none⟩])
 (.cond (.t 10)
  (.seq (.ops [⟨(some 11), [.t 3], .p (.fAddr 1), none⟩,
    ⟨(some 12), [.t 11], .r (.load (some 4)), none⟩,
    ⟨none, [.t 4, .t 12], .w (.store 4), none⟩,
    ⟨(some 5), [.c .nilIface], .p (.mov), none⟩])
  (.ret))
  (.skip)))
 (.seq (.draw [(⟨(some 14), [.t 0], .p (.mov), none⟩, 0),
   (⟨(some 15), [.t 14], .p (.nilChk), none⟩, 0),
   (⟨(some 16), [.t 15], .p (.fAddr 1), none⟩, 0),
   (⟨(some 17), [.t 16], .r (.load none), none⟩, 0),
   (⟨(some 18), [.t 3], .p (.fAddr 0), none⟩, 0),
   (⟨(some 19), [.t 18], .r (.load none), none⟩, 0),
   (⟨(some 20), [.t 17, .t 19], .r (.lookup true true (.agg [(.int .u8 0), (.int .u8 0), (.int .u8 0), (.int .u8 0)])), none⟩, 0),
   (⟨(some 13), [.t 20], .p (.mov), none⟩, 0),
   (⟨(some 21), [.t 13], .p (.ext 0), none⟩, 0),
   (⟨(some 6), [], .n (.alloc [(.int .u8 0), (.int .u8 0), (.int .u8 0), (.int .u8 0)]), none⟩, 0),
   (⟨none, [.t 6, .t 21], .w (.store 4), none⟩, 0),
   (⟨(some 22), [.t 13], .p (.ext 1), none⟩, 0),
   (⟨(some 7), [.t 22], .p (.mov), none⟩, 0)])
 (.seq (.seq (.ops [⟨(some 23), [.t 7], .p (.mov), none⟩,
   ⟨(some 24), [.t 23], .p (.un .not), none⟩])
 (.cond (.t 24)
  (.seq (.draw [(⟨(some 25), [], .p (.build [(.int .u8 0), (.int .u8 0), (.int .u8 0), (.int .u8 0)] []), none⟩, 0),
    (⟨none, [.t 4, .t 25], .w (.store 4), none⟩, 0),
    (⟨(some 26), [.t 3], .p (.fAddr 5), none⟩, 0),
    (⟨(some 27), [.t 26], .r (.load none), none⟩, 1),
    (⟨(some 28), [.c (.ptr (some (g_ErrName, 0)))], .r (.load none), none⟩, 1),
    (⟨(some 29), [.t 27, .t 28], .p (.build [(.int .i64 0), .nilIface] [(0, 1), (1, 1)]), none⟩, 0),
    (⟨(some 30), [.t 29], .n (.box), none⟩, 0),
    (⟨(some 31), [.t 30], .p (.mkI t_p_api_At), none⟩, 0),
    (⟨(some 5), [.t 31], .p (.mov), none⟩, 0)])
  (.ret))
  (.skip)))
 (.seq (.ops [⟨(some 32), [.t 6], .r (.load (some 4)), none⟩,
   ⟨none, [.t 4, .t 32], .w (.store 4), none⟩,
   ⟨(some 5), [.c .nilIface], .p (.mov), none⟩])
 (.ret)))))
def r_names_Scope_Ref : List ARes := [.cell 4 (some 4), .tmp 5]
def F_names_Scope_Ref : AFunc := .code c_names_Scope_Ref r_names_Scope_Ref
/- (*names.Scope).Shape -/
def c_names_Scope_Shape : AC :=
 .seq (.ops [⟨(some 4), [.c (.int .i64 0)], .p (.mov), none⟩])
 (.seq (.ops [⟨(some 8), [.t 0], .p (.mov), none⟩,
   ⟨(some 9), [.t 8], .p (.nilChk), none⟩,
   ⟨(some 10), [.t 9], .p (.fAddr 2), none⟩,
   ⟨(some 11), [.t 10], .r (.load none), none⟩,
   ⟨(some 12), [.t 1], .p (.mov), none⟩,
   ⟨(some 13), [.t 11, .t 12], .r (.lookup true true (.int .i64 0)), none⟩,
   ⟨(some 7), [.t 13], .p (.mov), none⟩,
   ⟨(some 14), [.t 7], .p (.ext 0), none⟩,
   ⟨(some 15), [.t 7], .p (.ext 1), none⟩,
   ⟨(some 5), [.t 14], .p (.mov), none⟩,
   ⟨(some 6), [.t 15], .p (.mov), none⟩])
 (.seq (.seq (.ops [⟨(some 16), [.t 6], .p (.mov), none⟩,
   ⟨(some 17), [.t 16], .p (.un .not), none⟩])
 (.cond (.t 17)
  (.seq (.ops [⟨(some 4), [.c (.int .i64 (-1))], .p (.mov), none⟩])
  (.ret))
  (.skip)))
 (.seq (.ops [⟨(some 18), [.t 5], .p (.mov), none⟩,
   ⟨(some 4), [.t 18], .p (.mov), none⟩])
 (.ret))))
def r_names_Scope_Shape : List ARes := [.tmp 4]
def F_names_Scope_Shape : AFunc := .code c_names_Scope_Shape r_names_Scope_Shape
/- glyphicref.None -/
def c_glyphicref_None : AC :=
 .seq (.ops [⟨(some 0), [], .n (.alloc [(.int .i64 0), (.bool false), (.int .i64 0)]), none⟩])
 (.seq (.ops [⟨(some 1), [], .p (.build [(.int .i64 0), (.bool false), (.int .i64 0)] []), none⟩,
   ⟨none, [.t 0, .t 1], .w (.store 3), none⟩])
 (.ret))
def r_glyphicref_None : List ARes := [.cell 0 (some 3)]
def F_glyphicref_None : AFunc := .code c_glyphicref_None r_glyphicref_None
/- glyphicref12.New -/
def c_glyphicref12_New_l0 : AC :=
 .seq (.seq (.ops [⟨(some 81), [.t 9], .p (.mov), none⟩,
        ⟨(some 82), [.t 8], .p (.mov), none⟩,
        ⟨(some 83), [.t 81, .t 82], .p (.bin .lss), none⟩])
      (.cond (.t 83)
       (.skip)
       (.exit 10)))
      (.seq (.block 11
       (.seq (.draw [(⟨(some 86), [.t 1], .p (.fAddr 5), none⟩, 0),
         (⟨(some 87), [.t 86], .r (.load none), none⟩, 0),
         (⟨(some 88), [.t 9], .p (.mov), none⟩, 0),
         (⟨(some 89), [.t 87, .t 88], .p (.iAddrS 3), none⟩, 0),
         (⟨(some 90), [.t 89], .p (.fAddr 0), none⟩, 0),
         (⟨(some 91), [.t 90], .r (.load none), none⟩, 0),
         (⟨(some 92), [.t 1], .p (.fAddr 5), none⟩, 0),
         (⟨(some 93), [.t 92], .r (.load none), none⟩, 0),
         (⟨(some 94), [.t 8], .p (.mov), none⟩, 0),
         (⟨(some 95), [.t 93, .t 94], .p (.iAddrS 3), none⟩, 0),
         (⟨(some 96), [.t 95], .p (.fAddr 0), none⟩, 0),
         (⟨(some 97), [.t 96], .r (.load none), none⟩, 0),
         (⟨(some 98), [.t 91, .t 97], .p (.bin .eql), none⟩, 0)])
       (.cond (.t 98)
        (.seq (.ops [⟨(some 99), [.t 1], .p (.fAddr 5), none⟩,
          ⟨(some 100), [.t 99], .r (.load none), none⟩,
          ⟨(some 101), [.t 8], .p (.mov), none⟩,
          ⟨(some 102), [.t 100, .t 101], .p (.iAddrS 3), none⟩,
          ⟨(some 103), [.t 102], .p (.fAddr 1), none⟩,
          ⟨(some 104), [.t 103], .r (.load none), none⟩,
          ⟨(some 105), [.c (.int .i64 103), .t 104], .w (.callF f_glyphicref_Placed), none⟩,
          ⟨(some 2), [.c (.ptr none)], .p (.mov), none⟩,
          ⟨none, [.t 3, .t 105], .w (.store 3), none⟩])
        (.ret))
        (.skip))))
      (.ops [⟨(some 84), [.t 9], .p (.mov), none⟩,
        ⟨(some 85), [.t 84, .c (.int .i64 1)], .p (.bin .add), none⟩,
        ⟨(some 9), [.t 85], .p (.mov), none⟩]))
def c_glyphicref12_New_l1 : AC :=
 .seq (.seq (.ops [⟨(some 74), [.t 8], .p (.mov), none⟩,
     ⟨(some 75), [.t 1], .p (.fAddr 5), none⟩,
     ⟨(some 76), [.t 75], .r (.load none), none⟩,
     ⟨(some 77), [.t 76], .p (.lenSl), none⟩,
     ⟨(some 78), [.t 74, .t 77], .p (.bin .lss), none⟩])
   (.cond (.t 78)
    (.skip)
    (.exit 8)))
   (.seq (.block 9
    (.seq (.ops [⟨(some 9), [.c (.int .i64 0)], .p (.mov), none⟩])
    (.block 10
     (.loop c_glyphicref12_New_l0))))
   (.ops [⟨(some 79), [.t 8], .p (.mov), none⟩,
     ⟨(some 80), [.t 79, .c (.int .i64 1)], .p (.bin .add), none⟩,
     ⟨(some 8), [.t 80], .p (.mov), none⟩]))
def c_glyphicref12_New_l2 : AC :=
 .seq (.seq (.ops [⟨(some 49), [.t 7], .p (.mov), none⟩,
        ⟨(some 50), [.t 6], .p (.mov), none⟩,
        ⟨(some 51), [.t 49, .t 50], .p (.bin .lss), none⟩])
      (.cond (.t 51)
       (.skip)
       (.exit 6)))
      (.seq (.block 7
       (.seq (.draw [(⟨(some 54), [.t 1], .p (.fAddr 4), none⟩, 0),
         (⟨(some 55), [.t 54], .r (.load none), none⟩, 0),
         (⟨(some 56), [.t 7], .p (.mov), none⟩, 0),
         (⟨(some 57), [.t 55, .t 56], .p (.iAddrS 6), none⟩, 0),
         (⟨(some 58), [.t 57], .p (.fAddr 0), none⟩, 0),
         (⟨(some 59), [.t 58], .r (.load none), none⟩, 0),
         (⟨(some 60), [.t 1], .p (.fAddr 4), none⟩, 0),
         (⟨(some 61), [.t 60], .r (.load none), none⟩, 0),
         (⟨(some 62), [.t 6], .p (.mov), none⟩, 0),
         (⟨(some 63), [.t 61, .t 62], .p (.iAddrS 6), none⟩, 0),
         (⟨(some 64), [.t 63], .p (.fAddr 0), none⟩, 0),
         (⟨(some 65), [.t 64], .r (.load none), none⟩, 0),
         (⟨(some 66), [.t 59, .t 65], .p (.bin .eql), none⟩, 0)])
       (.cond (.t 66)
        (.seq (.ops [⟨(some 67), [.t 1], .p (.fAddr 4), none⟩,
          ⟨(some 68), [.t 67], .r (.load none), none⟩,
          ⟨(some 69), [.t 6], .p (.mov), none⟩,
          ⟨(some 70), [.t 68, .t 69], .p (.iAddrS 6), none⟩,
          ⟨(some 71), [.t 70], .p (.fAddr 5), none⟩,
          ⟨(some 72), [.t 71], .r (.load none), none⟩,
          ⟨(some 73), [.c (.int .i64 103), .t 72], .w (.callF f_glyphicref_Placed), none⟩,
          ⟨(some 2), [.c (.ptr none)], .p (.mov), none⟩,
          ⟨none, [.t 3, .t 73], .w (.store 3), none⟩])
        (.ret))
        (.skip))))
      (.ops [⟨(some 52), [.t 7], .p (.mov), none⟩,
        ⟨(some 53), [.t 52, .c (.int .i64 1)], .p (.bin .add), none⟩,
        ⟨(some 7), [.t 53], .p (.mov), none⟩]))
def c_glyphicref12_New_l3 : AC :=
 .seq (.seq (.ops [⟨(some 42), [.t 6], .p (.mov), none⟩,
     ⟨(some 43), [.t 1], .p (.fAddr 4), none⟩,
     ⟨(some 44), [.t 43], .r (.load none), none⟩,
     ⟨(some 45), [.t 44], .p (.lenSl), none⟩,
     ⟨(some 46), [.t 42, .t 45], .p (.bin .lss), none⟩])
   (.cond (.t 46)
    (.skip)
    (.exit 4)))
   (.seq (.block 5
    (.seq (.ops [⟨(some 7), [.c (.int .i64 0)], .p (.mov), none⟩])
    (.block 6
     (.loop c_glyphicref12_New_l2))))
   (.ops [⟨(some 47), [.t 6], .p (.mov), none⟩,
     ⟨(some 48), [.t 47, .c (.int .i64 1)], .p (.bin .add), none⟩,
     ⟨(some 6), [.t 48], .p (.mov), none⟩]))
def c_glyphicref12_New_l4 : AC :=
 .seq (.seq (.ops [⟨(some 17), [.t 5], .p (.mov), none⟩,
        ⟨(some 18), [.t 4], .p (.mov), none⟩,
        ⟨(some 19), [.t 17, .t 18], .p (.bin .lss), none⟩])
      (.cond (.t 19)
       (.skip)
       (.exit 2)))
      (.seq (.block 3
       (.seq (.draw [(⟨(some 22), [.t 1], .p (.fAddr 3), none⟩, 0),
         (⟨(some 23), [.t 22], .r (.load none), none⟩, 0),
         (⟨(some 24), [.t 5], .p (.mov), none⟩, 0),
         (⟨(some 25), [.t 23, .t 24], .p (.iAddrS 3), none⟩, 0),
         (⟨(some 26), [.t 25], .p (.fAddr 0), none⟩, 0),
         (⟨(some 27), [.t 26], .r (.load none), none⟩, 0),
         (⟨(some 28), [.t 1], .p (.fAddr 3), none⟩, 0),
         (⟨(some 29), [.t 28], .r (.load none), none⟩, 0),
         (⟨(some 30), [.t 4], .p (.mov), none⟩, 0),
         (⟨(some 31), [.t 29, .t 30], .p (.iAddrS 3), none⟩, 0),
         (⟨(some 32), [.t 31], .p (.fAddr 0), none⟩, 0),
         (⟨(some 33), [.t 32], .r (.load none), none⟩, 0),
         (⟨(some 34), [.t 27, .t 33], .p (.bin .eql), none⟩, 0)])
       (.cond (.t 34)
        (.seq (.ops [⟨(some 35), [.t 1], .p (.fAddr 3), none⟩,
          ⟨(some 36), [.t 35], .r (.load none), none⟩,
          ⟨(some 37), [.t 4], .p (.mov), none⟩,
          ⟨(some 38), [.t 36, .t 37], .p (.iAddrS 3), none⟩,
          ⟨(some 39), [.t 38], .p (.fAddr 2), none⟩,
          ⟨(some 40), [.t 39], .r (.load none), none⟩,
          ⟨(some 41), [.c (.int .i64 103), .t 40], .w (.callF f_glyphicref_Placed), none⟩,
          ⟨(some 2), [.c (.ptr none)], .p (.mov), none⟩,
          ⟨none, [.t 3, .t 41], .w (.store 3), none⟩])
        (.ret))
        (.skip))))
      (.ops [⟨(some 20), [.t 5], .p (.mov), none⟩,
        ⟨(some 21), [.t 20, .c (.int .i64 1)], .p (.bin .add), none⟩,
        ⟨(some 5), [.t 21], .p (.mov), none⟩]))
def c_glyphicref12_New_l5 : AC :=
 .seq (.seq (.ops [⟨(some 10), [.t 4], .p (.mov), none⟩,
     ⟨(some 11), [.t 1], .p (.fAddr 3), none⟩,
     ⟨(some 12), [.t 11], .r (.load none), none⟩,
     ⟨(some 13), [.t 12], .p (.lenSl), none⟩,
     ⟨(some 14), [.t 10, .t 13], .p (.bin .lss), none⟩])
   (.cond (.t 14)
    (.skip)
    (.exit 0)))
   (.seq (.block 1
    (.seq (.ops [⟨(some 5), [.c (.int .i64 0)], .p (.mov), none⟩])
    (.block 2
     (.loop c_glyphicref12_New_l4))))
   (.ops [⟨(some 15), [.t 4], .p (.mov), none⟩,
     ⟨(some 16), [.t 15, .c (.int .i64 1)], .p (.bin .add), none⟩,
     ⟨(some 4), [.t 16], .p (.mov), none⟩]))
def c_glyphicref12_New : AC :=
 .seq (.ops [⟨(some 1), [.t 0], .n (.box), none⟩,
   ⟨(some 2), [.c (.ptr none)], .p (.mov), none⟩,
   ⟨(some 3), [], .n (.alloc [(.int .i64 0), (.bool false), (.int .i64 0)]), none⟩])
 (.seq (.seq (.ops [⟨(some 4), [.c (.int .i64 0)], .p (.mov), none⟩])
 (.block 0
  (.loop c_glyphicref12_New_l5)))
 (.seq (.seq (.ops [⟨(some 6), [.c (.int .i64 0)], .p (.mov), none⟩])
 (.block 4
  (.loop c_glyphicref12_New_l3)))
 (.seq (.seq (.ops [⟨(some 8), [.c (.int .i64 0)], .p (.mov), none⟩])
 (.block 8
  (.loop c_glyphicref12_New_l1)))
 (.seq (.draw [(⟨(some 109), [], .w (.callF f_glyphicref_None), none⟩, 0),
   (⟨(some 106), [.t 1], .r (.load (some 7)), none⟩, 1),
   (⟨(some 107), [.t 106], .p (.build [(.int .i64 0), (.int .i64 0), (.int .i64 0), (.slice none 0 (.exact 0)), (.slice none 0 (.exact 0)), (.slice none 0 (.exact 0)), (.slice none 0 (.exact 0))] [(0, 7)]), none⟩, 0),
   (⟨(some 108), [.t 107], .n (.box), none⟩, 0),
   (⟨(some 2), [.t 108], .p (.mov), none⟩, 0),
   (⟨none, [.t 3, .t 109], .w (.store 3), none⟩, 0)])
 (.ret)))))
def r_glyphicref12_New : List ARes := [.tmp 2, .cell 3 (some 3)]
def F_glyphicref12_New : AFunc := .code c_glyphicref12_New r_glyphicref12_New
/- glyphicref.SameFault -/
def c_glyphicref_SameFault : AC :=
 .seq (.ops [⟨(some 2), [.t 0], .n (.box), none⟩,
   ⟨(some 3), [.t 1], .n (.box), none⟩,
   ⟨(some 4), [.c (.bool false)], .p (.mov), none⟩])
 (.seq (.ops [⟨(some 5), [.t 2], .p (.fAddr 0), none⟩,
   ⟨(some 6), [.t 5], .r (.load none), none⟩,
   ⟨(some 7), [.t 3], .p (.fAddr 0), none⟩,
   ⟨(some 8), [.t 7], .r (.load none), none⟩,
   ⟨(some 9), [.t 6, .t 8], .p (.bin .eql), none⟩,
   ⟨(some 10), [.t 9], .p (.mov), none⟩,
   ⟨(some 11), [.t 2], .p (.fAddr 1), some (10, true)⟩,
   ⟨(some 12), [.t 11], .r (.load none), some (10, true)⟩,
   ⟨(some 13), [.t 3], .p (.fAddr 1), some (10, true)⟩,
   ⟨(some 14), [.t 13], .r (.load none), some (10, true)⟩,
   ⟨(some 15), [.t 12, .t 14], .r (.eq false .bool), some (10, true)⟩,
   ⟨(some 16), [.t 10, .t 15, .c (.bool false)], .p (.pick), none⟩,
   ⟨(some 17), [.t 16], .p (.mov), none⟩,
   ⟨(some 18), [.t 2], .p (.fAddr 2), some (17, true)⟩,
   ⟨(some 19), [.t 18], .r (.load none), some (17, true)⟩,
   ⟨(some 20), [.t 3], .p (.fAddr 2), some (17, true)⟩,
   ⟨(some 21), [.t 20], .r (.load none), some (17, true)⟩,
   ⟨(some 22), [.t 19, .t 21], .p (.bin .eql), some (17, true)⟩,
   ⟨(some 23), [.t 17, .t 22, .c (.bool false)], .p (.pick), none⟩,
   ⟨(some 4), [.t 23], .p (.mov), none⟩])
 (.ret))
def r_glyphicref_SameFault : List ARes := [.tmp 4]
def F_glyphicref_SameFault : AFunc := .code c_glyphicref_SameFault r_glyphicref_SameFault
/- names.Check -/
def c_names_Check_l0 : AC :=
 .seq (.ops [⟨(some 40), [.t 39, .t 38], .p (.bin .lss), none⟩])
   (.seq (.cond (.t 40)
    (.skip)
    (.exit 2))
   (.seq (.block 3
    (.seq (.ops [⟨(some 41), [.t 37, .t 39], .p (.iAddrS 32), none⟩,
      ⟨(some 42), [.t 41], .r (.load (some 32)), none⟩,
      ⟨(some 9), [], .n (.alloc [(.int .i64 0), (.int .i64 0), (.int .i64 0), (.str []), (.int .i64 0), (.int .i64 0), (.int .i64 0), (.str []), (.int .u8 0), (.int .u8 0), (.int .u8 0), (.int .u8 0), (.int .i64 0), (.str []), (.int .u8 0), (.int .u8 0), (.int .u8 0), (.int .u8 0), (.int .i64 0), (.str []), (.int .i64 0), (.int .i64 0), (.str []), (.int .i64 0), (.int .i64 0), (.str []), (.int .i64 0), (.int .i64 0), (.str []), (.int .i64 0), (.int .i64 0), (.slice none 0 (.exact 0))]), none⟩,
      ⟨none, [.t 9, .t 42], .w (.store 32), none⟩])
    (.seq (.ops [⟨(some 43), [.t 3], .p (.mov), none⟩,
      ⟨(some 44), [.t 9], .r (.load (some 32)), none⟩,
      ⟨(some 45), [.t 1], .p (.fAddr 5), none⟩,
      ⟨(some 46), [.t 45], .r (.load none), none⟩,
      ⟨(some 47), [.t 46], .p (.lenSl), none⟩,
      ⟨(some 48), [.t 43, .t 44, .t 47], .w (.callF f_names_Scope_cmd), none⟩,
      ⟨(some 10), [.t 48], .p (.mov), none⟩])
    (.seq (.ops [⟨(some 49), [.t 10], .p (.mov), none⟩,
      ⟨(some 50), [.t 49, .c .nilIface], .r (.eq true (.iface [t_p_api_At, t_p_errors_errorString] true)), none⟩])
    (.cond (.t 50)
     (.seq (.ops [⟨(some 51), [.t 10], .p (.mov), none⟩,
       ⟨(some 2), [.t 51], .p (.mov), none⟩])
     (.ret))
     (.skip))))))
   (.ops [⟨(some 52), [.t 39, .c (.int .i64 1)], .p (.bin .add), none⟩,
     ⟨(some 39), [.t 52], .p (.mov), none⟩])))
def c_names_Check_l1 : AC :=
 .seq (.ops [⟨(some 23), [.t 22, .t 21], .p (.bin .lss), none⟩])
   (.seq (.cond (.t 23)
    (.skip)
    (.exit 0))
   (.seq (.block 1
    (.seq (.ops [⟨(some 24), [.t 22], .p (.mov), none⟩,
      ⟨(some 25), [.t 20, .t 22], .p (.iAddrS 3), none⟩,
      ⟨(some 26), [.t 25], .r (.load (some 3)), none⟩,
      ⟨(some 6), [], .n (.alloc [(.str []), (.int .i64 0), (.slice none 0 (.exact 0))]), none⟩,
      ⟨(some 5), [.t 24], .p (.mov), none⟩,
      ⟨none, [.t 6, .t 26], .w (.store 3), none⟩])
    (.seq (.ops [⟨(some 27), [.t 3], .p (.mov), none⟩,
      ⟨(some 28), [.t 6], .p (.fAddr 2), none⟩,
      ⟨(some 29), [.t 28], .r (.load none), none⟩,
      ⟨(some 30), [.t 5], .p (.mov), none⟩,
      ⟨(some 31), [.t 27, .t 29, .t 30], .w (.callF f_names_Scope_items), none⟩,
      ⟨(some 7), [.t 31], .p (.mov), none⟩])
    (.seq (.ops [⟨(some 32), [.t 7], .p (.mov), none⟩,
      ⟨(some 33), [.t 32, .c .nilIface], .r (.eq true (.iface [t_p_api_At, t_p_errors_errorString] true)), none⟩])
    (.cond (.t 33)
     (.seq (.ops [⟨(some 34), [.t 7], .p (.mov), none⟩,
       ⟨(some 2), [.t 34], .p (.mov), none⟩])
     (.ret))
     (.skip))))))
   (.ops [⟨(some 35), [.t 22, .c (.int .i64 1)], .p (.bin .add), none⟩,
     ⟨(some 22), [.t 35], .p (.mov), none⟩])))
def c_names_Check : AC :=
 .seq (.ops [⟨(some 1), [.t 0], .n (.box), none⟩,
   ⟨(some 2), [.c .nilIface], .p (.mov), none⟩])
 (.seq (.ops [⟨(some 12), [.t 1], .r (.load (some 7)), none⟩,
   ⟨(some 13), [.t 12], .w (.callF f_names_New), none⟩,
   ⟨(some 11), [.t 13], .p (.mov), none⟩,
   ⟨(some 14), [.t 11], .p (.ext 0), none⟩,
   ⟨(some 15), [.t 11], .p (.ext 1), none⟩,
   ⟨(some 3), [.t 14], .p (.mov), none⟩,
   ⟨(some 4), [.t 15], .p (.mov), none⟩])
 (.seq (.seq (.ops [⟨(some 16), [.t 4], .p (.mov), none⟩,
   ⟨(some 17), [.t 16, .c .nilIface], .r (.eq true (.iface [t_p_api_At, t_p_errors_errorString] true)), none⟩])
 (.cond (.t 17)
  (.seq (.ops [⟨(some 18), [.t 4], .p (.mov), none⟩,
    ⟨(some 2), [.t 18], .p (.mov), none⟩])
  (.ret))
  (.skip)))
 (.seq (.seq (.ops [⟨(some 19), [.t 1], .p (.fAddr 5), none⟩,
   ⟨(some 20), [.t 19], .r (.load none), none⟩,
   ⟨(some 21), [.t 20], .p (.lenSl), none⟩,
   ⟨(some 22), [.c (.int .i64 0)], .p (.mov), none⟩])
 (.block 0
  (.loop c_names_Check_l1)))
 (.seq (.seq (.ops [⟨(some 36), [.t 1], .p (.fAddr 6), none⟩,
   ⟨(some 37), [.t 36], .r (.load none), none⟩,
   ⟨(some 38), [.t 37], .p (.lenSl), none⟩,
   ⟨(some 39), [.c (.int .i64 0)], .p (.mov), none⟩])
 (.block 2
  (.loop c_names_Check_l0)))
 (.seq (.ops [⟨(some 2), [.c .nilIface], .p (.mov), none⟩])
 (.ret))))))
def r_names_Check : List ARes := [.tmp 2]
def F_names_Check : AFunc := .code c_names_Check r_names_Check
/- glyphicref.Bare -/
def c_glyphicref_Bare : AC :=
 .seq (.ops [⟨(some 2), [], .n (.alloc [(.int .i64 0), (.bool false), (.int .i64 0)]), none⟩])
 (.seq (.ops [⟨(some 3), [.t 0], .p (.mov), none⟩,
   ⟨(some 4), [.t 3], .p (.build [(.int .i64 0), (.bool false), (.int .i64 0)] [(0, 1)]), none⟩,
   ⟨none, [.t 2, .t 4], .w (.store 3), none⟩])
 (.ret))
def r_glyphicref_Bare : List ARes := [.cell 2 (some 3)]
def F_glyphicref_Bare : AFunc := .code c_glyphicref_Bare r_glyphicref_Bare
/- glyphicsee.Fault -/
def c_glyphicsee_Fault : AC :=
 .seq (.ops [⟨(some 2), [], .n (.alloc [(.int .i64 0), (.bool false), (.int .i64 0)]), none⟩])
 (.seq (.seq (.ops [⟨(some 5), [.t 0], .p (.mov), none⟩,
   ⟨(some 6), [.t 5, .c .nilIface], .r (.eq false (.iface [t_p_api_At, t_p_errors_errorString] true)), none⟩])
 (.cond (.t 6)
  (.seq (.ops [⟨(some 7), [], .w (.callF f_glyphicref_None), none⟩,
    ⟨none, [.t 2, .t 7], .w (.store 3), none⟩])
  (.ret))
  (.skip)))
 (.seq (.ops [⟨(some 9), [.t 0], .p (.mov), none⟩,
   ⟨(some 10), [.t 9], .p (.tAss t_p_api_At true (.ptr none)), none⟩,
   ⟨(some 8), [.t 10], .p (.mov), none⟩,
   ⟨(some 11), [.t 8], .p (.ext 0), none⟩,
   ⟨(some 12), [.t 8], .p (.ext 1), none⟩,
   ⟨(some 3), [.t 11], .p (.mov), none⟩,
   ⟨(some 4), [.t 12], .p (.mov), none⟩])
 (.seq (.seq (.ops [⟨(some 13), [.t 4], .p (.mov), none⟩,
   ⟨(some 14), [.t 13], .p (.un .not), none⟩])
 (.cond (.t 14)
  (.seq (.ops [⟨(some 15), [.t 0], .p (.mov), none⟩,
    ⟨(some 16), [.t 15], .w (.callF f_glyphicsee_sentinel), none⟩,
    ⟨(some 17), [.t 16], .w (.callF f_glyphicref_Bare), none⟩,
    ⟨none, [.t 2, .t 17], .w (.store 3), none⟩])
  (.ret))
  (.skip)))
 (.seq (.seq (.ops [⟨(some 18), [.t 3], .p (.mov), none⟩,
   ⟨(some 19), [.t 18, .c (.ptr none)], .r (.eq false .ptr), none⟩,
   ⟨(some 20), [.t 19], .p (.mov), none⟩,
   ⟨(some 21), [.t 3], .p (.mov), some (20, false)⟩,
   ⟨(some 22), [.t 21], .p (.nilChk), some (20, false)⟩,
   ⟨(some 23), [.t 22], .p (.fAddr 1), some (20, false)⟩,
   ⟨(some 24), [.t 23], .r (.load none), some (20, false)⟩,
   ⟨(some 25), [.t 24, .c .nilIface], .r (.eq false (.iface [t_p_api_At, t_p_errors_errorString] true)), some (20, false)⟩,
   ⟨(some 26), [.t 20, .c (.bool true), .t 25], .p (.pick), none⟩])
 (.cond (.t 26)
  (.seq (.ops [⟨(some 27), [.c (.int .i64 (-1))], .w (.callF f_glyphicref_Bare), none⟩,
    ⟨none, [.t 2, .t 27], .w (.store 3), none⟩])
  (.ret))
  (.skip)))
 (.seq (.draw [(⟨(some 28), [.t 3], .p (.mov), none⟩, 0),
   (⟨(some 29), [.t 28], .p (.nilChk), none⟩, 0),
   (⟨(some 30), [.t 29], .p (.fAddr 1), none⟩, 0),
   (⟨(some 31), [.t 30], .r (.load none), none⟩, 0),
   (⟨(some 32), [.t 31], .w (.callF f_glyphicsee_sentinel), none⟩, 0),
   (⟨(some 33), [.t 3], .p (.mov), none⟩, 0),
   (⟨(some 34), [.t 33], .p (.nilChk), none⟩, 0),
   (⟨(some 35), [.t 34], .p (.fAddr 0), none⟩, 0),
   (⟨(some 36), [.t 35], .r (.load none), none⟩, 1),
   (⟨(some 37), [.t 32, .t 36], .w (.callF f_glyphicref_Placed), none⟩, 0),
   (⟨none, [.t 2, .t 37], .w (.store 3), none⟩, 0)])
 (.ret))))))
def r_glyphicsee_Fault : List ARes := [.cell 2 (some 3)]
def F_glyphicsee_Fault : AFunc := .code c_glyphicsee_Fault r_glyphicsee_Fault
/- names.first[int64] -/
def c_names_first__int64 : AC :=
 .seq (.ops [⟨(some 8), [.c .nilIface], .p (.mov), none⟩])
 (.seq (.seq (.ops [⟨(some 12), [.t 0], .p (.mov), none⟩,
   ⟨(some 13), [.t 1], .p (.mov), none⟩,
   ⟨(some 14), [.t 12, .t 13], .r (.lookup true true (.int .i64 0)), none⟩,
   ⟨(some 11), [.t 14], .p (.mov), none⟩,
   ⟨(some 15), [.t 11], .p (.ext 0), none⟩,
   ⟨(some 16), [.t 11], .p (.ext 1), none⟩,
   ⟨(some 9), [.t 15], .p (.mov), none⟩,
   ⟨(some 10), [.t 16], .p (.mov), none⟩])
 (.seq (.ops [⟨(some 17), [.t 10], .p (.mov), none⟩])
 (.cond (.t 17)
  (.seq (.ops [⟨(some 18), [.t 3], .p (.mov), none⟩,
    ⟨(some 19), [.c (.ptr (some (g_ErrTwice, 0)))], .r (.load none), none⟩,
    ⟨(some 20), [.t 18, .t 19], .p (.build [(.int .i64 0), .nilIface] [(0, 1), (1, 1)]), none⟩,
    ⟨(some 21), [.t 20], .n (.box), none⟩,
    ⟨(some 22), [.t 21], .p (.mkI t_p_api_At), none⟩,
    ⟨(some 8), [.t 22], .p (.mov), none⟩])
  (.ret))
  (.skip))))
 (.seq (.ops [⟨(some 23), [.t 0], .p (.mov), none⟩,
   ⟨(some 24), [.t 1], .p (.mov), none⟩,
   ⟨(some 25), [.t 2], .p (.mov), none⟩,
   ⟨none, [.t 23, .t 24, .t 25], .w (.mapUpd true), none⟩])
 (.seq (.ops [⟨(some 8), [.c .nilIface], .p (.mov), none⟩])
 (.ret))))
def r_names_first__int64 : List ARes := [.tmp 8]
def F_names_first__int64 : AFunc := .code c_names_first__int64 r_names_first__int64
/- names.first[api.Color] -/
def c_names_first__api_Color : AC :=
 .seq (.ops [⟨(some 6), [.t 2], .n (.box), none⟩,
   ⟨(some 8), [.c .nilIface], .p (.mov), none⟩])
 (.seq (.seq (.ops [⟨(some 12), [.t 0], .p (.mov), none⟩,
   ⟨(some 13), [.t 1], .p (.mov), none⟩,
   ⟨(some 14), [.t 12, .t 13], .r (.lookup true true (.agg [(.int .u8 0), (.int .u8 0), (.int .u8 0), (.int .u8 0)])), none⟩,
   ⟨(some 11), [.t 14], .p (.mov), none⟩,
   ⟨(some 15), [.t 11], .p (.ext 0), none⟩,
   ⟨(some 16), [.t 11], .p (.ext 1), none⟩,
   ⟨(some 9), [], .n (.alloc [(.int .u8 0), (.int .u8 0), (.int .u8 0), (.int .u8 0)]), none⟩,
   ⟨none, [.t 9, .t 15], .w (.store 4), none⟩,
   ⟨(some 10), [.t 16], .p (.mov), none⟩])
 (.seq (.ops [⟨(some 17), [.t 10], .p (.mov), none⟩])
 (.cond (.t 17)
  (.seq (.ops [⟨(some 18), [.t 3], .p (.mov), none⟩,
    ⟨(some 19), [.c (.ptr (some (g_ErrTwice, 0)))], .r (.load none), none⟩,
    ⟨(some 20), [.t 18, .t 19], .p (.build [(.int .i64 0), .nilIface] [(0, 1), (1, 1)]), none⟩,
    ⟨(some 21), [.t 20], .n (.box), none⟩,
    ⟨(some 22), [.t 21], .p (.mkI t_p_api_At), none⟩,
    ⟨(some 8), [.t 22], .p (.mov), none⟩])
  (.ret))
  (.skip))))
 (.seq (.ops [⟨(some 23), [.t 0], .p (.mov), none⟩,
   ⟨(some 24), [.t 1], .p (.mov), none⟩,
   ⟨(some 25), [.t 6], .r (.load (some 4)), none⟩,
   ⟨none, [.t 23, .t 24, .t 25], .w (.mapUpd true), none⟩])
 (.seq (.ops [⟨(some 8), [.c .nilIface], .p (.mov), none⟩])
 (.ret))))
def r_names_first__api_Color : List ARes := [.tmp 8]
def F_names_first__api_Color : AFunc := .code c_names_first__api_Color r_names_first__api_Color
/- names.first[int] -/
def c_names_first__int : AC :=
 .seq (.ops [⟨(some 8), [.c .nilIface], .p (.mov), none⟩])
 (.seq (.seq (.ops [⟨(some 12), [.t 0], .p (.mov), none⟩,
   ⟨(some 13), [.t 1], .p (.mov), none⟩,
   ⟨(some 14), [.t 12, .t 13], .r (.lookup true true (.int .i64 0)), none⟩,
   ⟨(some 11), [.t 14], .p (.mov), none⟩,
   ⟨(some 15), [.t 11], .p (.ext 0), none⟩,
   ⟨(some 16), [.t 11], .p (.ext 1), none⟩,
   ⟨(some 9), [.t 15], .p (.mov), none⟩,
   ⟨(some 10), [.t 16], .p (.mov), none⟩])
 (.seq (.ops [⟨(some 17), [.t 10], .p (.mov), none⟩])
 (.cond (.t 17)
  (.seq (.ops [⟨(some 18), [.t 3], .p (.mov), none⟩,
    ⟨(some 19), [.c (.ptr (some (g_ErrTwice, 0)))], .r (.load none), none⟩,
    ⟨(some 20), [.t 18, .t 19], .p (.build [(.int .i64 0), .nilIface] [(0, 1), (1, 1)]), none⟩,
    ⟨(some 21), [.t 20], .n (.box), none⟩,
    ⟨(some 22), [.t 21], .p (.mkI t_p_api_At), none⟩,
    ⟨(some 8), [.t 22], .p (.mov), none⟩])
  (.ret))
  (.skip))))
 (.seq (.ops [⟨(some 23), [.t 0], .p (.mov), none⟩,
   ⟨(some 24), [.t 1], .p (.mov), none⟩,
   ⟨(some 25), [.t 2], .p (.mov), none⟩,
   ⟨none, [.t 23, .t 24, .t 25], .w (.mapUpd true), none⟩])
 (.seq (.ops [⟨(some 8), [.c .nilIface], .p (.mov), none⟩])
 (.ret))))
def r_names_first__int : List ARes := [.tmp 8]
def F_names_first__int : AFunc := .code c_names_first__int r_names_first__int
/- glyphicsee.sentinel -/
def c_glyphicsee_sentinel_l0 : AC :=
 .seq (.seq (.ops [⟨(some 6), [.t 4], .p (.mov), none⟩,
     ⟨(some 7), [.t 3], .p (.mov), none⟩,
     ⟨(some 8), [.t 7], .p (.lenSl), none⟩,
     ⟨(some 9), [.t 6, .t 8], .p (.bin .lss), none⟩])
   (.cond (.t 9)
    (.skip)
    (.exit 0)))
   (.seq (.block 1
    (.seq (.ops [⟨(some 12), [.t 0], .p (.mov), none⟩,
      ⟨(some 13), [.t 3], .p (.mov), none⟩,
      ⟨(some 14), [.t 4], .p (.mov), none⟩,
      ⟨(some 15), [.t 13, .t 14], .p (.iAddrS 1), none⟩,
      ⟨(some 16), [.t 15], .r (.load none), none⟩,
      ⟨(some 17), [.t 12, .t 16], .w (.callF f_glyphicsee_Alike), none⟩])
    (.cond (.t 17)
     (.seq (.ops [⟨(some 18), [.t 4], .p (.mov), none⟩,
       ⟨(some 19), [.c (.int .i64 101), .t 18], .p (.bin .add), none⟩,
       ⟨(some 2), [.t 19], .p (.mov), none⟩])
     (.ret))
     (.skip))))
   (.ops [⟨(some 10), [.t 4], .p (.mov), none⟩,
     ⟨(some 11), [.t 10, .c (.int .i64 1)], .p (.bin .add), none⟩,
     ⟨(some 4), [.t 11], .p (.mov), none⟩]))
def c_glyphicsee_sentinel : AC :=
 .seq (.ops [⟨(some 2), [.c (.int .i64 0)], .p (.mov), none⟩])
 (.seq (.ops [⟨(some 5), [], .w (.callF f_glyphicsee_sentinels), none⟩,
   ⟨(some 3), [.t 5], .p (.mov), none⟩])
 (.seq (.seq (.ops [⟨(some 4), [.c (.int .i64 0)], .p (.mov), none⟩])
 (.block 0
  (.loop c_glyphicsee_sentinel_l0)))
 (.seq (.ops [⟨(some 2), [.c (.int .i64 (-1))], .p (.mov), none⟩])
 (.ret))))
def r_glyphicsee_sentinel : List ARes := [.tmp 2]
def F_glyphicsee_sentinel : AFunc := .code c_glyphicsee_sentinel r_glyphicsee_sentinel
/- glyphicsee.sentinels -/
def c_glyphicsee_sentinels : AC :=
 .seq (.ops [⟨(some 0), [.c (.slice none 0 (.exact 0))], .p (.mov), none⟩])
 (.seq (.ops [⟨(some 1), [.c (.ptr (some (g_ErrText, 0)))], .r (.load none), none⟩,
   ⟨(some 2), [.c (.ptr (some (g_ErrName, 0)))], .r (.load none), none⟩,
   ⟨(some 3), [.c (.ptr (some (g_ErrTwice, 0)))], .r (.load none), none⟩,
   ⟨(some 4), [.c (.ptr (some (g_ErrPath, 0)))], .r (.load none), none⟩,
   ⟨(some 5), [.c (.ptr (some (g_ErrRange, 0)))], .r (.load none), none⟩,
   ⟨(some 6), [.c (.ptr (some (g_ErrLimit, 0)))], .r (.load none), none⟩,
   ⟨(some 7), [.c (.ptr (some (g_ErrShort, 0)))], .r (.load none), none⟩,
   ⟨(some 8), [.c (.ptr (some (g_ErrMagic, 0)))], .r (.load none), none⟩,
   ⟨(some 9), [.c (.ptr (some (g_ErrVarint, 0)))], .r (.load none), none⟩,
   ⟨(some 10), [.c (.ptr (some (g_ErrCanon, 0)))], .r (.load none), none⟩,
   ⟨(some 11), [.c (.ptr (some (g_ErrTrail, 0)))], .r (.load none), none⟩,
   ⟨(some 12), [.c (.ptr (some (g_ErrWidth, 0)))], .r (.load none), none⟩,
   ⟨(some 13), [.c (.ptr (some (g_ErrBudget, 0)))], .r (.load none), none⟩,
   ⟨(some 14), [.t 1, .t 2, .t 3, .t 4, .t 5, .t 6, .t 7, .t 8, .t 9, .t 10, .t 11, .t 12, .t 13], .n (.bslice 13 [.nilIface, .nilIface, .nilIface, .nilIface, .nilIface, .nilIface, .nilIface, .nilIface, .nilIface, .nilIface, .nilIface, .nilIface, .nilIface] [(0, 1), (1, 1), (2, 1), (3, 1), (4, 1), (5, 1), (6, 1), (7, 1), (8, 1), (9, 1), (10, 1), (11, 1), (12, 1)]), none⟩,
   ⟨(some 0), [.t 14], .p (.mov), none⟩])
 (.ret))
def r_glyphicsee_sentinels : List ARes := [.tmp 0]
def F_glyphicsee_sentinels : AFunc := .code c_glyphicsee_sentinels r_glyphicsee_sentinels
/- glyphicsee.Alike -/
def c_glyphicsee_Alike : AC :=
 .seq (.ops [⟨(some 4), [.c (.bool false)], .p (.mov), none⟩])
 (.seq (.seq (.ops [⟨(some 5), [.t 0], .p (.mov), none⟩,
   ⟨(some 6), [.t 5, .c .nilIface], .r (.eq false (.iface [t_p_api_At, t_p_errors_errorString] true)), none⟩,
   ⟨(some 7), [.t 6], .p (.mov), none⟩,
   ⟨(some 8), [.t 1], .p (.mov), some (7, false)⟩,
   ⟨(some 9), [.t 8, .c .nilIface], .r (.eq false (.iface [t_p_api_At, t_p_errors_errorString] true)), some (7, false)⟩,
   ⟨(some 10), [.t 7, .c (.bool true), .t 9], .p (.pick), none⟩])
 (.cond (.t 10)
  (.seq (.ops [⟨(some 11), [.t 0], .p (.mov), none⟩,
    ⟨(some 12), [.t 11, .c .nilIface], .r (.eq false (.iface [t_p_api_At, t_p_errors_errorString] true)), none⟩,
    ⟨(some 13), [.t 12], .p (.mov), none⟩,
    ⟨(some 14), [.t 1], .p (.mov), some (13, true)⟩,
    ⟨(some 15), [.t 14, .c .nilIface], .r (.eq false (.iface [t_p_api_At, t_p_errors_errorString] true)), some (13, true)⟩,
    ⟨(some 16), [.t 13, .t 15, .c (.bool false)], .p (.pick), none⟩,
    ⟨(some 4), [.t 16], .p (.mov), none⟩])
  (.ret))
  (.skip)))
 (.seq (.ops [⟨(some 17), [.t 0], .p (.mov), none⟩,
   ⟨(some 18), [.t 1], .p (.mov), none⟩,
   ⟨(some 19), [.t 17, .t 18], .r (.eq false (.iface [t_p_api_At, t_p_errors_errorString] false)), none⟩,
   ⟨(some 4), [.t 19], .p (.mov), none⟩])
 (.ret)))
def r_glyphicsee_Alike : List ARes := [.tmp 4]
def F_glyphicsee_Alike : AFunc := .code c_glyphicsee_Alike r_glyphicsee_Alike
def cfg : Cfg := ⟨[(0, 0), (3, 2), (4, 4), (6, 6), (7, 8), (8, 10), (1, 12), (9, 14), (2, 16), (10, 18), (11, 20), (12, 22), (13, 24)], [t_p_api_At, t_p_errors_errorString]⟩
def envL : List (Nat × AFunc) := [(f_glyphiclaw12_NamesTwice, F_glyphiclaw12_NamesTwice), (f_color_Show, F_color_Show), (f_glyphicref_SameColor, F_glyphicref_SameColor), (f_glyphicsee_Is, F_glyphicsee_Is), (f_color_Wide, F_color_Wide), (f_glyphicsee_Same, F_glyphicsee_Same), (f_glyphicref_Placed, F_glyphicref_Placed), (f_glyphiclaw12_first, F_glyphiclaw12_first), (f_names_New, F_names_New), (f_names_Scope_Val, F_names_Scope_Val), (f_names_Scope_Ref, F_names_Scope_Ref), (f_names_Scope_Shape, F_names_Scope_Shape), (f_glyphicref_None, F_glyphicref_None), (f_glyphicref12_New, F_glyphicref12_New), (f_glyphicref_SameFault, F_glyphicref_SameFault), (f_names_Check, F_names_Check), (f_glyphicref_Bare, F_glyphicref_Bare), (f_glyphicsee_Fault, F_glyphicsee_Fault), (f_names_first__int64, F_names_first__int64), (f_names_first__api_Color, F_names_first__api_Color), (f_names_first__int, F_names_first__int), (f_glyphicsee_sentinel, F_glyphicsee_sentinel), (f_glyphicsee_sentinels, F_glyphicsee_sentinels), (f_glyphicsee_Alike, F_glyphicsee_Alike)]
theorem E_glyphiclaw12_NamesTwice : lookE envL f_glyphiclaw12_NamesTwice = some F_glyphiclaw12_NamesTwice := rfl
theorem E_color_Show : lookE envL f_color_Show = some F_color_Show := rfl
theorem E_glyphicref_SameColor : lookE envL f_glyphicref_SameColor = some F_glyphicref_SameColor := rfl
theorem E_glyphicsee_Is : lookE envL f_glyphicsee_Is = some F_glyphicsee_Is := rfl
theorem E_color_Wide : lookE envL f_color_Wide = some F_color_Wide := rfl
theorem E_glyphicsee_Same : lookE envL f_glyphicsee_Same = some F_glyphicsee_Same := rfl
theorem E_glyphicref_Placed : lookE envL f_glyphicref_Placed = some F_glyphicref_Placed := rfl
theorem E_glyphiclaw12_first : lookE envL f_glyphiclaw12_first = some F_glyphiclaw12_first := rfl
theorem E_names_New : lookE envL f_names_New = some F_names_New := rfl
theorem E_names_Scope_Val : lookE envL f_names_Scope_Val = some F_names_Scope_Val := rfl
theorem E_names_Scope_Ref : lookE envL f_names_Scope_Ref = some F_names_Scope_Ref := rfl
theorem E_names_Scope_Shape : lookE envL f_names_Scope_Shape = some F_names_Scope_Shape := rfl
theorem E_glyphicref_None : lookE envL f_glyphicref_None = some F_glyphicref_None := rfl
theorem E_glyphicref12_New : lookE envL f_glyphicref12_New = some F_glyphicref12_New := rfl
theorem E_glyphicref_SameFault : lookE envL f_glyphicref_SameFault = some F_glyphicref_SameFault := rfl
theorem E_names_Check : lookE envL f_names_Check = some F_names_Check := rfl
theorem E_glyphicref_Bare : lookE envL f_glyphicref_Bare = some F_glyphicref_Bare := rfl
theorem E_glyphicsee_Fault : lookE envL f_glyphicsee_Fault = some F_glyphicsee_Fault := rfl
theorem E_names_first__int64 : lookE envL f_names_first__int64 = some F_names_first__int64 := rfl
theorem E_names_first__api_Color : lookE envL f_names_first__api_Color = some F_names_first__api_Color := rfl
theorem E_names_first__int : lookE envL f_names_first__int = some F_names_first__int := rfl
theorem E_glyphicsee_sentinel : lookE envL f_glyphicsee_sentinel = some F_glyphicsee_sentinel := rfl
theorem E_glyphicsee_sentinels : lookE envL f_glyphicsee_sentinels = some F_glyphicsee_sentinels := rfl
theorem E_glyphicsee_Alike : lookE envL f_glyphicsee_Alike = some F_glyphicsee_Alike := rfl
end Go.IR
