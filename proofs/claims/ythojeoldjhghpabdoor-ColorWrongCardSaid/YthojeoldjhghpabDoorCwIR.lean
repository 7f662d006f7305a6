/- The law's functions, as the fast run has them. -/
import Derived.Test.YthojeoldjhghpabDoorFrT
namespace Go.FR.CW
set_option linter.unusedVariables false
set_option linter.unusedSimpArgs false
open Go Go.FR
/- glyphic/glyphiclaw3.ColorWrong -/
def c4 : AC :=
 .seq (.ops [⟨(some 2), [.c (.bool false)], .p (.mov), none⟩])
 (.seq (.ops [⟨(some 8), [], .w (.callF 11), none⟩,
   ⟨(some 3), [.t 8], .p (.mov), none⟩])
 (.seq (.seq (.ops [⟨(some 9), [.t 3], .p (.mov), none⟩,
   ⟨(some 10), [.t 9], .p (.un .not), none⟩])
 (.cond (.t 10)
  (.seq (.ops [⟨(some 2), [.c (.bool false)], .p (.mov), none⟩])
  (.ret))
  (.skip)))
 (.seq (.ops [⟨(some 11), [.c (.str []), .c (.str [35]), .c (.str [102, 102, 48, 48, 48, 48]), .c (.str [35, 102, 102, 48, 48, 48]), .c (.str [35, 102, 102, 48, 48, 48, 48, 48]), .c (.str [35, 102, 102, 48, 48, 48, 48, 48, 48, 48]), .c (.str [35, 70, 70, 48, 48, 48, 48]), .c (.str [35, 102, 102, 48, 48, 48, 103]), .c (.str [32, 35, 102, 102, 48, 48, 48, 48]), .c (.str [35, 102, 102, 48, 48, 48, 48, 32]), .c (.str [35, 35, 102, 48, 48, 48, 48]), .c (.str [35, 102, 102, 45, 48, 48, 48])], .n (.bslice 12 [(.str []), (.str []), (.str []), (.str []), (.str []), (.str []), (.str []), (.str []), (.str []), (.str []), (.str []), (.str [])] [(0, 1), (1, 1), (2, 1), (3, 1), (4, 1), (5, 1), (6, 1), (7, 1), (8, 1), (9, 1), (10, 1), (11, 1)]), none⟩,
   ⟨(some 4), [.t 11], .p (.mov), none⟩])
 (.seq (.ops [⟨(some 12), [.t 0], .p (.mov), none⟩,
   ⟨(some 13), [.t 4], .p (.mov), none⟩,
   ⟨(some 14), [.t 13], .p (.lenSl), none⟩,
   ⟨(some 15), [.t 12, .t 14], .p (.bin .rem), none⟩,
   ⟨(some 16), [.t 4], .p (.mov), none⟩,
   ⟨(some 17), [.t 16], .p (.lenSl), none⟩,
   ⟨(some 18), [.t 15, .t 17], .p (.bin .add), none⟩,
   ⟨(some 19), [.t 4], .p (.mov), none⟩,
   ⟨(some 20), [.t 19], .p (.lenSl), none⟩,
   ⟨(some 21), [.t 18, .t 20], .p (.bin .rem), none⟩,
   ⟨(some 5), [.t 21], .p (.mov), none⟩])
 (.seq (.ops [⟨(some 23), [.t 4], .p (.mov), none⟩,
   ⟨(some 24), [.t 5], .p (.mov), none⟩,
   ⟨(some 25), [.t 23, .t 24], .p (.iAddrS 1), none⟩,
   ⟨(some 26), [.t 25], .r (.load none), none⟩,
   ⟨(some 27), [.t 26], .w (.callF 13), none⟩,
   ⟨(some 22), [.t 27], .p (.mov), none⟩,
   ⟨(some 28), [.t 22], .p (.ext 0), none⟩,
   ⟨(some 29), [.t 22], .p (.ext 1), none⟩,
   ⟨(some 6), [], .n (.alloc [(.int .u8 0), (.int .u8 0), (.int .u8 0), (.int .u8 0)]), none⟩,
   ⟨none, [.t 6, .t 28], .w (.store 4), none⟩,
   ⟨(some 7), [.t 29], .p (.mov), none⟩])
 (.seq (.ops [⟨(some 30), [.t 3], .p (.mov), none⟩,
   ⟨(some 31), [.t 30], .p (.mov), none⟩,
   ⟨(some 32), [.t 7], .p (.mov), some (31, true)⟩,
   ⟨(some 33), [.t 32, .c .nilIface], .r (.eq true (.iface [134, 96] true)), some (31, true)⟩,
   ⟨(some 34), [.t 31, .t 33, .c (.bool false)], .p (.pick), none⟩,
   ⟨(some 35), [.t 34], .p (.mov), none⟩,
   ⟨(some 36), [.t 6], .r (.load (some 4)), some (35, true)⟩,
   ⟨(some 37), [], .p (.build [(.int .u8 0), (.int .u8 0), (.int .u8 0), (.int .u8 0)] []), some (35, true)⟩,
   ⟨(some 38), [.t 36, .t 37], .w (.callF 14), some (35, true)⟩,
   ⟨(some 39), [.t 35, .t 38, .c (.bool false)], .p (.pick), none⟩,
   ⟨(some 2), [.t 39], .p (.mov), none⟩])
 (.ret)))))))
def r4 : List ARes := [.tmp 2]
def F4 : AFunc := .code c4 r4
/- glyphic/glyphiclaw3.first -/
def c11 : AC :=
 .seq (.ops [⟨(some 0), [.c (.bool false)], .p (.mov), none⟩])
 (.seq (.ops [⟨(some 1), [.c (.int .u8 255), .c (.int .u8 255)], .p (.build [(.int .u8 0), (.int .u8 0), (.int .u8 0), (.int .u8 0)] [(0, 1), (3, 1)]), none⟩,
   ⟨(some 2), [.t 1], .w (.callF 12), none⟩,
   ⟨(some 3), [.t 2, .c (.str [35, 102, 102, 48, 48, 48, 48])], .p (.bin .eql), none⟩,
   ⟨(some 0), [.t 3], .p (.mov), none⟩])
 (.ret))
def r11 : List ARes := [.tmp 0]
def F11 : AFunc := .code c11 r11
/- glyphic/color.Show -/
def c12 : AC :=
 .seq (.ops [⟨(some 1), [.t 0], .n (.box), none⟩,
   ⟨(some 2), [.c (.str [])], .p (.mov), none⟩])
 (.seq (.ops [⟨(some 6), [.c (.int .u8 35)], .n (.bslice 1 [(.int .u8 0)] [(0, 1)]), none⟩,
   ⟨(some 3), [.t 6], .p (.mov), none⟩])
 (.seq (.seq (.ops [⟨(some 7), [.t 1], .p (.fAddr 0), none⟩,
   ⟨(some 8), [.t 7], .r (.load none), none⟩,
   ⟨(some 9), [.t 1], .p (.fAddr 1), none⟩,
   ⟨(some 10), [.t 9], .r (.load none), none⟩,
   ⟨(some 11), [.t 1], .p (.fAddr 2), none⟩,
   ⟨(some 12), [.t 11], .r (.load none), none⟩,
   ⟨(some 13), [.t 1], .p (.fAddr 3), none⟩,
   ⟨(some 14), [.t 13], .r (.load none), none⟩,
   ⟨(some 15), [.t 8, .t 10, .t 12, .t 14], .p (.build [(.int .u8 0), (.int .u8 0), (.int .u8 0), (.int .u8 0)] [(0, 1), (1, 1), (2, 1), (3, 1)]), none⟩,
   ⟨(some 16), [.c (.int .i64 0)], .p (.mov), none⟩])
 (.block 0
  (.loop
   (.seq (.ops [⟨(some 17), [.t 16, .c (.int .i64 4)], .p (.bin .lss), none⟩])
   (.seq (.cond (.t 17)
    (.skip)
    (.exit 0))
   (.seq (.block 1
    (.seq (.ops [⟨(some 18), [.t 16], .p (.mov), none⟩,
      ⟨(some 19), [.t 15, .t 16], .p (.idxArr 4 1 none), none⟩,
      ⟨(some 4), [.t 18], .p (.mov), none⟩,
      ⟨(some 5), [.t 19], .p (.mov), none⟩])
    (.seq (.ops [⟨(some 20), [.t 4], .p (.mov), none⟩,
      ⟨(some 21), [.t 20, .c (.int .i64 3)], .p (.bin .lss), none⟩,
      ⟨(some 22), [.t 21], .p (.mov), none⟩,
      ⟨(some 23), [.t 5], .p (.mov), some (22, false)⟩,
      ⟨(some 24), [.t 23, .c (.int .u8 255)], .p (.bin .neq), some (22, false)⟩,
      ⟨(some 25), [.t 22, .c (.bool true), .t 24], .p (.pick), none⟩])
    (.cond (.t 25)
     (.draw [(⟨(some 26), [.t 3], .p (.mov), none⟩, 0),
       (⟨(some 27), [.t 5], .p (.mov), none⟩, 0),
       (⟨(some 28), [.t 27, .c (.int .u64 4)], .p (.bin .shr), none⟩, 0),
       (⟨(some 29), [.c (.str [48, 49, 50, 51, 52, 53, 54, 55, 56, 57, 97, 98, 99, 100, 101, 102]), .t 28], .p (.idxStr), none⟩, 0),
       (⟨(some 30), [.t 5], .p (.mov), none⟩, 0),
       (⟨(some 31), [.t 30, .c (.int .u8 15)], .p (.bin .and), none⟩, 0),
       (⟨(some 32), [.c (.str [48, 49, 50, 51, 52, 53, 54, 55, 56, 57, 97, 98, 99, 100, 101, 102]), .t 31], .p (.idxStr), none⟩, 0),
       (⟨(some 33), [.t 29, .t 32], .n (.bslice 2 [(.int .u8 0), (.int .u8 0)] [(0, 1), (1, 1)]), none⟩, 0),
       (⟨(some 34), [.t 26, .t 33], .w (.append 1 1), none⟩, 0),
       (⟨(some 3), [.t 34], .p (.mov), none⟩, 0)])
     (.skip)))))
   (.ops [⟨(some 35), [.t 16, .c (.int .i64 1)], .p (.bin .add), none⟩,
     ⟨(some 16), [.t 35], .p (.mov), none⟩])))))))
 (.seq (.ops [⟨(some 36), [.t 3], .p (.mov), none⟩,
   ⟨(some 37), [.t 36], .r (.b2s), none⟩,
   ⟨(some 2), [.t 37], .p (.mov), none⟩])
 (.ret))))
def r12 : List ARes := [.tmp 2]
def F12 : AFunc := .code c12 r12
/- glyphic/color.Parse -/
def c13 : AC :=
 .seq (.ops [⟨(some 2), [], .n (.alloc [(.int .u8 0), (.int .u8 0), (.int .u8 0), (.int .u8 0)]), none⟩,
   ⟨(some 3), [.c .nilIface], .p (.mov), none⟩])
 (.seq (.seq (.ops [⟨(some 7), [.t 0], .p (.mov), none⟩,
   ⟨(some 8), [.t 7], .p (.lenStr), none⟩,
   ⟨(some 9), [.t 8, .c (.int .i64 7)], .p (.bin .neq), none⟩,
   ⟨(some 10), [.t 9], .p (.mov), none⟩,
   ⟨(some 11), [.t 0], .p (.mov), some (10, true)⟩,
   ⟨(some 12), [.t 11], .p (.lenStr), some (10, true)⟩,
   ⟨(some 13), [.t 12, .c (.int .i64 9)], .p (.bin .neq), some (10, true)⟩,
   ⟨(some 14), [.t 10, .t 13, .c (.bool false)], .p (.pick), none⟩,
   ⟨(some 15), [.t 14], .p (.mov), none⟩,
   ⟨(some 16), [.t 0], .p (.mov), some (15, false)⟩,
   ⟨(some 17), [.t 16, .c (.int .i64 0)], .p (.idxStr), some (15, false)⟩,
   ⟨(some 18), [.t 17, .c (.int .u8 35)], .p (.bin .neq), some (15, false)⟩,
   ⟨(some 19), [.t 15, .c (.bool true), .t 18], .p (.pick), none⟩])
 (.cond (.t 19)
  (.seq (.draw [(⟨(some 20), [], .p (.build [(.int .u8 0), (.int .u8 0), (.int .u8 0), (.int .u8 0)] []), none⟩, 0),
    (⟨none, [.t 2, .t 20], .w (.store 4), none⟩, 0),
    (⟨(some 21), [.c (.ptr (some (0, 0)))], .r (.load none), none⟩, 1),
    (⟨(some 3), [.t 21], .p (.mov), none⟩, 0)])
  (.ret))
  (.skip)))
 (.seq (.ops [⟨(some 22), [.c (.int .u8 255)], .p (.build [(.int .u8 0), (.int .u8 0), (.int .u8 0), (.int .u8 0)] [(3, 1)]), none⟩,
   ⟨(some 4), [], .n (.alloc [(.int .u8 0), (.int .u8 0), (.int .u8 0), (.int .u8 0)]), none⟩,
   ⟨none, [.t 4, .t 22], .w (.store 4), none⟩])
 (.seq (.seq (.ops [⟨(some 5), [.c (.int .i64 1)], .p (.mov), none⟩])
 (.block 0
  (.loop
   (.seq (.seq (.ops [⟨(some 23), [.t 5], .p (.mov), none⟩,
     ⟨(some 24), [.t 0], .p (.mov), none⟩,
     ⟨(some 25), [.t 24], .p (.lenStr), none⟩,
     ⟨(some 26), [.t 23, .t 25], .p (.bin .lss), none⟩])
   (.cond (.t 26)
    (.skip)
    (.exit 0)))
   (.seq (.block 1
    (.seq (.ops [⟨(some 29), [.t 0], .p (.mov), none⟩,
      ⟨(some 30), [.t 5], .p (.mov), none⟩,
      ⟨(some 31), [.t 29, .t 30], .p (.idxStr), none⟩,
      ⟨(some 32), [.c (.str [48, 49, 50, 51, 52, 53, 54, 55, 56, 57, 97, 98, 99, 100, 101, 102]), .t 31], .w (.callF 38), none⟩,
      ⟨(some 6), [.t 32], .p (.mov), none⟩])
    (.seq (.seq (.ops [⟨(some 33), [.t 6], .p (.mov), none⟩,
      ⟨(some 34), [.t 33, .c (.int .i64 0)], .p (.bin .lss), none⟩])
    (.cond (.t 34)
     (.seq (.draw [(⟨(some 35), [], .p (.build [(.int .u8 0), (.int .u8 0), (.int .u8 0), (.int .u8 0)] []), none⟩, 0),
       (⟨none, [.t 2, .t 35], .w (.store 4), none⟩, 0),
       (⟨(some 36), [.c (.ptr (some (0, 0)))], .r (.load none), none⟩, 1),
       (⟨(some 3), [.t 36], .p (.mov), none⟩, 0)])
     (.ret))
     (.skip)))
    (.ops [⟨(some 37), [.t 5], .p (.mov), none⟩,
      ⟨(some 38), [.t 37, .c (.int .i64 1)], .p (.bin .sub), none⟩,
      ⟨(some 39), [.t 38, .c (.int .i64 2)], .p (.bin .quo), none⟩,
      ⟨(some 40), [.t 5], .p (.mov), none⟩,
      ⟨(some 41), [.t 40, .c (.int .i64 1)], .p (.bin .sub), none⟩,
      ⟨(some 42), [.t 41, .c (.int .i64 2)], .p (.bin .quo), none⟩,
      ⟨(some 43), [.t 4, .t 42], .p (.iAddrA 4 1), none⟩,
      ⟨(some 44), [.t 43], .r (.load none), none⟩,
      ⟨(some 45), [.t 44, .c (.int .u64 4)], .p (.bin .shl), none⟩,
      ⟨(some 46), [.t 6], .p (.mov), none⟩,
      ⟨(some 47), [.t 46], .p (.conv .u8), none⟩,
      ⟨(some 48), [.t 45, .t 47], .p (.bin .or), none⟩,
      ⟨(some 49), [.t 4, .t 39], .p (.iAddrA 4 1), none⟩,
      ⟨none, [.t 49, .t 48], .w (.store 1), none⟩]))))
   (.ops [⟨(some 27), [.t 5], .p (.mov), none⟩,
     ⟨(some 28), [.t 27, .c (.int .i64 1)], .p (.bin .add), none⟩,
     ⟨(some 5), [.t 28], .p (.mov), none⟩]))))))
 (.seq (.ops [⟨(some 50), [.t 4, .c (.int .i64 0)], .p (.iAddrA 4 1), none⟩,
   ⟨(some 51), [.t 50], .r (.load none), none⟩,
   ⟨(some 52), [.t 4, .c (.int .i64 1)], .p (.iAddrA 4 1), none⟩,
   ⟨(some 53), [.t 52], .r (.load none), none⟩,
   ⟨(some 54), [.t 4, .c (.int .i64 2)], .p (.iAddrA 4 1), none⟩,
   ⟨(some 55), [.t 54], .r (.load none), none⟩,
   ⟨(some 56), [.t 4, .c (.int .i64 3)], .p (.iAddrA 4 1), none⟩,
   ⟨(some 57), [.t 56], .r (.load none), none⟩,
   ⟨(some 58), [.t 51, .t 53, .t 55, .t 57], .p (.build [(.int .u8 0), (.int .u8 0), (.int .u8 0), (.int .u8 0)] [(0, 1), (1, 1), (2, 1), (3, 1)]), none⟩,
   ⟨none, [.t 2, .t 58], .w (.store 4), none⟩,
   ⟨(some 3), [.c .nilIface], .p (.mov), none⟩])
 (.ret)))))
def r13 : List ARes := [.cell 2 (some 4), .tmp 3]
def F13 : AFunc := .code c13 r13
/- glyphic/glyphicref.SameColor -/
def c14 : AC :=
 .seq (.ops [⟨(some 2), [.t 0], .n (.box), none⟩,
   ⟨(some 3), [.t 1], .n (.box), none⟩,
   ⟨(some 4), [.c (.bool false)], .p (.mov), none⟩])
 (.seq (.ops [⟨(some 5), [.t 2], .p (.fAddr 0), none⟩,
   ⟨(some 6), [.t 5], .r (.load none), none⟩,
   ⟨(some 7), [.t 3], .p (.fAddr 0), none⟩,
   ⟨(some 8), [.t 7], .r (.load none), none⟩,
   ⟨(some 9), [.t 6, .t 8], .p (.bin .eql), none⟩,
   ⟨(some 10), [.t 9], .p (.mov), none⟩,
   ⟨(some 11), [.t 2], .p (.fAddr 1), some (10, true)⟩,
   ⟨(some 12), [.t 11], .r (.load none), some (10, true)⟩,
   ⟨(some 13), [.t 3], .p (.fAddr 1), some (10, true)⟩,
   ⟨(some 14), [.t 13], .r (.load none), some (10, true)⟩,
   ⟨(some 15), [.t 12, .t 14], .p (.bin .eql), some (10, true)⟩,
   ⟨(some 16), [.t 10, .t 15, .c (.bool false)], .p (.pick), none⟩,
   ⟨(some 17), [.t 16], .p (.mov), none⟩,
   ⟨(some 18), [.t 2], .p (.fAddr 2), some (17, true)⟩,
   ⟨(some 19), [.t 18], .r (.load none), some (17, true)⟩,
   ⟨(some 20), [.t 3], .p (.fAddr 2), some (17, true)⟩,
   ⟨(some 21), [.t 20], .r (.load none), some (17, true)⟩,
   ⟨(some 22), [.t 19, .t 21], .p (.bin .eql), some (17, true)⟩,
   ⟨(some 23), [.t 17, .t 22, .c (.bool false)], .p (.pick), none⟩,
   ⟨(some 24), [.t 23], .p (.mov), none⟩,
   ⟨(some 25), [.t 2], .p (.fAddr 3), some (24, true)⟩,
   ⟨(some 26), [.t 25], .r (.load none), some (24, true)⟩,
   ⟨(some 27), [.t 3], .p (.fAddr 3), some (24, true)⟩,
   ⟨(some 28), [.t 27], .r (.load none), some (24, true)⟩,
   ⟨(some 29), [.t 26, .t 28], .p (.bin .eql), some (24, true)⟩,
   ⟨(some 30), [.t 24, .t 29, .c (.bool false)], .p (.pick), none⟩,
   ⟨(some 4), [.t 30], .p (.mov), none⟩])
 (.ret))
def r14 : List ARes := [.tmp 4]
def F14 : AFunc := .code c14 r14
/- strings.IndexByte -/
def c38 : AC :=
 .seq (.ops [⟨(some 4), [.c (.int .i64 0)], .p (.mov), none⟩])
 (.seq (.ops [⟨(some 5), [.t 0], .p (.mov), none⟩,
   ⟨(some 6), [.t 1], .p (.mov), none⟩,
   ⟨(some 7), [.t 5, .t 6], .w (.callF 49), none⟩,
   ⟨(some 4), [.t 7], .p (.mov), none⟩])
 (.ret))
def r38 : List ARes := [.tmp 4]
def F38 : AFunc := .code c38 r38
/- internal/stringslite.IndexByte -/
def c49 : AC :=
 .seq (.ops [⟨(some 4), [.c (.int .i64 0)], .p (.mov), none⟩])
 (.seq (.ops [⟨(some 5), [.t 0], .p (.mov), none⟩,
   ⟨(some 6), [.t 1], .p (.mov), none⟩,
   ⟨(some 7), [.t 5, .t 6], .w (.callF 52), none⟩,
   ⟨(some 4), [.t 7], .p (.mov), none⟩])
 (.ret))
def r49 : List ARes := [.tmp 4]
def F49 : AFunc := .code c49 r49
/- internal/bytealg.IndexByteString -/
def F52 : AFunc := .prim .indexByte
def cfg : Cfg := ⟨[(0, 0)], [134, 96]⟩
def envL : List (Nat × AFunc) := [(4, F4), (11, F11), (12, F12), (13, F13), (14, F14), (38, F38), (49, F49), (52, F52)]
end Go.FR.CW
