/- The law's functions, as the fast run has them. -/
import Derived.Test.YtgebbopcagmmkaaDoorFrU
namespace Go.FR.DE
noncomputable section
open Go Go.FR
/- glyphic/glyphiclaw7.DecodeErrors -/
def c3 : AC :=
 .seq (.ops [⟨(some 2), [.c (.bool false)], .p (.mov), none⟩])
 (.seq (.ops [⟨(some 15), [], .w (.callF 9), none⟩,
   ⟨(some 3), [.t 15], .p (.mov), none⟩])
 (.seq (.seq (.ops [⟨(some 16), [.t 3], .p (.mov), none⟩,
   ⟨(some 17), [.t 16], .p (.un .not), none⟩])
 (.cond (.t 17)
  (.seq (.ops [⟨(some 2), [.c (.bool false)], .p (.mov), none⟩])
  (.ret))
  (.skip)))
 (.seq (.ops [⟨(some 18), [.c (.int .u8 71), .c (.int .u8 76), .c (.int .u8 89), .c (.int .u8 49)], .n (.bslice 4 [(.int .u8 0), (.int .u8 0), (.int .u8 0), (.int .u8 0)] [(0, 1), (1, 1), (2, 1), (3, 1)]), none⟩,
   ⟨(some 4), [.t 18], .p (.mov), none⟩])
 (.seq (.ops [⟨(some 19), [], .n (.bslice 0 [] []), none⟩,
   ⟨(some 20), [.c (.int .u8 0)], .n (.bslice 1 [(.int .u8 0)] [(0, 1)]), none⟩,
   ⟨(some 21), [.c (.int .u8 1), .c (.int .u8 0)], .n (.bslice 2 [(.int .u8 0), (.int .u8 0)] [(0, 1), (1, 1)]), none⟩,
   ⟨(some 22), [.c (.int .u8 1), .c (.int .u8 1), .c (.int .u8 7)], .n (.bslice 3 [(.int .u8 0), (.int .u8 0), (.int .u8 0)] [(0, 1), (1, 1), (2, 1)]), none⟩,
   ⟨(some 23), [.c (.int .u8 1), .c (.int .u8 1), .c (.int .u8 0)], .n (.bslice 3 [(.int .u8 0), (.int .u8 0), (.int .u8 0)] [(0, 1), (1, 1), (2, 1)]), none⟩,
   ⟨(some 24), [.c (.int .u8 1), .c (.int .u8 1), .c (.int .u8 0), .c (.int .u8 0)], .n (.bslice 4 [(.int .u8 0), (.int .u8 0), (.int .u8 0), (.int .u8 0)] [(0, 1), (1, 1), (2, 1), (3, 1)]), none⟩,
   ⟨(some 25), [.c (.int .u8 1), .c (.int .u8 1), .c (.int .u8 0), .c (.int .u8 1), .c (.int .u8 9), .c (.int .u8 9), .c (.int .u8 9)], .n (.bslice 7 [(.int .u8 0), (.int .u8 0), (.int .u8 0), (.int .u8 0), (.int .u8 0), (.int .u8 0), (.int .u8 0)] [(0, 1), (1, 1), (2, 1), (3, 1), (4, 1), (5, 1), (6, 1)]), none⟩,
   ⟨(some 26), [.c (.int .u8 1), .c (.int .u8 1), .c (.int .u8 0), .c (.int .u8 2), .c (.int .u8 9), .c (.int .u8 9), .c (.int .u8 9), .c (.int .u8 9), .c (.int .u8 9), .c (.int .u8 9), .c (.int .u8 9), .c (.int .u8 9), .c (.int .u8 0)], .n (.bslice 13 [(.int .u8 0), (.int .u8 0), (.int .u8 0), (.int .u8 0), (.int .u8 0), (.int .u8 0), (.int .u8 0), (.int .u8 0), (.int .u8 0), (.int .u8 0), (.int .u8 0), (.int .u8 0), (.int .u8 0)] [(0, 1), (1, 1), (2, 1), (3, 1), (4, 1), (5, 1), (6, 1), (7, 1), (8, 1), (9, 1), (10, 1), (11, 1), (12, 1)]), none⟩,
   ⟨(some 27), [.c (.int .u8 1), .c (.int .u8 1), .c (.int .u8 0), .c (.int .u8 1), .c (.int .u8 9), .c (.int .u8 9), .c (.int .u8 9), .c (.int .u8 9), .c (.int .u8 0)], .n (.bslice 9 [(.int .u8 0), (.int .u8 0), (.int .u8 0), (.int .u8 0), (.int .u8 0), (.int .u8 0), (.int .u8 0), (.int .u8 0), (.int .u8 0)] [(0, 1), (1, 1), (2, 1), (3, 1), (4, 1), (5, 1), (6, 1), (7, 1), (8, 1)]), none⟩,
   ⟨(some 28), [.c (.int .u8 1), .c (.int .u8 1), .c (.int .u8 0), .c (.int .u8 0), .c (.int .u8 0), .c (.int .u8 5)], .n (.bslice 6 [(.int .u8 0), (.int .u8 0), (.int .u8 0), (.int .u8 0), (.int .u8 0), (.int .u8 0)] [(0, 1), (1, 1), (2, 1), (3, 1), (4, 1), (5, 1)]), none⟩,
   ⟨(some 29), [.c (.int .u8 129), .c (.int .u8 0)], .n (.bslice 2 [(.int .u8 0), (.int .u8 0)] [(0, 1), (1, 1)]), none⟩,
   ⟨(some 30), [.c (.int .u8 1), .c (.int .u8 1), .c (.int .u8 0), .c (.int .u8 0), .c (.int .u8 1), .c (.int .u8 12)], .n (.bslice 6 [(.int .u8 0), (.int .u8 0), (.int .u8 0), (.int .u8 0), (.int .u8 0), (.int .u8 0)] [(0, 1), (1, 1), (2, 1), (3, 1), (4, 1), (5, 1)]), none⟩,
   ⟨(some 31), [.c (.int .u8 1), .c (.int .u8 1), .c (.int .u8 0), .c (.int .u8 0), .c (.int .u8 1), .c (.int .u8 3)], .n (.bslice 6 [(.int .u8 0), (.int .u8 0), (.int .u8 0), (.int .u8 0), (.int .u8 0), (.int .u8 0)] [(0, 1), (1, 1), (2, 1), (3, 1), (4, 1), (5, 1)]), none⟩,
   ⟨(some 32), [.c (.int .u8 1), .c (.int .u8 1), .c (.int .u8 0), .c (.int .u8 0), .c (.int .u8 1), .c (.int .u8 0), .c (.int .u8 0)], .n (.bslice 7 [(.int .u8 0), (.int .u8 0), (.int .u8 0), (.int .u8 0), (.int .u8 0), (.int .u8 0), (.int .u8 0)] [(0, 1), (1, 1), (2, 1), (3, 1), (4, 1), (5, 1), (6, 1)]), none⟩,
   ⟨(some 33), [.c (.int .u8 1), .c (.int .u8 1), .c (.int .u8 0), .c (.int .u8 1), .c (.int .u8 9), .c (.int .u8 9), .c (.int .u8 9), .c (.int .u8 9), .c (.int .u8 1), .c (.int .u8 0), .c (.int .u8 0), .c (.int .u8 0)], .n (.bslice 12 [(.int .u8 0), (.int .u8 0), (.int .u8 0), (.int .u8 0), (.int .u8 0), (.int .u8 0), (.int .u8 0), (.int .u8 0), (.int .u8 0), (.int .u8 0), (.int .u8 0), (.int .u8 0)] [(0, 1), (1, 1), (2, 1), (3, 1), (4, 1), (5, 1), (6, 1), (7, 1), (8, 1), (9, 1), (10, 1), (11, 1)]), none⟩,
   ⟨(some 34), [.c (.int .u8 1), .c (.int .u8 1), .c (.int .u8 0), .c (.int .u8 1), .c (.int .u8 9), .c (.int .u8 9), .c (.int .u8 9), .c (.int .u8 9), .c (.int .u8 1), .c (.int .u8 0), .c (.int .u8 0), .c (.int .u8 1), .c (.int .u8 3)], .n (.bslice 13 [(.int .u8 0), (.int .u8 0), (.int .u8 0), (.int .u8 0), (.int .u8 0), (.int .u8 0), (.int .u8 0), (.int .u8 0), (.int .u8 0), (.int .u8 0), (.int .u8 0), (.int .u8 0), (.int .u8 0)] [(0, 1), (1, 1), (2, 1), (3, 1), (4, 1), (5, 1), (6, 1), (7, 1), (8, 1), (9, 1), (10, 1), (11, 1), (12, 1)]), none⟩,
   ⟨(some 35), [.c (.int .u8 1), .c (.int .u8 1), .c (.int .u8 0), .c (.int .u8 1), .c (.int .u8 9), .c (.int .u8 9), .c (.int .u8 9), .c (.int .u8 9), .c (.int .u8 1), .c (.int .u8 0), .c (.int .u8 0), .c (.int .u8 1), .c (.int .u8 2), .c (.int .u8 10)], .n (.bslice 14 [(.int .u8 0), (.int .u8 0), (.int .u8 0), (.int .u8 0), (.int .u8 0), (.int .u8 0), (.int .u8 0), (.int .u8 0), (.int .u8 0), (.int .u8 0), (.int .u8 0), (.int .u8 0), (.int .u8 0), (.int .u8 0)] [(0, 1), (1, 1), (2, 1), (3, 1), (4, 1), (5, 1), (6, 1), (7, 1), (8, 1), (9, 1), (10, 1), (11, 1), (12, 1), (13, 1)]), none⟩,
   ⟨(some 36), [.c (.int .u8 1), .c (.int .u8 1), .c (.int .u8 0), .c (.int .u8 1), .c (.int .u8 9), .c (.int .u8 9), .c (.int .u8 9), .c (.int .u8 9), .c (.int .u8 1), .c (.int .u8 0), .c (.int .u8 0), .c (.int .u8 1), .c (.int .u8 2), .c (.int .u8 0), .c (.int .u8 0), .c (.int .u8 0)], .n (.bslice 16 [(.int .u8 0), (.int .u8 0), (.int .u8 0), (.int .u8 0), (.int .u8 0), (.int .u8 0), (.int .u8 0), (.int .u8 0), (.int .u8 0), (.int .u8 0), (.int .u8 0), (.int .u8 0), (.int .u8 0), (.int .u8 0), (.int .u8 0), (.int .u8 0)] [(0, 1), (1, 1), (2, 1), (3, 1), (4, 1), (5, 1), (6, 1), (7, 1), (8, 1), (9, 1), (10, 1), (11, 1), (12, 1), (13, 1), (14, 1), (15, 1)]), none⟩,
   ⟨(some 37), [.c (.int .u8 1), .c (.int .u8 1), .c (.int .u8 0), .c (.int .u8 1), .c (.int .u8 9), .c (.int .u8 9), .c (.int .u8 9), .c (.int .u8 9), .c (.int .u8 1), .c (.int .u8 0), .c (.int .u8 0), .c (.int .u8 1), .c (.int .u8 4), .c (.int .u8 0), .c (.int .u8 0), .c (.int .u8 5), .c (.int .u8 0), .c (.int .u8 0), .c (.int .u8 5)], .n (.bslice 19 [(.int .u8 0), (.int .u8 0), (.int .u8 0), (.int .u8 0), (.int .u8 0), (.int .u8 0), (.int .u8 0), (.int .u8 0), (.int .u8 0), (.int .u8 0), (.int .u8 0), (.int .u8 0), (.int .u8 0), (.int .u8 0), (.int .u8 0), (.int .u8 0), (.int .u8 0), (.int .u8 0), (.int .u8 0)] [(0, 1), (1, 1), (2, 1), (3, 1), (4, 1), (5, 1), (6, 1), (7, 1), (8, 1), (9, 1), (10, 1), (11, 1), (12, 1), (13, 1), (14, 1), (15, 1), (16, 1), (17, 1), (18, 1)]), none⟩,
   ⟨(some 38), [.c (.int .u8 1), .c (.int .u8 1), .c (.int .u8 0), .c (.int .u8 1), .c (.int .u8 9), .c (.int .u8 9), .c (.int .u8 9), .c (.int .u8 9), .c (.int .u8 1), .c (.int .u8 0), .c (.int .u8 0), .c (.int .u8 1), .c (.int .u8 2), .c (.int .u8 0), .c (.int .u8 0), .c (.int .u8 5), .c (.int .u8 0), .c (.int .u8 9)], .n (.bslice 18 [(.int .u8 0), (.int .u8 0), (.int .u8 0), (.int .u8 0), (.int .u8 0), (.int .u8 0), (.int .u8 0), (.int .u8 0), (.int .u8 0), (.int .u8 0), (.int .u8 0), (.int .u8 0), (.int .u8 0), (.int .u8 0), (.int .u8 0), (.int .u8 0), (.int .u8 0), (.int .u8 0)] [(0, 1), (1, 1), (2, 1), (3, 1), (4, 1), (5, 1), (6, 1), (7, 1), (8, 1), (9, 1), (10, 1), (11, 1), (12, 1), (13, 1), (14, 1), (15, 1), (16, 1), (17, 1)]), none⟩,
   ⟨(some 39), [.t 19, .t 20, .t 21, .t 22, .t 23, .t 24, .t 25, .t 26, .t 27, .t 28, .t 29, .t 30, .t 31, .t 32, .t 33, .t 34, .t 35, .t 36, .t 37, .t 38], .n (.bslice 20 [(.slice none 0 (.exact 0)), (.slice none 0 (.exact 0)), (.slice none 0 (.exact 0)), (.slice none 0 (.exact 0)), (.slice none 0 (.exact 0)), (.slice none 0 (.exact 0)), (.slice none 0 (.exact 0)), (.slice none 0 (.exact 0)), (.slice none 0 (.exact 0)), (.slice none 0 (.exact 0)), (.slice none 0 (.exact 0)), (.slice none 0 (.exact 0)), (.slice none 0 (.exact 0)), (.slice none 0 (.exact 0)), (.slice none 0 (.exact 0)), (.slice none 0 (.exact 0)), (.slice none 0 (.exact 0)), (.slice none 0 (.exact 0)), (.slice none 0 (.exact 0)), (.slice none 0 (.exact 0))] [(0, 1), (1, 1), (2, 1), (3, 1), (4, 1), (5, 1), (6, 1), (7, 1), (8, 1), (9, 1), (10, 1), (11, 1), (12, 1), (13, 1), (14, 1), (15, 1), (16, 1), (17, 1), (18, 1), (19, 1)]), none⟩,
   ⟨(some 5), [.t 39], .p (.mov), none⟩])
 (.seq (.ops [⟨(some 40), [.c (.int .i64 107), .c (.int .i64 105), .c (.int .i64 105), .c (.int .i64 105), .c (.int .i64 107), .c (.int .i64 107), .c (.int .i64 107), .c (.int .i64 110), .c (.int .i64 110), .c (.int .i64 111), .c (.int .i64 109), .c (.int .i64 105), .c (.int .i64 105), .c (.int .i64 105), .c (.int .i64 105), .c (.int .i64 110), .c (.int .i64 105), .c (.int .i64 105), .c (.int .i64 110), .c (.int .i64 105)], .n (.bslice 20 [(.int .i64 0), (.int .i64 0), (.int .i64 0), (.int .i64 0), (.int .i64 0), (.int .i64 0), (.int .i64 0), (.int .i64 0), (.int .i64 0), (.int .i64 0), (.int .i64 0), (.int .i64 0), (.int .i64 0), (.int .i64 0), (.int .i64 0), (.int .i64 0), (.int .i64 0), (.int .i64 0), (.int .i64 0), (.int .i64 0)] [(0, 1), (1, 1), (2, 1), (3, 1), (4, 1), (5, 1), (6, 1), (7, 1), (8, 1), (9, 1), (10, 1), (11, 1), (12, 1), (13, 1), (14, 1), (15, 1), (16, 1), (17, 1), (18, 1), (19, 1)]), none⟩,
   ⟨(some 6), [.t 40], .p (.mov), none⟩])
 (.seq (.ops [⟨(some 41), [.c (.int .i64 0), .c (.int .i64 0), .c (.int .i64 1), .c (.int .i64 2), .c (.int .i64 3), .c (.int .i64 4), .c (.int .i64 4), .c (.int .i64 8), .c (.int .i64 9), .c (.int .i64 5), .c (.int .i64 0), .c (.int .i64 5), .c (.int .i64 5), .c (.int .i64 6), .c (.int .i64 11), .c (.int .i64 12), .c (.int .i64 13), .c (.int .i64 15), .c (.int .i64 18), .c (.int .i64 17)], .n (.bslice 20 [(.int .i64 0), (.int .i64 0), (.int .i64 0), (.int .i64 0), (.int .i64 0), (.int .i64 0), (.int .i64 0), (.int .i64 0), (.int .i64 0), (.int .i64 0), (.int .i64 0), (.int .i64 0), (.int .i64 0), (.int .i64 0), (.int .i64 0), (.int .i64 0), (.int .i64 0), (.int .i64 0), (.int .i64 0), (.int .i64 0)] [(0, 1), (1, 1), (2, 1), (3, 1), (4, 1), (5, 1), (6, 1), (7, 1), (8, 1), (9, 1), (10, 1), (11, 1), (12, 1), (13, 1), (14, 1), (15, 1), (16, 1), (17, 1), (18, 1), (19, 1)]), none⟩,
   ⟨(some 7), [.t 41], .p (.mov), none⟩])
 (.seq (.ops [⟨(some 42), [.t 0], .p (.mov), none⟩,
   ⟨(some 43), [.t 5], .p (.mov), none⟩,
   ⟨(some 44), [.t 43], .p (.lenSl), none⟩,
   ⟨(some 45), [.t 42, .t 44], .p (.bin .rem), none⟩,
   ⟨(some 46), [.t 5], .p (.mov), none⟩,
   ⟨(some 47), [.t 46], .p (.lenSl), none⟩,
   ⟨(some 48), [.t 45, .t 47], .p (.bin .add), none⟩,
   ⟨(some 49), [.t 5], .p (.mov), none⟩,
   ⟨(some 50), [.t 49], .p (.lenSl), none⟩,
   ⟨(some 51), [.t 48, .t 50], .p (.bin .rem), none⟩,
   ⟨(some 8), [.t 51], .p (.mov), none⟩])
 (.seq (.ops [⟨(some 53), [.t 4], .p (.mov), none⟩,
   ⟨(some 54), [.t 5], .p (.mov), none⟩,
   ⟨(some 55), [.t 8], .p (.mov), none⟩,
   ⟨(some 56), [.t 54, .t 55], .p (.iAddrS 1), none⟩,
   ⟨(some 57), [.t 56], .r (.load none), none⟩,
   ⟨(some 58), [.t 53, .t 57], .w (.append 1 1), none⟩,
   ⟨(some 59), [.t 58], .w (.callF 10), none⟩,
   ⟨(some 52), [.t 59], .p (.mov), none⟩,
   ⟨(some 60), [.t 52], .p (.ext 0), none⟩,
   ⟨(some 61), [.t 52], .p (.ext 1), none⟩,
   ⟨(some 9), [], .n (.alloc [(.int .i64 0), (.int .i64 0), (.int .i64 0), (.slice none 0 (.exact 0)), (.slice none 0 (.exact 0))]), none⟩,
   ⟨none, [.t 9, .t 60], .w (.store 5), none⟩,
   ⟨(some 10), [.t 61], .p (.mov), none⟩])
 (.seq (.ops [⟨(some 63), [.t 4], .p (.mov), none⟩,
   ⟨(some 64), [.t 63, .c (.int .i64 3)], .p (.slSl 1 false true), none⟩,
   ⟨(some 65), [.t 64], .w (.callF 10), none⟩,
   ⟨(some 62), [.t 65], .p (.mov), none⟩,
   ⟨(some 66), [.t 62], .p (.ext 0), none⟩,
   ⟨(some 67), [.t 62], .p (.ext 1), none⟩,
   ⟨(some 11), [], .n (.alloc [(.int .i64 0), (.int .i64 0), (.int .i64 0), (.slice none 0 (.exact 0)), (.slice none 0 (.exact 0))]), none⟩,
   ⟨none, [.t 11, .t 66], .w (.store 5), none⟩,
   ⟨(some 12), [.t 67], .p (.mov), none⟩])
 (.seq (.ops [⟨(some 69), [.c (.int .u8 71), .c (.int .u8 76), .c (.int .u8 89), .c (.int .u8 50), .c (.int .u8 1), .c (.int .u8 1), .c (.int .u8 0), .c (.int .u8 0), .c (.int .u8 0)], .n (.bslice 9 [(.int .u8 0), (.int .u8 0), (.int .u8 0), (.int .u8 0), (.int .u8 0), (.int .u8 0), (.int .u8 0), (.int .u8 0), (.int .u8 0)] [(0, 1), (1, 1), (2, 1), (3, 1), (4, 1), (5, 1), (6, 1), (7, 1), (8, 1)]), none⟩,
   ⟨(some 70), [.t 69], .w (.callF 10), none⟩,
   ⟨(some 68), [.t 70], .p (.mov), none⟩,
   ⟨(some 71), [.t 68], .p (.ext 0), none⟩,
   ⟨(some 72), [.t 68], .p (.ext 1), none⟩,
   ⟨(some 13), [], .n (.alloc [(.int .i64 0), (.int .i64 0), (.int .i64 0), (.slice none 0 (.exact 0)), (.slice none 0 (.exact 0))]), none⟩,
   ⟨none, [.t 13, .t 71], .w (.store 5), none⟩,
   ⟨(some 14), [.t 72], .p (.mov), none⟩])
 (.seq (.draw [(⟨(some 73), [.t 3], .p (.mov), none⟩, 0),
   (⟨(some 74), [.t 73], .p (.mov), none⟩, 0),
   (⟨(some 76), [.t 6], .p (.mov), some (74, true)⟩, 0),
   (⟨(some 77), [.t 8], .p (.mov), some (74, true)⟩, 0),
   (⟨(some 78), [.t 76, .t 77], .p (.iAddrS 1), some (74, true)⟩, 0),
   (⟨(some 79), [.t 78], .r (.load none), some (74, true)⟩, 0),
   (⟨(some 80), [.t 7], .p (.mov), some (74, true)⟩, 0),
   (⟨(some 81), [.t 8], .p (.mov), some (74, true)⟩, 0),
   (⟨(some 82), [.t 80, .t 81], .p (.iAddrS 1), some (74, true)⟩, 0),
   (⟨(some 83), [.t 82], .r (.load none), some (74, true)⟩, 0),
   (⟨(some 84), [.c (.int .i64 4), .t 83], .p (.bin .add), some (74, true)⟩, 0),
   (⟨(some 85), [.t 79, .t 84], .w (.callF 12), some (74, true)⟩, 0),
   (⟨(some 75), [.t 10], .p (.mov), some (74, true)⟩, 0),
   (⟨(some 86), [.t 75, .t 85], .w (.callF 11), some (74, true)⟩, 0),
   (⟨(some 87), [.t 74, .t 86, .c (.bool false)], .p (.pick), none⟩, 0),
   (⟨(some 88), [.t 87], .p (.mov), none⟩, 0),
   (⟨(some 89), [.t 9], .p (.fAddr 3), some (88, true)⟩, 0),
   (⟨(some 90), [.t 89], .r (.load none), some (88, true)⟩, 0),
   (⟨(some 91), [.t 90], .p (.lenSl), some (88, true)⟩, 0),
   (⟨(some 92), [.t 91, .c (.int .i64 0)], .p (.bin .eql), some (88, true)⟩, 0),
   (⟨(some 93), [.t 88, .t 92, .c (.bool false)], .p (.pick), none⟩, 0),
   (⟨(some 94), [.t 93], .p (.mov), none⟩, 0),
   (⟨(some 96), [.c (.int .i64 107), .c (.int .i64 0)], .w (.callF 12), some (94, true)⟩, 0),
   (⟨(some 95), [.t 12], .p (.mov), some (94, true)⟩, 0),
   (⟨(some 97), [.t 95, .t 96], .w (.callF 11), some (94, true)⟩, 0),
   (⟨(some 98), [.t 94, .t 97, .c (.bool false)], .p (.pick), none⟩, 0),
   (⟨(some 99), [.t 98], .p (.mov), none⟩, 0),
   (⟨(some 101), [.c (.int .i64 108), .c (.int .i64 0)], .w (.callF 12), some (99, true)⟩, 0),
   (⟨(some 100), [.t 14], .p (.mov), some (99, true)⟩, 0),
   (⟨(some 102), [.t 100, .t 101], .w (.callF 11), some (99, true)⟩, 0),
   (⟨(some 103), [.t 99, .t 102, .c (.bool false)], .p (.pick), none⟩, 0),
   (⟨(some 2), [.t 103], .p (.mov), none⟩, 0)])
 (.ret))))))))))))
def r3 : List ARes := [.tmp 2]
def F3 : AFunc := .code c3 r3
/- glyphic/glyphiclaw7.first -/
def c9 : AC :=
 .seq (.ops [⟨(some 0), [.c (.bool false)], .p (.mov), none⟩])
 (.seq (.ops [⟨(some 4), [.c (.slice none 0 (.exact 0))], .w (.callF 10), none⟩,
   ⟨(some 3), [.t 4], .p (.mov), none⟩,
   ⟨(some 5), [.t 3], .p (.ext 0), none⟩,
   ⟨(some 6), [.t 3], .p (.ext 1), none⟩,
   ⟨(some 1), [], .n (.alloc [(.int .i64 0), (.int .i64 0), (.int .i64 0), (.slice none 0 (.exact 0)), (.slice none 0 (.exact 0))]), none⟩,
   ⟨none, [.t 1, .t 5], .w (.store 5), none⟩,
   ⟨(some 2), [.t 6], .p (.mov), none⟩])
 (.seq (.ops [⟨(some 7), [.t 2], .p (.mov), none⟩,
   ⟨(some 8), [.c (.int .i64 107), .c (.int .i64 0)], .w (.callF 12), none⟩,
   ⟨(some 9), [.t 7, .t 8], .w (.callF 11), none⟩,
   ⟨(some 0), [.t 9], .p (.mov), none⟩])
 (.ret)))
def r9 : List ARes := [.tmp 0]
def F9 : AFunc := .code c9 r9
/- glyphic/decode.Icon -/
def c10 : AC :=
 .seq (.ops [⟨(some 2), [], .n (.alloc [(.int .i64 0), (.int .i64 0), (.int .i64 0), (.slice none 0 (.exact 0)), (.slice none 0 (.exact 0))]), none⟩,
   ⟨(some 3), [.c .nilIface], .p (.mov), none⟩])
 (.seq (.ops [⟨(some 7), [.t 0], .p (.mov), none⟩,
   ⟨(some 8), [.t 7], .p (.build [(.slice none 0 (.exact 0)), (.int .i64 0), .nilIface, (.int .i64 0), (.int .i64 0), (.int .i64 0), (.int .i64 0), (.int .i64 0), (.int .i64 0), (.slice none 0 (.exact 0)), (.slice none 0 (.exact 0))] [(0, 1)]), none⟩,
   ⟨(some 9), [.t 8], .n (.box), none⟩,
   ⟨(some 4), [.t 9], .p (.mov), none⟩])
 (.seq (.block 0
  (.seq (.ops [⟨(some 11), [.t 0], .p (.mov), none⟩,
    ⟨(some 12), [.t 11], .p (.lenSl), none⟩,
    ⟨(some 13), [.t 12, .c (.int .i64 60000)], .p (.bin .gtr), none⟩,
    ⟨(some 10), [.t 13], .p (.mov), none⟩])
  (.cond (.t 10)
   (.ops [⟨(some 14), [.t 4], .p (.mov), none⟩,
     ⟨(some 15), [.c (.ptr (some (10, 0)))], .r (.load none), none⟩,
     ⟨(some 16), [.t 14, .c (.int .i64 60000), .t 15], .w (.callF 26), none⟩])
   (.seq (.ops [⟨(some 18), [.t 0], .p (.mov), none⟩,
     ⟨(some 19), [.t 18], .p (.lenSl), none⟩,
     ⟨(some 20), [.t 19, .c (.int .i64 4)], .p (.bin .lss), none⟩,
     ⟨(some 17), [.t 20], .p (.mov), none⟩])
   (.cond (.t 17)
    (.ops [⟨(some 21), [.t 4], .p (.mov), none⟩,
      ⟨(some 22), [.c (.ptr (some (12, 0)))], .r (.load none), none⟩,
      ⟨(some 23), [.t 21, .c (.int .i64 0), .t 22], .w (.callF 26), none⟩])
    (.seq (.ops [⟨(some 25), [.t 0], .p (.mov), none⟩,
      ⟨(some 26), [.t 25, .c (.int .i64 4)], .p (.slSl 1 false true), none⟩,
      ⟨(some 27), [.t 26], .r (.b2s), none⟩,
      ⟨(some 28), [.t 27, .c (.str [71, 76, 89, 49])], .p (.bin .neq), none⟩,
      ⟨(some 24), [.t 28], .p (.mov), none⟩])
    (.cond (.t 24)
     (.ops [⟨(some 29), [.t 4], .p (.mov), none⟩,
       ⟨(some 30), [.c (.ptr (some (14, 0)))], .r (.load none), none⟩,
       ⟨(some 31), [.t 29, .c (.int .i64 0), .t 30], .w (.callF 26), none⟩])
     (.skip))))))))
 (.seq (.ops [⟨(some 32), [.t 4], .p (.mov), none⟩,
   ⟨(some 33), [.t 32], .p (.nilChk), none⟩,
   ⟨(some 34), [.t 33], .p (.fAddr 1), none⟩,
   ⟨none, [.t 34, .c (.int .i64 4)], .w (.store 1), none⟩])
 (.seq (.ops [⟨(some 35), [.t 4], .p (.mov), none⟩,
   ⟨(some 36), [.t 4], .p (.mov), none⟩,
   ⟨(some 37), [.t 36, .c (.int .i64 1), .c (.int .i64 4096)], .w (.callF 27), none⟩,
   ⟨(some 38), [.t 35], .p (.nilChk), none⟩,
   ⟨(some 39), [.t 38], .p (.fAddr 6), none⟩,
   ⟨(some 40), [.t 39], .p (.fAddr 0), none⟩,
   ⟨none, [.t 40, .t 37], .w (.store 1), none⟩])
 (.seq (.ops [⟨(some 41), [.t 4], .p (.mov), none⟩,
   ⟨(some 42), [.t 4], .p (.mov), none⟩,
   ⟨(some 43), [.t 42, .c (.int .i64 1), .c (.int .i64 4096)], .w (.callF 27), none⟩,
   ⟨(some 44), [.t 41], .p (.nilChk), none⟩,
   ⟨(some 45), [.t 44], .p (.fAddr 6), none⟩,
   ⟨(some 46), [.t 45], .p (.fAddr 1), none⟩,
   ⟨none, [.t 46, .t 43], .w (.store 1), none⟩])
 (.seq (.ops [⟨(some 47), [.t 4], .p (.mov), none⟩,
   ⟨(some 48), [.t 4], .p (.mov), none⟩,
   ⟨(some 49), [.t 48, .c (.int .i64 0), .c (.int .i64 6)], .w (.callF 27), none⟩,
   ⟨(some 50), [.t 47], .p (.nilChk), none⟩,
   ⟨(some 51), [.t 50], .p (.fAddr 6), none⟩,
   ⟨(some 52), [.t 51], .p (.fAddr 2), none⟩,
   ⟨none, [.t 52, .t 49], .w (.store 1), none⟩])
 (.seq (.ops [⟨(some 53), [.t 4], .p (.mov), none⟩,
   ⟨(some 54), [.t 4], .p (.mov), none⟩,
   ⟨(some 55), [.t 54], .p (.nilChk), none⟩,
   ⟨(some 56), [.t 55], .p (.fAddr 6), none⟩,
   ⟨(some 57), [.t 56], .r (.load (some 5)), none⟩,
   ⟨(some 58), [.t 57], .w (.callF 28), none⟩,
   ⟨(some 59), [.t 53], .p (.nilChk), none⟩,
   ⟨(some 60), [.t 59], .p (.fAddr 3), none⟩,
   ⟨none, [.t 60, .t 58], .w (.store 1), none⟩])
 (.seq (.ops [⟨(some 61), [.t 4], .p (.mov), none⟩,
   ⟨(some 62), [.t 61], .p (.mkF 29 1), none⟩,
   ⟨(some 63), [.t 4], .p (.mov), none⟩,
   ⟨(some 64), [.t 63], .p (.mkF 30 1), none⟩,
   ⟨(some 5), [.t 62], .p (.mov), none⟩,
   ⟨(some 6), [.t 64], .p (.mov), none⟩])
 (.seq (.ops [⟨(some 65), [.t 5], .p (.mov), none⟩,
   ⟨(some 66), [.t 65], .w (.callV), none⟩])
 (.seq (.seq (.ops [⟨(some 67), [.t 4], .p (.mov), none⟩,
   ⟨(some 68), [.t 67, .c (.int .i64 0), .c (.int .i64 200)], .w (.callF 31), none⟩,
   ⟨(some 69), [.c (.int .i64 0)], .p (.mov), none⟩])
 (.block 1
  (.loop
   (.seq (.ops [⟨(some 70), [.t 69, .t 68], .p (.bin .lss), none⟩])
   (.seq (.cond (.t 70)
    (.skip)
    (.exit 1))
   (.seq (.block 2
    (.seq (.seq (.ops [⟨(some 71), [.t 4], .p (.mov), none⟩,
      ⟨(some 72), [.t 71], .p (.nilChk), none⟩,
      ⟨(some 73), [.t 72], .p (.fAddr 2), none⟩,
      ⟨(some 74), [.t 73], .r (.load none), none⟩,
      ⟨(some 75), [.t 74, .c .nilIface], .r (.eq true (.iface [209, 82] true)), none⟩])
    (.cond (.t 75)
     (.exit 1)
     (.skip)))
    (.ops [⟨(some 76), [.t 6], .p (.mov), none⟩,
      ⟨(some 77), [.t 76], .w (.callV), none⟩])))
   (.ops [⟨(some 78), [.t 69, .c (.int .i64 1)], .p (.bin .add), none⟩,
     ⟨(some 69), [.t 78], .p (.mov), none⟩])))))))
 (.seq (.block 3
  (.seq (.draw [(⟨(some 80), [.t 4], .p (.mov), none⟩, 0),
    (⟨(some 81), [.t 80], .p (.nilChk), none⟩, 0),
    (⟨(some 82), [.t 81], .p (.fAddr 4), none⟩, 0),
    (⟨(some 83), [.t 82], .r (.load none), none⟩, 0),
    (⟨(some 84), [.t 4], .p (.mov), none⟩, 0),
    (⟨(some 85), [.t 84], .p (.nilChk), none⟩, 0),
    (⟨(some 86), [.t 85], .p (.fAddr 6), none⟩, 0),
    (⟨(some 87), [.t 86], .p (.fAddr 3), none⟩, 0),
    (⟨(some 88), [.t 87], .r (.load none), none⟩, 0),
    (⟨(some 89), [.t 88], .p (.lenSl), none⟩, 0),
    (⟨(some 90), [.t 83, .t 89], .p (.bin .lss), none⟩, 0),
    (⟨(some 79), [.t 90], .p (.mov), none⟩, 0)])
  (.cond (.t 79)
   (.draw [(⟨(some 91), [.t 4], .p (.mov), none⟩, 0),
     (⟨(some 92), [.t 4], .p (.mov), none⟩, 0),
     (⟨(some 93), [.t 92], .p (.nilChk), none⟩, 0),
     (⟨(some 94), [.t 93], .p (.fAddr 1), none⟩, 0),
     (⟨(some 95), [.t 94], .r (.load none), none⟩, 0),
     (⟨(some 96), [.c (.ptr (some (18, 0)))], .r (.load none), none⟩, 0),
     (⟨(some 97), [.t 91, .t 95, .t 96], .w (.callF 26), none⟩, 0)])
   (.seq (.ops [⟨(some 99), [.t 4], .p (.mov), none⟩,
     ⟨(some 100), [.t 99], .p (.nilChk), none⟩,
     ⟨(some 101), [.t 100], .p (.fAddr 1), none⟩,
     ⟨(some 102), [.t 101], .r (.load none), none⟩,
     ⟨(some 103), [.t 0], .p (.mov), none⟩,
     ⟨(some 104), [.t 103], .p (.lenSl), none⟩,
     ⟨(some 105), [.t 102, .t 104], .p (.bin .lss), none⟩,
     ⟨(some 98), [.t 105], .p (.mov), none⟩])
   (.cond (.t 98)
    (.draw [(⟨(some 106), [.t 4], .p (.mov), none⟩, 0),
      (⟨(some 107), [.t 4], .p (.mov), none⟩, 0),
      (⟨(some 108), [.t 107], .p (.nilChk), none⟩, 0),
      (⟨(some 109), [.t 108], .p (.fAddr 1), none⟩, 0),
      (⟨(some 110), [.t 109], .r (.load none), none⟩, 0),
      (⟨(some 111), [.c (.ptr (some (20, 0)))], .r (.load none), none⟩, 0),
      (⟨(some 112), [.t 106, .t 110, .t 111], .w (.callF 26), none⟩, 0)])
    (.skip))))))
 (.seq (.seq (.ops [⟨(some 113), [.t 4], .p (.mov), none⟩,
   ⟨(some 114), [.t 113], .p (.nilChk), none⟩,
   ⟨(some 115), [.t 114], .p (.fAddr 2), none⟩,
   ⟨(some 116), [.t 115], .r (.load none), none⟩,
   ⟨(some 117), [.t 116, .c .nilIface], .r (.eq true (.iface [209, 82] true)), none⟩])
 (.cond (.t 117)
  (.seq (.draw [(⟨(some 118), [], .p (.build [(.int .i64 0), (.int .i64 0), (.int .i64 0), (.slice none 0 (.exact 0)), (.slice none 0 (.exact 0))] []), none⟩, 0),
    (⟨none, [.t 2, .t 118], .w (.store 5), none⟩, 0),
    (⟨(some 119), [.t 4], .p (.mov), none⟩, 0),
    (⟨(some 120), [.t 119], .p (.nilChk), none⟩, 0),
    (⟨(some 121), [.t 120], .p (.fAddr 2), none⟩, 0),
    (⟨(some 122), [.t 121], .r (.load none), none⟩, 1),
    (⟨(some 3), [.t 122], .p (.mov), none⟩, 0)])
  (.ret))
  (.skip)))
 (.seq (.ops [⟨(some 123), [.t 4], .p (.mov), none⟩,
   ⟨(some 124), [.t 123], .p (.nilChk), none⟩,
   ⟨(some 125), [.t 124], .p (.fAddr 6), none⟩,
   ⟨(some 126), [.t 125], .r (.load (some 5)), none⟩,
   ⟨none, [.t 2, .t 126], .w (.store 5), none⟩,
   ⟨(some 3), [.c .nilIface], .p (.mov), none⟩])
 (.ret))))))))))))))
def r10 : List ARes := [.cell 2 (some 5), .tmp 3]
def F10 : AFunc := .code c10 r10
/- glyphic/glyphicsee.Same -/
def c11 : AC :=
 .seq (.ops [⟨(some 3), [.t 1], .n (.box), none⟩,
   ⟨(some 4), [.c (.bool false)], .p (.mov), none⟩])
 (.seq (.draw [(⟨(some 5), [.t 0], .p (.mov), none⟩, 0),
   (⟨(some 6), [.t 5], .w (.callF 25), none⟩, 0),
   (⟨(some 7), [.t 3], .r (.load (some 3)), none⟩, 1),
   (⟨(some 8), [.t 6, .t 7], .w (.callF 32), none⟩, 0),
   (⟨(some 4), [.t 8], .p (.mov), none⟩, 0)])
 (.ret))
def r11 : List ARes := [.tmp 4]
def F11 : AFunc := .code c11 r11
/- glyphic/glyphicref.Placed -/
def c12 : AC :=
 .seq (.ops [⟨(some 4), [], .n (.alloc [(.int .i64 0), (.bool false), (.int .i64 0)]), none⟩])
 (.seq (.seq (.ops [⟨(some 5), [.t 0], .p (.mov), none⟩,
   ⟨(some 6), [.t 5, .c (.int .i64 0)], .p (.bin .eql), none⟩])
 (.cond (.t 6)
  (.seq (.ops [⟨(some 7), [], .w (.callF 33), none⟩,
    ⟨none, [.t 4, .t 7], .w (.store 3), none⟩])
  (.ret))
  (.skip)))
 (.seq (.ops [⟨(some 8), [.t 0], .p (.mov), none⟩,
   ⟨(some 9), [.t 1], .p (.mov), none⟩,
   ⟨(some 10), [.t 8, .c (.bool true), .t 9], .p (.build [(.int .i64 0), (.bool false), (.int .i64 0)] [(0, 1), (1, 1), (2, 1)]), none⟩,
   ⟨none, [.t 4, .t 10], .w (.store 3), none⟩])
 (.ret)))
def r12 : List ARes := [.cell 4 (some 3)]
def F12 : AFunc := .code c12 r12
/- glyphic/glyphicsee.Fault -/
def c25 : AC :=
 .seq (.ops [⟨(some 2), [], .n (.alloc [(.int .i64 0), (.bool false), (.int .i64 0)]), none⟩])
 (.seq (.seq (.ops [⟨(some 5), [.t 0], .p (.mov), none⟩,
   ⟨(some 6), [.t 5, .c .nilIface], .r (.eq false (.iface [209, 82] true)), none⟩])
 (.cond (.t 6)
  (.seq (.ops [⟨(some 7), [], .w (.callF 33), none⟩,
    ⟨none, [.t 2, .t 7], .w (.store 3), none⟩])
  (.ret))
  (.skip)))
 (.seq (.ops [⟨(some 9), [.t 0], .p (.mov), none⟩,
   ⟨(some 10), [.t 9], .p (.tAss 82 true (.ptr none)), none⟩,
   ⟨(some 8), [.t 10], .p (.mov), none⟩,
   ⟨(some 11), [.t 8], .p (.ext 0), none⟩,
   ⟨(some 12), [.t 8], .p (.ext 1), none⟩,
   ⟨(some 3), [.t 11], .p (.mov), none⟩,
   ⟨(some 4), [.t 12], .p (.mov), none⟩])
 (.seq (.seq (.ops [⟨(some 13), [.t 4], .p (.mov), none⟩,
   ⟨(some 14), [.t 13], .p (.un .not), none⟩])
 (.cond (.t 14)
  (.seq (.ops [⟨(some 15), [.t 0], .p (.mov), none⟩,
    ⟨(some 16), [.t 15], .w (.callF 50), none⟩,
    ⟨(some 17), [.t 16], .w (.callF 45), none⟩,
    ⟨none, [.t 2, .t 17], .w (.store 3), none⟩])
  (.ret))
  (.skip)))
 (.seq (.seq (.ops [⟨(some 18), [.t 3], .p (.mov), none⟩,
   ⟨(some 19), [.t 18, .c (.ptr none)], .r (.eq false .ptr), none⟩,
   ⟨(some 20), [.t 19], .p (.mov), none⟩,
   ⟨(some 21), [.t 3], .p (.mov), some (20, false)⟩,
   ⟨(some 22), [.t 21], .p (.nilChk), some (20, false)⟩,
   ⟨(some 23), [.t 22], .p (.fAddr 1), some (20, false)⟩,
   ⟨(some 24), [.t 23], .r (.load none), some (20, false)⟩,
   ⟨(some 25), [.t 24, .c .nilIface], .r (.eq false (.iface [209, 82] true)), some (20, false)⟩,
   ⟨(some 26), [.t 20, .c (.bool true), .t 25], .p (.pick), none⟩])
 (.cond (.t 26)
  (.seq (.ops [⟨(some 27), [.c (.int .i64 (-1))], .w (.callF 45), none⟩,
    ⟨none, [.t 2, .t 27], .w (.store 3), none⟩])
  (.ret))
  (.skip)))
 (.seq (.draw [(⟨(some 28), [.t 3], .p (.mov), none⟩, 0),
   (⟨(some 29), [.t 28], .p (.nilChk), none⟩, 0),
   (⟨(some 30), [.t 29], .p (.fAddr 1), none⟩, 0),
   (⟨(some 31), [.t 30], .r (.load none), none⟩, 0),
   (⟨(some 32), [.t 31], .w (.callF 50), none⟩, 0),
   (⟨(some 33), [.t 3], .p (.mov), none⟩, 0),
   (⟨(some 34), [.t 33], .p (.nilChk), none⟩, 0),
   (⟨(some 35), [.t 34], .p (.fAddr 0), none⟩, 0),
   (⟨(some 36), [.t 35], .r (.load none), none⟩, 1),
   (⟨(some 37), [.t 32, .t 36], .w (.callF 12), none⟩, 0),
   (⟨none, [.t 2, .t 37], .w (.store 3), none⟩, 0)])
 (.ret))))))
def r25 : List ARes := [.cell 2 (some 3)]
def F25 : AFunc := .code c25 r25
/- (*glyphic/decode.reader).fails -/
def c26 : AC :=
 .seq (.ops [⟨(some 6), [.t 0], .p (.mov), none⟩,
   ⟨(some 7), [.t 6], .p (.nilChk), none⟩,
   ⟨(some 8), [.t 7], .p (.fAddr 2), none⟩,
   ⟨(some 9), [.t 8], .r (.load none), none⟩,
   ⟨(some 10), [.t 9, .c .nilIface], .r (.eq false (.iface [209, 82] true)), none⟩])
 (.cond (.t 10)
  (.ops [⟨(some 11), [.t 0], .p (.mov), none⟩,
    ⟨(some 12), [.t 1], .p (.mov), none⟩,
    ⟨(some 13), [.t 2], .p (.mov), none⟩,
    ⟨(some 14), [.t 12, .t 13], .p (.build [(.int .i64 0), .nilIface] [(0, 1), (1, 1)]), none⟩,
    ⟨(some 15), [.t 14], .n (.box), none⟩,
    ⟨(some 16), [.t 15], .p (.mkI 82), none⟩,
    ⟨(some 17), [.t 11], .p (.nilChk), none⟩,
    ⟨(some 18), [.t 17], .p (.fAddr 2), none⟩,
    ⟨none, [.t 18, .t 16], .w (.store 1), none⟩])
  (.skip))
def r26 : List ARes := []
def F26 : AFunc := .code c26 r26
/- (*glyphic/decode.reader).ranged -/
def c27 : AC :=
 .seq (.ops [⟨(some 6), [.c (.int .i64 0)], .p (.mov), none⟩])
 (.seq (.ops [⟨(some 10), [.t 0], .p (.mov), none⟩,
   ⟨(some 11), [.t 10], .w (.callF 51), none⟩,
   ⟨(some 9), [.t 11], .p (.mov), none⟩,
   ⟨(some 12), [.t 9], .p (.ext 0), none⟩,
   ⟨(some 13), [.t 9], .p (.ext 1), none⟩,
   ⟨(some 7), [.t 12], .p (.mov), none⟩,
   ⟨(some 8), [.t 13], .p (.mov), none⟩])
 (.seq (.seq (.ops [⟨(some 14), [.t 7], .p (.mov), none⟩,
   ⟨(some 15), [.t 2], .p (.mov), none⟩,
   ⟨(some 16), [.t 15], .p (.conv .u64), none⟩,
   ⟨(some 17), [.t 14, .t 16], .p (.bin .gtr), none⟩,
   ⟨(some 18), [.t 17], .p (.mov), none⟩,
   ⟨(some 19), [.t 7], .p (.mov), some (18, false)⟩,
   ⟨(some 20), [.t 19], .p (.conv .i64), some (18, false)⟩,
   ⟨(some 21), [.t 1], .p (.mov), some (18, false)⟩,
   ⟨(some 22), [.t 20, .t 21], .p (.bin .lss), some (18, false)⟩,
   ⟨(some 23), [.t 18, .c (.bool true), .t 22], .p (.pick), none⟩])
 (.cond (.t 23)
  (.seq (.ops [⟨(some 24), [.t 0], .p (.mov), none⟩,
    ⟨(some 25), [.t 8], .p (.mov), none⟩,
    ⟨(some 26), [.c (.ptr (some (8, 0)))], .r (.load none), none⟩,
    ⟨(some 27), [.t 24, .t 25, .t 26], .w (.callF 26), none⟩])
  (.seq (.ops [⟨(some 6), [.c (.int .i64 0)], .p (.mov), none⟩])
  (.ret)))
  (.skip)))
 (.seq (.ops [⟨(some 28), [.t 7], .p (.mov), none⟩,
   ⟨(some 29), [.t 28], .p (.conv .i64), none⟩,
   ⟨(some 6), [.t 29], .p (.mov), none⟩])
 (.ret))))
def r27 : List ARes := [.tmp 6]
def F27 : AFunc := .code c27 r27
/- glyphic/icon.Greatest -/
def c28 : AC :=
 .seq (.ops [⟨(some 1), [.t 0], .n (.box), none⟩,
   ⟨(some 2), [.c (.int .i64 0)], .p (.mov), none⟩])
 (.seq (.seq (.ops [⟨(some 3), [.t 1], .r (.load (some 5)), none⟩,
   ⟨(some 4), [.t 3], .w (.callF 46), none⟩,
   ⟨(some 5), [.t 4], .p (.un .not), none⟩])
 (.cond (.t 5)
  (.seq (.ops [⟨(some 2), [.c (.int .i64 0)], .p (.mov), none⟩])
  (.ret))
  (.skip)))
 (.seq (.ops [⟨(some 6), [.t 1], .p (.fAddr 0), none⟩,
   ⟨(some 7), [.t 6], .r (.load none), none⟩,
   ⟨(some 8), [.t 1], .p (.fAddr 1), none⟩,
   ⟨(some 9), [.t 8], .r (.load none), none⟩,
   ⟨(some 10), [.t 7, .t 9], .p (.max), none⟩,
   ⟨(some 11), [.c (.int .i64 4), .t 10], .p (.bin .mul), none⟩,
   ⟨(some 12), [.t 1], .p (.fAddr 2), none⟩,
   ⟨(some 13), [.t 12], .r (.load none), none⟩,
   ⟨(some 14), [.t 11, .t 13], .p (.bin .shl), none⟩,
   ⟨(some 2), [.t 14], .p (.mov), none⟩])
 (.ret)))
def r28 : List ARes := [.tmp 2]
def F28 : AFunc := .code c28 r28
/- (*glyphic/decode.reader).colors -/
def c29 : AC :=
 .seq (.ops [⟨(some 4), [.t 0], .p (.mov), none⟩,
   ⟨(some 5), [.t 4, .c (.int .i64 0), .c (.int .i64 256)], .w (.callF 31), none⟩,
   ⟨(some 6), [.c (.int .i64 0)], .p (.mov), none⟩])
 (.block 0
  (.loop
   (.seq (.ops [⟨(some 7), [.t 6, .t 5], .p (.bin .lss), none⟩])
   (.seq (.cond (.t 7)
    (.skip)
    (.exit 0))
   (.seq (.block 1
    (.seq (.seq (.ops [⟨(some 8), [.t 0], .p (.mov), none⟩,
      ⟨(some 9), [.t 8], .p (.nilChk), none⟩,
      ⟨(some 10), [.t 9], .p (.fAddr 2), none⟩,
      ⟨(some 11), [.t 10], .r (.load none), none⟩,
      ⟨(some 12), [.t 11, .c .nilIface], .r (.eq true (.iface [209, 82] true)), none⟩])
    (.cond (.t 12)
     (.ret)
     (.skip)))
    (.seq (.seq (.draw [(⟨(some 13), [.t 0], .p (.mov), none⟩, 0),
      (⟨(some 14), [.t 13], .p (.nilChk), none⟩, 0),
      (⟨(some 15), [.t 14], .p (.fAddr 0), none⟩, 0),
      (⟨(some 16), [.t 15], .r (.load none), none⟩, 0),
      (⟨(some 17), [.t 16], .p (.lenSl), none⟩, 0),
      (⟨(some 18), [.t 0], .p (.mov), none⟩, 0),
      (⟨(some 19), [.t 18], .p (.nilChk), none⟩, 0),
      (⟨(some 20), [.t 19], .p (.fAddr 1), none⟩, 0),
      (⟨(some 21), [.t 20], .r (.load none), none⟩, 0),
      (⟨(some 22), [.t 17, .t 21], .p (.bin .sub), none⟩, 0),
      (⟨(some 23), [.t 22, .c (.int .i64 4)], .p (.bin .lss), none⟩, 0)])
    (.cond (.t 23)
     (.seq (.draw [(⟨(some 24), [.t 0], .p (.mov), none⟩, 0),
       (⟨(some 25), [.t 0], .p (.mov), none⟩, 0),
       (⟨(some 26), [.t 25], .p (.nilChk), none⟩, 0),
       (⟨(some 27), [.t 26], .p (.fAddr 1), none⟩, 0),
       (⟨(some 28), [.t 27], .r (.load none), none⟩, 0),
       (⟨(some 29), [.c (.ptr (some (12, 0)))], .r (.load none), none⟩, 0),
       (⟨(some 30), [.t 24, .t 28, .t 29], .w (.callF 26), none⟩, 0)])
     (.ret))
     (.skip)))
    (.seq (.draw [(⟨(some 31), [.t 0], .p (.mov), none⟩, 0),
      (⟨(some 32), [.t 31], .p (.nilChk), none⟩, 0),
      (⟨(some 33), [.t 32], .p (.fAddr 0), none⟩, 0),
      (⟨(some 34), [.t 33], .r (.load none), none⟩, 0),
      (⟨(some 35), [.t 0], .p (.mov), none⟩, 0),
      (⟨(some 36), [.t 35], .p (.nilChk), none⟩, 0),
      (⟨(some 37), [.t 36], .p (.fAddr 1), none⟩, 0),
      (⟨(some 38), [.t 37], .r (.load none), none⟩, 0),
      (⟨(some 39), [.t 34, .t 38], .p (.slSl 1 true false), none⟩, 0),
      (⟨(some 2), [.t 39], .p (.mov), none⟩, 0)])
    (.seq (.draw [(⟨(some 40), [.t 2], .p (.mov), none⟩, 0),
      (⟨(some 41), [.t 40, .c (.int .i64 0)], .p (.iAddrS 1), none⟩, 0),
      (⟨(some 42), [.t 41], .r (.load none), none⟩, 0),
      (⟨(some 43), [.t 2], .p (.mov), none⟩, 0),
      (⟨(some 44), [.t 43, .c (.int .i64 1)], .p (.iAddrS 1), none⟩, 0),
      (⟨(some 45), [.t 44], .r (.load none), none⟩, 0),
      (⟨(some 46), [.t 2], .p (.mov), none⟩, 0),
      (⟨(some 47), [.t 46, .c (.int .i64 2)], .p (.iAddrS 1), none⟩, 0),
      (⟨(some 48), [.t 47], .r (.load none), none⟩, 0),
      (⟨(some 49), [.t 2], .p (.mov), none⟩, 0),
      (⟨(some 50), [.t 49, .c (.int .i64 3)], .p (.iAddrS 1), none⟩, 0),
      (⟨(some 51), [.t 50], .r (.load none), none⟩, 0),
      (⟨(some 52), [.t 42, .t 45, .t 48, .t 51], .p (.build [(.int .u8 0), (.int .u8 0), (.int .u8 0), (.int .u8 0)] [(0, 1), (1, 1), (2, 1), (3, 1)]), none⟩, 0),
      (⟨(some 3), [], .n (.alloc [(.int .u8 0), (.int .u8 0), (.int .u8 0), (.int .u8 0)]), none⟩, 0),
      (⟨none, [.t 3, .t 52], .w (.store 4), none⟩, 0)])
    (.seq (.seq (.draw [(⟨(some 53), [.t 0], .p (.mov), none⟩, 0),
      (⟨(some 54), [.t 53], .p (.nilChk), none⟩, 0),
      (⟨(some 55), [.t 54], .p (.fAddr 6), none⟩, 0),
      (⟨(some 56), [.t 55], .p (.fAddr 3), none⟩, 0),
      (⟨(some 57), [.t 56], .r (.load none), none⟩, 0),
      (⟨(some 58), [.t 3], .r (.load (some 4)), none⟩, 0),
      (⟨(some 59), [.t 57, .t 58], .w (.callF 52), none⟩, 0)])
    (.cond (.t 59)
     (.seq (.draw [(⟨(some 60), [.t 0], .p (.mov), none⟩, 0),
       (⟨(some 61), [.t 0], .p (.mov), none⟩, 0),
       (⟨(some 62), [.t 61], .p (.nilChk), none⟩, 0),
       (⟨(some 63), [.t 62], .p (.fAddr 1), none⟩, 0),
       (⟨(some 64), [.t 63], .r (.load none), none⟩, 0),
       (⟨(some 65), [.c (.ptr (some (18, 0)))], .r (.load none), none⟩, 0),
       (⟨(some 66), [.t 60, .t 64, .t 65], .w (.callF 26), none⟩, 0)])
     (.ret))
     (.skip)))
    (.seq (.draw [(⟨(some 68), [.t 0], .p (.mov), none⟩, 0),
      (⟨(some 69), [.t 68], .p (.nilChk), none⟩, 0),
      (⟨(some 70), [.t 69], .p (.fAddr 6), none⟩, 0),
      (⟨(some 71), [.t 70], .p (.fAddr 3), none⟩, 0),
      (⟨(some 72), [.t 71], .r (.load none), none⟩, 0),
      (⟨(some 73), [.t 3], .r (.load (some 4)), none⟩, 0),
      (⟨(some 74), [.t 73], .n (.bslice 1 [(.int .u8 0), (.int .u8 0), (.int .u8 0), (.int .u8 0)] [(0, 4)]), none⟩, 0),
      (⟨(some 75), [.t 72, .t 74], .w (.append 4 4), none⟩, 0),
      (⟨(some 67), [.t 0], .p (.mov), none⟩, 0),
      (⟨(some 76), [.t 67], .p (.nilChk), none⟩, 0),
      (⟨(some 77), [.t 76], .p (.fAddr 6), none⟩, 0),
      (⟨(some 78), [.t 77], .p (.fAddr 3), none⟩, 0),
      (⟨none, [.t 78, .t 75], .w (.store 1), none⟩, 0)])
    (.ops [⟨(some 79), [.t 0], .p (.mov), none⟩,
      ⟨(some 80), [.t 79], .p (.nilChk), none⟩,
      ⟨(some 81), [.t 80], .p (.fAddr 1), none⟩,
      ⟨(some 82), [.t 81], .r (.load none), none⟩,
      ⟨(some 83), [.t 82, .c (.int .i64 4)], .p (.bin .add), none⟩,
      ⟨(some 84), [.t 79], .p (.nilChk), none⟩,
      ⟨(some 85), [.t 84], .p (.fAddr 1), none⟩,
      ⟨none, [.t 85, .t 83], .w (.store 1), none⟩]))))))))
   (.ops [⟨(some 86), [.t 6, .c (.int .i64 1)], .p (.bin .add), none⟩,
     ⟨(some 6), [.t 86], .p (.mov), none⟩]))))))
def r29 : List ARes := []
def F29 : AFunc := .code c29 r29
/- (*glyphic/decode.reader).cmd -/
def c30 : AC :=
 .seq (.ops [⟨(some 6), [.t 0], .p (.mov), none⟩,
   ⟨(some 7), [.t 6], .w (.callF 51), none⟩,
   ⟨(some 5), [.t 7], .p (.mov), none⟩,
   ⟨(some 8), [.t 5], .p (.ext 0), none⟩,
   ⟨(some 9), [.t 5], .p (.ext 1), none⟩,
   ⟨(some 2), [.t 8], .p (.mov), none⟩,
   ⟨(some 3), [.t 9], .p (.mov), none⟩])
 (.seq (.seq (.ops [⟨(some 10), [.t 2], .p (.mov), none⟩,
   ⟨(some 11), [.t 10, .c (.int .u64 12)], .p (.bin .geq), none⟩,
   ⟨(some 12), [.t 11], .p (.mov), none⟩,
   ⟨(some 13), [.t 2], .p (.mov), some (12, false)⟩,
   ⟨(some 14), [.t 13, .c (.int .u64 3)], .p (.bin .and), some (12, false)⟩,
   ⟨(some 15), [.t 14, .c (.int .u64 3)], .p (.bin .eql), some (12, false)⟩,
   ⟨(some 16), [.t 12, .c (.bool true), .t 15], .p (.pick), none⟩])
 (.cond (.t 16)
  (.ops [⟨(some 17), [.t 0], .p (.mov), none⟩,
    ⟨(some 18), [.t 3], .p (.mov), none⟩,
    ⟨(some 19), [.c (.ptr (some (8, 0)))], .r (.load none), none⟩,
    ⟨(some 20), [.t 17, .t 18, .t 19], .w (.callF 26), none⟩])
  (.skip)))
 (.seq (.ops [⟨(some 21), [.t 2], .p (.mov), none⟩,
   ⟨(some 22), [.t 21, .c (.int .u64 1)], .p (.bin .and), none⟩,
   ⟨(some 23), [.t 22], .p (.conv .i64), none⟩,
   ⟨(some 24), [.c (.int .i64 1), .t 23], .p (.bin .add), none⟩,
   ⟨(some 25), [.t 2], .p (.mov), none⟩,
   ⟨(some 26), [.t 25, .c (.int .u64 1)], .p (.bin .shr), none⟩,
   ⟨(some 27), [.t 26, .c (.int .u64 1)], .p (.bin .and), none⟩,
   ⟨(some 28), [.t 27], .p (.conv .i64), none⟩,
   ⟨(some 29), [.t 24, .t 28], .p (.build [(.int .i64 0), (.int .i64 0), (.int .i64 0), (.int .i64 0), (.int .i64 0), (.int .i64 0), (.int .i64 0), (.int .i64 0), (.int .i64 0), (.int .i64 0), (.slice none 0 (.exact 0))] [(0, 1), (1, 1)]), none⟩,
   ⟨(some 4), [], .n (.alloc [(.int .i64 0), (.int .i64 0), (.int .i64 0), (.int .i64 0), (.int .i64 0), (.int .i64 0), (.int .i64 0), (.int .i64 0), (.int .i64 0), (.int .i64 0), (.slice none 0 (.exact 0))]), none⟩,
   ⟨none, [.t 4, .t 29], .w (.store 11), none⟩])
 (.seq (.seq (.ops [⟨(some 30), [.t 4], .p (.fAddr 0), none⟩,
   ⟨(some 31), [.t 30], .r (.load none), none⟩,
   ⟨(some 32), [.t 31, .c (.int .i64 2)], .p (.bin .eql), none⟩])
 (.cond (.t 32)
  (.ops [⟨(some 33), [.t 0], .p (.mov), none⟩,
    ⟨(some 34), [.t 0], .p (.mov), none⟩,
    ⟨(some 35), [.t 34], .p (.nilChk), none⟩,
    ⟨(some 36), [.t 35], .p (.fAddr 3), none⟩,
    ⟨(some 37), [.t 36], .r (.load none), none⟩,
    ⟨(some 38), [.t 33, .c (.int .i64 1), .t 37], .w (.callF 27), none⟩,
    ⟨(some 39), [.t 4], .p (.fAddr 2), none⟩,
    ⟨none, [.t 39, .t 38], .w (.store 1), none⟩])
  (.skip)))
 (.seq (.ops [⟨(some 40), [.t 0], .p (.mov), none⟩,
   ⟨(some 41), [.t 2], .p (.mov), none⟩,
   ⟨(some 42), [.t 41, .c (.int .u64 2)], .p (.bin .shr), none⟩,
   ⟨(some 43), [.t 42], .p (.conv .i64), none⟩,
   ⟨(some 44), [.t 40, .t 43], .w (.callF 53), none⟩,
   ⟨(some 45), [.t 4], .p (.fAddr 3), none⟩,
   ⟨none, [.t 45, .t 44], .w (.store 7), none⟩])
 (.seq (.seq (.ops [⟨(some 46), [.t 0], .p (.mov), none⟩,
   ⟨(some 47), [.t 46, .c (.int .i64 1), .c (.int .i64 200)], .w (.callF 31), none⟩,
   ⟨(some 48), [.c (.int .i64 0)], .p (.mov), none⟩])
 (.block 0
  (.loop
   (.seq (.ops [⟨(some 49), [.t 48, .t 47], .p (.bin .lss), none⟩])
   (.seq (.cond (.t 49)
    (.skip)
    (.exit 0))
   (.seq (.block 1
    (.seq (.seq (.ops [⟨(some 50), [.t 0], .p (.mov), none⟩,
      ⟨(some 51), [.t 50], .p (.nilChk), none⟩,
      ⟨(some 52), [.t 51], .p (.fAddr 2), none⟩,
      ⟨(some 53), [.t 52], .r (.load none), none⟩,
      ⟨(some 54), [.t 53, .c .nilIface], .r (.eq true (.iface [209, 82] true)), none⟩])
    (.cond (.t 54)
     (.ret)
     (.skip)))
    (.draw [(⟨(some 57), [.t 0], .p (.mov), none⟩, 0),
      (⟨(some 58), [.t 4], .p (.fAddr 0), none⟩, 0),
      (⟨(some 59), [.t 58], .r (.load none), none⟩, 0),
      (⟨(some 60), [.t 59, .c (.int .i64 1)], .p (.bin .eql), none⟩, 0),
      (⟨(some 61), [.t 57, .t 60], .w (.callF 54), none⟩, 0),
      (⟨(some 55), [.t 4], .p (.fAddr 10), none⟩, 0),
      (⟨(some 56), [.t 55], .r (.load none), none⟩, 1),
      (⟨(some 62), [.t 61], .n (.bslice 1 [(.int .i64 0), (.int .i64 0), (.slice none 0 (.exact 0)), (.bool false)] [(0, 4)]), none⟩, 0),
      (⟨(some 63), [.t 56, .t 62], .w (.append 4 48), none⟩, 0),
      (⟨(some 64), [.t 4], .p (.fAddr 10), none⟩, 0),
      (⟨none, [.t 64, .t 63], .w (.store 1), none⟩, 0)])))
   (.ops [⟨(some 65), [.t 48, .c (.int .i64 1)], .p (.bin .add), none⟩,
     ⟨(some 48), [.t 65], .p (.mov), none⟩])))))))
 (.draw [(⟨(some 67), [.t 0], .p (.mov), none⟩, 0),
   (⟨(some 68), [.t 67], .p (.nilChk), none⟩, 0),
   (⟨(some 69), [.t 68], .p (.fAddr 6), none⟩, 0),
   (⟨(some 70), [.t 69], .p (.fAddr 4), none⟩, 0),
   (⟨(some 71), [.t 70], .r (.load none), none⟩, 0),
   (⟨(some 72), [.t 4], .r (.load (some 11)), none⟩, 0),
   (⟨(some 73), [.t 72], .n (.bslice 1 [(.int .i64 0), (.int .i64 0), (.int .i64 0), (.int .i64 0), (.int .i64 0), (.int .i64 0), (.int .i64 0), (.int .i64 0), (.int .i64 0), (.int .i64 0), (.slice none 0 (.exact 0))] [(0, 11)]), none⟩, 0),
   (⟨(some 74), [.t 71, .t 73], .w (.append 11 104), none⟩, 0),
   (⟨(some 66), [.t 0], .p (.mov), none⟩, 0),
   (⟨(some 75), [.t 66], .p (.nilChk), none⟩, 0),
   (⟨(some 76), [.t 75], .p (.fAddr 6), none⟩, 0),
   (⟨(some 77), [.t 76], .p (.fAddr 4), none⟩, 0),
   (⟨none, [.t 77, .t 74], .w (.store 1), none⟩, 0)]))))))
def r30 : List ARes := []
def F30 : AFunc := .code c30 r30
/- (*glyphic/decode.reader).many -/
def c31 : AC :=
 .seq (.ops [⟨(some 6), [.c (.int .i64 0)], .p (.mov), none⟩])
 (.seq (.ops [⟨(some 10), [.t 0], .p (.mov), none⟩,
   ⟨(some 11), [.t 10], .w (.callF 51), none⟩,
   ⟨(some 9), [.t 11], .p (.mov), none⟩,
   ⟨(some 12), [.t 9], .p (.ext 0), none⟩,
   ⟨(some 13), [.t 9], .p (.ext 1), none⟩,
   ⟨(some 7), [.t 12], .p (.mov), none⟩,
   ⟨(some 8), [.t 13], .p (.mov), none⟩])
 (.seq (.block 0
  (.seq (.ops [⟨(some 15), [.t 7], .p (.mov), none⟩,
    ⟨(some 16), [.t 1], .p (.mov), none⟩,
    ⟨(some 17), [.t 16], .p (.conv .u64), none⟩,
    ⟨(some 18), [.t 15, .t 17], .p (.bin .lss), none⟩,
    ⟨(some 14), [.t 18], .p (.mov), none⟩])
  (.cond (.t 14)
   (.ops [⟨(some 19), [.t 0], .p (.mov), none⟩,
     ⟨(some 20), [.t 8], .p (.mov), none⟩,
     ⟨(some 21), [.c (.ptr (some (8, 0)))], .r (.load none), none⟩,
     ⟨(some 22), [.t 19, .t 20, .t 21], .w (.callF 26), none⟩])
   (.seq (.ops [⟨(some 24), [.t 7], .p (.mov), none⟩,
     ⟨(some 25), [.t 2], .p (.mov), none⟩,
     ⟨(some 26), [.t 25], .p (.conv .u64), none⟩,
     ⟨(some 27), [.t 24, .t 26], .p (.bin .gtr), none⟩,
     ⟨(some 23), [.t 27], .p (.mov), none⟩])
   (.cond (.t 23)
    (.ops [⟨(some 28), [.t 0], .p (.mov), none⟩,
      ⟨(some 29), [.t 8], .p (.mov), none⟩,
      ⟨(some 30), [.c (.ptr (some (10, 0)))], .r (.load none), none⟩,
      ⟨(some 31), [.t 28, .t 29, .t 30], .w (.callF 26), none⟩])
    (.skip))))))
 (.seq (.seq (.ops [⟨(some 32), [.t 0], .p (.mov), none⟩,
   ⟨(some 33), [.t 32], .p (.nilChk), none⟩,
   ⟨(some 34), [.t 33], .p (.fAddr 2), none⟩,
   ⟨(some 35), [.t 34], .r (.load none), none⟩,
   ⟨(some 36), [.t 35, .c .nilIface], .r (.eq true (.iface [209, 82] true)), none⟩])
 (.cond (.t 36)
  (.seq (.ops [⟨(some 6), [.c (.int .i64 0)], .p (.mov), none⟩])
  (.ret))
  (.skip)))
 (.seq (.ops [⟨(some 37), [.t 7], .p (.mov), none⟩,
   ⟨(some 38), [.t 37], .p (.conv .i64), none⟩,
   ⟨(some 6), [.t 38], .p (.mov), none⟩])
 (.ret)))))
def r31 : List ARes := [.tmp 6]
def F31 : AFunc := .code c31 r31
/- glyphic/glyphicref.SameFault -/
def c32 : AC :=
 .seq (.ops [⟨(some 2), [.t 0], .n (.box), none⟩,
   ⟨(some 3), [.t 1], .n (.box), none⟩,
   ⟨(some 4), [.c (.bool false)], .p (.mov), none⟩])
 (.seq (.ops [⟨(some 5), [.t 2], .p (.fAddr 0), none⟩,
   ⟨(some 6), [.t 5], .r (.load none), none⟩,
   ⟨(some 7), [.t 3], .p (.fAddr 0), none⟩,
   ⟨(some 8), [.t 7], .r (.load none), none⟩,
   ⟨(some 9), [.t 6, .t 8], .p (.bin .eql), none⟩,
   ⟨(some 10), [.t 9], .p (.mov), none⟩,
   ⟨(some 11), [.t 2], .p (.fAddr 1), some (10, true)⟩,
   ⟨(some 12), [.t 11], .r (.load none), some (10, true)⟩,
   ⟨(some 13), [.t 3], .p (.fAddr 1), some (10, true)⟩,
   ⟨(some 14), [.t 13], .r (.load none), some (10, true)⟩,
   ⟨(some 15), [.t 12, .t 14], .r (.eq false .bool), some (10, true)⟩,
   ⟨(some 16), [.t 10, .t 15, .c (.bool false)], .p (.pick), none⟩,
   ⟨(some 17), [.t 16], .p (.mov), none⟩,
   ⟨(some 18), [.t 2], .p (.fAddr 2), some (17, true)⟩,
   ⟨(some 19), [.t 18], .r (.load none), some (17, true)⟩,
   ⟨(some 20), [.t 3], .p (.fAddr 2), some (17, true)⟩,
   ⟨(some 21), [.t 20], .r (.load none), some (17, true)⟩,
   ⟨(some 22), [.t 19, .t 21], .p (.bin .eql), some (17, true)⟩,
   ⟨(some 23), [.t 17, .t 22, .c (.bool false)], .p (.pick), none⟩,
   ⟨(some 4), [.t 23], .p (.mov), none⟩])
 (.ret))
def r32 : List ARes := [.tmp 4]
def F32 : AFunc := .code c32 r32
/- glyphic/glyphicref.None -/
def c33 : AC :=
 .seq (.ops [⟨(some 0), [], .n (.alloc [(.int .i64 0), (.bool false), (.int .i64 0)]), none⟩])
 (.seq (.ops [⟨(some 1), [], .p (.build [(.int .i64 0), (.bool false), (.int .i64 0)] []), none⟩,
   ⟨none, [.t 0, .t 1], .w (.store 3), none⟩])
 (.ret))
def r33 : List ARes := [.cell 0 (some 3)]
def F33 : AFunc := .code c33 r33
/- glyphic/glyphicref.Bare -/
def c45 : AC :=
 .seq (.ops [⟨(some 2), [], .n (.alloc [(.int .i64 0), (.bool false), (.int .i64 0)]), none⟩])
 (.seq (.ops [⟨(some 3), [.t 0], .p (.mov), none⟩,
   ⟨(some 4), [.t 3], .p (.build [(.int .i64 0), (.bool false), (.int .i64 0)] [(0, 1)]), none⟩,
   ⟨none, [.t 2, .t 4], .w (.store 3), none⟩])
 (.ret))
def r45 : List ARes := [.cell 2 (some 3)]
def F45 : AFunc := .code c45 r45
/- glyphic/icon.sized -/
def c46 : AC :=
 .seq (.ops [⟨(some 1), [.t 0], .n (.box), none⟩,
   ⟨(some 2), [.c (.bool false)], .p (.mov), none⟩])
 (.seq (.ops [⟨(some 3), [.t 1], .p (.fAddr 0), none⟩,
   ⟨(some 4), [.t 3], .r (.load none), none⟩,
   ⟨(some 5), [.t 4, .c (.int .i64 1), .c (.int .i64 4096)], .w (.callF 78), none⟩,
   ⟨(some 6), [.t 5], .p (.mov), none⟩,
   ⟨(some 7), [.t 1], .p (.fAddr 1), some (6, true)⟩,
   ⟨(some 8), [.t 7], .r (.load none), some (6, true)⟩,
   ⟨(some 9), [.t 8, .c (.int .i64 1), .c (.int .i64 4096)], .w (.callF 78), some (6, true)⟩,
   ⟨(some 10), [.t 6, .t 9, .c (.bool false)], .p (.pick), none⟩,
   ⟨(some 11), [.t 10], .p (.mov), none⟩,
   ⟨(some 12), [.t 1], .p (.fAddr 2), some (11, true)⟩,
   ⟨(some 13), [.t 12], .r (.load none), some (11, true)⟩,
   ⟨(some 14), [.t 13, .c (.int .i64 0), .c (.int .i64 6)], .w (.callF 78), some (11, true)⟩,
   ⟨(some 15), [.t 11, .t 14, .c (.bool false)], .p (.pick), none⟩,
   ⟨(some 2), [.t 15], .p (.mov), none⟩])
 (.ret))
def r46 : List ARes := [.tmp 2]
def F46 : AFunc := .code c46 r46
/- glyphic/glyphicsee.sentinel -/
def c50 : AC :=
 .seq (.ops [⟨(some 2), [.c (.int .i64 0)], .p (.mov), none⟩])
 (.seq (.ops [⟨(some 5), [], .w (.callF 82), none⟩,
   ⟨(some 3), [.t 5], .p (.mov), none⟩])
 (.seq (.seq (.ops [⟨(some 4), [.c (.int .i64 0)], .p (.mov), none⟩])
 (.block 0
  (.loop
   (.seq (.seq (.ops [⟨(some 6), [.t 4], .p (.mov), none⟩,
     ⟨(some 7), [.t 3], .p (.mov), none⟩,
     ⟨(some 8), [.t 7], .p (.lenSl), none⟩,
     ⟨(some 9), [.t 6, .t 8], .p (.bin .lss), none⟩])
   (.cond (.t 9)
    (.skip)
    (.exit 0)))
   (.seq (.block 1
    (.seq (.ops [⟨(some 12), [.t 0], .p (.mov), none⟩,
      ⟨(some 13), [.t 3], .p (.mov), none⟩,
      ⟨(some 14), [.t 4], .p (.mov), none⟩,
      ⟨(some 15), [.t 13, .t 14], .p (.iAddrS 1), none⟩,
      ⟨(some 16), [.t 15], .r (.load none), none⟩,
      ⟨(some 17), [.t 12, .t 16], .w (.callF 83), none⟩])
    (.cond (.t 17)
     (.seq (.ops [⟨(some 18), [.t 4], .p (.mov), none⟩,
       ⟨(some 19), [.c (.int .i64 101), .t 18], .p (.bin .add), none⟩,
       ⟨(some 2), [.t 19], .p (.mov), none⟩])
     (.ret))
     (.skip))))
   (.ops [⟨(some 10), [.t 4], .p (.mov), none⟩,
     ⟨(some 11), [.t 10, .c (.int .i64 1)], .p (.bin .add), none⟩,
     ⟨(some 4), [.t 11], .p (.mov), none⟩]))))))
 (.seq (.ops [⟨(some 2), [.c (.int .i64 (-1))], .p (.mov), none⟩])
 (.ret))))
def r50 : List ARes := [.tmp 2]
def F50 : AFunc := .code c50 r50
/- (*glyphic/decode.reader).num -/
def c51 : AC :=
 .seq (.ops [⟨(some 2), [.c (.int .u64 0)], .p (.mov), none⟩,
   ⟨(some 3), [.c (.int .i64 0)], .p (.mov), none⟩])
 (.seq (.ops [⟨(some 8), [.t 0], .p (.mov), none⟩,
   ⟨(some 9), [.t 8], .p (.nilChk), none⟩,
   ⟨(some 10), [.t 9], .p (.fAddr 1), none⟩,
   ⟨(some 11), [.t 10], .r (.load none), none⟩,
   ⟨(some 4), [.t 11], .p (.mov), none⟩])
 (.seq (.seq (.ops [⟨(some 12), [.t 0], .p (.mov), none⟩,
   ⟨(some 13), [.t 12], .p (.nilChk), none⟩,
   ⟨(some 14), [.t 13], .p (.fAddr 2), none⟩,
   ⟨(some 15), [.t 14], .r (.load none), none⟩,
   ⟨(some 16), [.t 15, .c .nilIface], .r (.eq true (.iface [209, 82] true)), none⟩])
 (.cond (.t 16)
  (.seq (.ops [⟨(some 17), [.t 4], .p (.mov), none⟩,
    ⟨(some 2), [.c (.int .u64 0)], .p (.mov), none⟩,
    ⟨(some 3), [.t 17], .p (.mov), none⟩])
  (.ret))
  (.skip)))
 (.seq (.ops [⟨(some 19), [.t 0], .p (.mov), none⟩,
   ⟨(some 20), [.t 19], .p (.nilChk), none⟩,
   ⟨(some 21), [.t 20], .p (.fAddr 0), none⟩,
   ⟨(some 22), [.t 21], .r (.load none), none⟩,
   ⟨(some 23), [.t 4], .p (.mov), none⟩,
   ⟨(some 24), [.t 22, .t 23], .w (.callF 84), none⟩,
   ⟨(some 18), [.t 24], .p (.mov), none⟩,
   ⟨(some 25), [.t 18], .p (.ext 0), none⟩,
   ⟨(some 26), [.t 18], .p (.ext 1), none⟩,
   ⟨(some 27), [.t 18], .p (.ext 2), none⟩,
   ⟨(some 5), [.t 25], .p (.mov), none⟩,
   ⟨(some 6), [.t 26], .p (.mov), none⟩,
   ⟨(some 7), [.t 27], .p (.mov), none⟩])
 (.seq (.seq (.ops [⟨(some 28), [.t 7], .p (.mov), none⟩,
   ⟨(some 29), [.t 28, .c .nilIface], .r (.eq true (.iface [209, 82] true)), none⟩])
 (.cond (.t 29)
  (.seq (.ops [⟨(some 30), [.t 0], .p (.mov), none⟩,
    ⟨(some 31), [.t 7], .p (.mov), none⟩,
    ⟨(some 32), [.t 30], .p (.nilChk), none⟩,
    ⟨(some 33), [.t 32], .p (.fAddr 2), none⟩,
    ⟨none, [.t 33, .t 31], .w (.store 1), none⟩])
  (.seq (.ops [⟨(some 34), [.t 4], .p (.mov), none⟩,
    ⟨(some 2), [.c (.int .u64 0)], .p (.mov), none⟩,
    ⟨(some 3), [.t 34], .p (.mov), none⟩])
  (.ret)))
  (.skip)))
 (.seq (.ops [⟨(some 35), [.t 0], .p (.mov), none⟩,
   ⟨(some 36), [.t 6], .p (.mov), none⟩,
   ⟨(some 37), [.t 35], .p (.nilChk), none⟩,
   ⟨(some 38), [.t 37], .p (.fAddr 1), none⟩,
   ⟨none, [.t 38, .t 36], .w (.store 1), none⟩])
 (.seq (.ops [⟨(some 39), [.t 5], .p (.mov), none⟩,
   ⟨(some 40), [.t 4], .p (.mov), none⟩,
   ⟨(some 2), [.t 39], .p (.mov), none⟩,
   ⟨(some 3), [.t 40], .p (.mov), none⟩])
 (.ret)))))))
def r51 : List ARes := [.tmp 2, .tmp 3]
def F51 : AFunc := .code c51 r51
/- slices.Contains[[]glyphic/api.Color,glyphic/api.Color] -/
def c52 : AC :=
 .seq (.ops [⟨(some 3), [.t 1], .n (.box), none⟩,
   ⟨(some 4), [.c (.bool false)], .p (.mov), none⟩])
 (.seq (.ops [⟨(some 5), [.t 0], .p (.mov), none⟩,
   ⟨(some 6), [.t 3], .r (.load (some 4)), none⟩,
   ⟨(some 7), [.t 5, .t 6], .w (.callF 85), none⟩,
   ⟨(some 8), [.t 7, .c (.int .i64 0)], .p (.bin .geq), none⟩,
   ⟨(some 4), [.t 8], .p (.mov), none⟩])
 (.ret))
def r52 : List ARes := [.tmp 4]
def F52 : AFunc := .code c52 r52
/- (*glyphic/decode.reader).paint -/
def c53 : AC :=
 .seq (.ops [⟨(some 4), [], .n (.alloc [(.int .i64 0), (.int .i64 0), (.int .i64 0), (.int .i64 0), (.int .i64 0), (.int .i64 0), (.int .i64 0)]), none⟩])
 (.seq (.ops [⟨(some 7), [.t 1], .p (.mov), none⟩,
   ⟨(some 8), [.t 0], .p (.mov), none⟩,
   ⟨(some 9), [.t 8], .w (.callF 86), none⟩,
   ⟨(some 10), [.t 7, .t 9], .p (.build [(.int .i64 0), (.int .i64 0), (.int .i64 0), (.int .i64 0), (.int .i64 0), (.int .i64 0), (.int .i64 0)] [(0, 1), (1, 1)]), none⟩,
   ⟨(some 5), [], .n (.alloc [(.int .i64 0), (.int .i64 0), (.int .i64 0), (.int .i64 0), (.int .i64 0), (.int .i64 0), (.int .i64 0)]), none⟩,
   ⟨none, [.t 5, .t 10], .w (.store 7), none⟩])
 (.seq (.seq (.ops [⟨(some 11), [.t 1], .p (.mov), none⟩,
   ⟨(some 12), [.t 11, .c (.int .i64 0)], .p (.bin .eql), none⟩])
 (.cond (.t 12)
  (.seq (.ops [⟨(some 13), [.t 5], .r (.load (some 7)), none⟩,
    ⟨none, [.t 4, .t 13], .w (.store 7), none⟩])
  (.ret))
  (.skip)))
 (.seq (.ops [⟨(some 14), [.t 0], .p (.mov), none⟩,
   ⟨(some 15), [.t 14], .w (.callF 86), none⟩,
   ⟨(some 16), [.t 5], .p (.fAddr 2), none⟩,
   ⟨none, [.t 16, .t 15], .w (.store 1), none⟩])
 (.seq (.ops [⟨(some 17), [.t 0], .p (.mov), none⟩,
   ⟨(some 18), [], .p (.build [(.int .i64 0), (.int .i64 0)] []), none⟩,
   ⟨(some 19), [.t 17, .t 18], .w (.callF 87), none⟩,
   ⟨(some 20), [.t 5], .p (.fAddr 3), none⟩,
   ⟨none, [.t 20, .t 19], .w (.store 2), none⟩])
 (.seq (.seq (.ops [⟨(some 21), [.t 1], .p (.mov), none⟩,
   ⟨(some 22), [.t 21, .c (.int .i64 2)], .p (.bin .eql), none⟩])
 (.cond (.t 22)
  (.seq (.ops [⟨(some 23), [.t 0], .p (.mov), none⟩,
    ⟨(some 24), [.t 0], .p (.mov), none⟩,
    ⟨(some 25), [.t 24], .p (.nilChk), none⟩,
    ⟨(some 26), [.t 25], .p (.fAddr 3), none⟩,
    ⟨(some 27), [.t 26], .r (.load none), none⟩,
    ⟨(some 28), [.t 23, .c (.int .i64 1), .t 27], .w (.callF 27), none⟩,
    ⟨(some 29), [.t 5], .p (.fAddr 5), none⟩,
    ⟨(some 30), [.t 29], .p (.fAddr 0), none⟩,
    ⟨none, [.t 30, .t 28], .w (.store 1), none⟩])
  (.seq (.ops [⟨(some 31), [.t 5], .r (.load (some 7)), none⟩,
    ⟨none, [.t 4, .t 31], .w (.store 7), none⟩])
  (.ret)))
  (.skip)))
 (.seq (.ops [⟨(some 32), [.t 0], .p (.mov), none⟩,
   ⟨(some 33), [.t 32, .c (.int .i64 0)], .w (.callF 88), none⟩,
   ⟨(some 34), [.t 5], .p (.fAddr 5), none⟩,
   ⟨(some 35), [.t 34], .p (.fAddr 0), none⟩,
   ⟨none, [.t 35, .t 33], .w (.store 1), none⟩])
 (.seq (.ops [⟨(some 36), [.t 0], .p (.mov), none⟩,
   ⟨(some 37), [.t 36], .p (.nilChk), none⟩,
   ⟨(some 38), [.t 37], .p (.fAddr 1), none⟩,
   ⟨(some 39), [.t 38], .r (.load none), none⟩,
   ⟨(some 6), [.t 39], .p (.mov), none⟩])
 (.seq (.ops [⟨(some 40), [.t 0], .p (.mov), none⟩,
   ⟨(some 41), [.t 40, .c (.int .i64 0)], .w (.callF 88), none⟩,
   ⟨(some 42), [.t 5], .p (.fAddr 5), none⟩,
   ⟨(some 43), [.t 42], .p (.fAddr 1), none⟩,
   ⟨none, [.t 43, .t 41], .w (.store 1), none⟩])
 (.seq (.seq (.ops [⟨(some 44), [.t 5], .p (.fAddr 3), none⟩,
   ⟨(some 45), [.t 44], .r (.load (some 2)), none⟩,
   ⟨(some 46), [.t 5], .p (.fAddr 5), none⟩,
   ⟨(some 47), [.t 46], .r (.load (some 2)), none⟩,
   ⟨(some 48), [.t 45, .t 47], .r (.eq false (.agg [(0, none, .int), (1, none, .int)])), none⟩])
 (.cond (.t 48)
  (.ops [⟨(some 49), [.t 0], .p (.mov), none⟩,
    ⟨(some 50), [.t 6], .p (.mov), none⟩,
    ⟨(some 51), [.c (.ptr (some (8, 0)))], .r (.load none), none⟩,
    ⟨(some 52), [.t 49, .t 50, .t 51], .w (.callF 26), none⟩])
  (.skip)))
 (.seq (.ops [⟨(some 53), [.t 5], .r (.load (some 7)), none⟩,
   ⟨none, [.t 4, .t 53], .w (.store 7), none⟩])
 (.ret)))))))))))
def r53 : List ARes := [.cell 4 (some 7)]
def F53 : AFunc := .code c53 r53
/- (*glyphic/decode.reader).path -/
def c54 : AC :=
 .seq (.ops [⟨(some 4), [], .n (.alloc [(.int .i64 0), (.int .i64 0), (.slice none 0 (.exact 0)), (.bool false)]), none⟩])
 (.seq (.ops [⟨(some 5), [], .n (.alloc [(.int .i64 0), (.int .i64 0), (.slice none 0 (.exact 0)), (.bool false)]), none⟩])
 (.seq (.ops [⟨(some 11), [.t 0], .p (.mov), none⟩,
   ⟨(some 12), [.t 11], .w (.callF 51), none⟩,
   ⟨(some 10), [.t 12], .p (.mov), none⟩,
   ⟨(some 13), [.t 10], .p (.ext 0), none⟩,
   ⟨(some 14), [.t 10], .p (.ext 1), none⟩,
   ⟨(some 6), [.t 13], .p (.mov), none⟩,
   ⟨(some 7), [.t 14], .p (.mov), none⟩])
 (.seq (.ops [⟨(some 15), [.t 6], .p (.mov), none⟩,
   ⟨(some 16), [.t 15, .c (.int .u64 1)], .p (.bin .and), none⟩,
   ⟨(some 17), [.t 16, .c (.int .u64 1)], .p (.bin .eql), none⟩,
   ⟨(some 18), [.t 5], .p (.fAddr 3), none⟩,
   ⟨none, [.t 18, .t 17], .w (.store 1), none⟩])
 (.seq (.block 0
  (.seq (.ops [⟨(some 20), [.t 0], .p (.mov), none⟩,
    ⟨(some 21), [.t 20], .p (.nilChk), none⟩,
    ⟨(some 22), [.t 21], .p (.fAddr 2), none⟩,
    ⟨(some 23), [.t 22], .r (.load none), none⟩,
    ⟨(some 24), [.t 23, .c .nilIface], .r (.eq true (.iface [209, 82] true)), none⟩,
    ⟨(some 19), [.t 24], .p (.mov), none⟩])
  (.cond (.t 19)
   (.skip)
   (.seq (.ops [⟨(some 26), [.t 6], .p (.mov), none⟩,
     ⟨(some 27), [.t 26, .c (.int .u64 1)], .p (.bin .shr), none⟩,
     ⟨(some 28), [.t 27, .c (.int .u64 0)], .p (.bin .eql), none⟩,
     ⟨(some 25), [.t 28], .p (.mov), none⟩])
   (.cond (.t 25)
    (.ops [⟨(some 29), [.t 0], .p (.mov), none⟩,
      ⟨(some 30), [.t 7], .p (.mov), none⟩,
      ⟨(some 31), [.c (.ptr (some (8, 0)))], .r (.load none), none⟩,
      ⟨(some 32), [.t 29, .t 30, .t 31], .w (.callF 26), none⟩])
    (.seq (.ops [⟨(some 34), [.t 1], .p (.mov), none⟩,
      ⟨(some 35), [.t 34], .p (.mov), none⟩,
      ⟨(some 36), [.t 5], .p (.fAddr 3), some (35, true)⟩,
      ⟨(some 37), [.t 36], .r (.load none), some (35, true)⟩,
      ⟨(some 38), [.t 35, .t 37, .c (.bool false)], .p (.pick), none⟩,
      ⟨(some 33), [.t 38], .p (.mov), none⟩])
    (.cond (.t 33)
     (.ops [⟨(some 39), [.t 0], .p (.mov), none⟩,
       ⟨(some 40), [.t 7], .p (.mov), none⟩,
       ⟨(some 41), [.c (.ptr (some (18, 0)))], .r (.load none), none⟩,
       ⟨(some 42), [.t 39, .t 40, .t 41], .w (.callF 26), none⟩])
     (.skip))))))))
 (.seq (.ops [⟨(some 43), [.t 0], .p (.mov), none⟩,
   ⟨(some 44), [], .p (.build [(.int .i64 0), (.int .i64 0)] []), none⟩,
   ⟨(some 45), [.t 43, .t 44], .w (.callF 87), none⟩,
   ⟨(some 46), [.t 5], .p (.fAddr 0), none⟩,
   ⟨none, [.t 46, .t 45], .w (.store 2), none⟩])
 (.seq (.ops [⟨(some 47), [.t 0], .p (.mov), none⟩,
   ⟨(some 48), [.t 47], .p (.nilChk), none⟩,
   ⟨(some 49), [.t 48], .p (.fAddr 5), none⟩,
   ⟨(some 50), [.t 49], .r (.load none), none⟩,
   ⟨(some 51), [.t 50, .c (.int .i64 1)], .p (.bin .add), none⟩,
   ⟨(some 52), [.t 47], .p (.nilChk), none⟩,
   ⟨(some 53), [.t 52], .p (.fAddr 5), none⟩,
   ⟨none, [.t 53, .t 51], .w (.store 1), none⟩])
 (.seq (.ops [⟨(some 54), [.t 5], .p (.fAddr 0), none⟩,
   ⟨(some 55), [.t 54], .r (.load (some 2)), none⟩,
   ⟨(some 8), [], .n (.alloc [(.int .i64 0), (.int .i64 0)]), none⟩,
   ⟨none, [.t 8, .t 55], .w (.store 2), none⟩])
 (.seq (.seq (.ops [⟨(some 9), [.c (.int .u64 0)], .p (.mov), none⟩])
 (.block 1
  (.loop
   (.seq (.seq (.ops [⟨(some 56), [.t 9], .p (.mov), none⟩,
     ⟨(some 57), [.t 6], .p (.mov), none⟩,
     ⟨(some 58), [.t 57, .c (.int .u64 1)], .p (.bin .shr), none⟩,
     ⟨(some 59), [.t 56, .t 58], .p (.bin .lss), none⟩,
     ⟨(some 60), [.t 59], .p (.mov), none⟩,
     ⟨(some 61), [.t 0], .p (.mov), some (60, true)⟩,
     ⟨(some 62), [.t 61], .p (.nilChk), some (60, true)⟩,
     ⟨(some 63), [.t 62], .p (.fAddr 2), some (60, true)⟩,
     ⟨(some 64), [.t 63], .r (.load none), some (60, true)⟩,
     ⟨(some 65), [.t 64, .c .nilIface], .r (.eq false (.iface [209, 82] true)), some (60, true)⟩,
     ⟨(some 66), [.t 60, .t 65, .c (.bool false)], .p (.pick), none⟩])
   (.cond (.t 66)
    (.skip)
    (.exit 1)))
   (.seq (.block 2
    (.ops [⟨(some 69), [.t 0], .p (.mov), none⟩,
      ⟨(some 70), [.t 8], .r (.load (some 2)), none⟩,
      ⟨(some 71), [.t 69, .t 5, .t 70], .w (.callF 89), none⟩,
      ⟨none, [.t 8, .t 71], .w (.store 2), none⟩]))
   (.ops [⟨(some 67), [.t 9], .p (.mov), none⟩,
     ⟨(some 68), [.t 67, .c (.int .u64 1)], .p (.bin .add), none⟩,
     ⟨(some 9), [.t 68], .p (.mov), none⟩]))))))
 (.seq (.ops [⟨(some 72), [.t 5], .r (.load (some 4)), none⟩,
   ⟨none, [.t 4, .t 72], .w (.store 4), none⟩])
 (.ret))))))))))
def r54 : List ARes := [.cell 4 (some 4)]
def F54 : AFunc := .code c54 r54
/- glyphic/icon.in[int] -/
def c78 : AC :=
 .seq (.ops [⟨(some 6), [.c (.bool false)], .p (.mov), none⟩])
 (.seq (.ops [⟨(some 7), [.t 0], .p (.mov), none⟩,
   ⟨(some 8), [.t 1], .p (.mov), none⟩,
   ⟨(some 9), [.t 7, .t 8], .p (.bin .geq), none⟩,
   ⟨(some 10), [.t 9], .p (.mov), none⟩,
   ⟨(some 11), [.t 0], .p (.mov), some (10, true)⟩,
   ⟨(some 12), [.t 2], .p (.mov), some (10, true)⟩,
   ⟨(some 13), [.t 11, .t 12], .p (.bin .leq), some (10, true)⟩,
   ⟨(some 14), [.t 10, .t 13, .c (.bool false)], .p (.pick), none⟩,
   ⟨(some 6), [.t 14], .p (.mov), none⟩])
 (.ret))
def r78 : List ARes := [.tmp 6]
def F78 : AFunc := .code c78 r78
/- glyphic/glyphicsee.sentinels -/
def c82 : AC :=
 .seq (.ops [⟨(some 0), [.c (.slice none 0 (.exact 0))], .p (.mov), none⟩])
 (.seq (.ops [⟨(some 1), [.c (.ptr (some (0, 0)))], .r (.load none), none⟩,
   ⟨(some 2), [.c (.ptr (some (2, 0)))], .r (.load none), none⟩,
   ⟨(some 3), [.c (.ptr (some (4, 0)))], .r (.load none), none⟩,
   ⟨(some 4), [.c (.ptr (some (6, 0)))], .r (.load none), none⟩,
   ⟨(some 5), [.c (.ptr (some (8, 0)))], .r (.load none), none⟩,
   ⟨(some 6), [.c (.ptr (some (10, 0)))], .r (.load none), none⟩,
   ⟨(some 7), [.c (.ptr (some (12, 0)))], .r (.load none), none⟩,
   ⟨(some 8), [.c (.ptr (some (14, 0)))], .r (.load none), none⟩,
   ⟨(some 9), [.c (.ptr (some (16, 0)))], .r (.load none), none⟩,
   ⟨(some 10), [.c (.ptr (some (18, 0)))], .r (.load none), none⟩,
   ⟨(some 11), [.c (.ptr (some (20, 0)))], .r (.load none), none⟩,
   ⟨(some 12), [.c (.ptr (some (22, 0)))], .r (.load none), none⟩,
   ⟨(some 13), [.c (.ptr (some (24, 0)))], .r (.load none), none⟩,
   ⟨(some 14), [.t 1, .t 2, .t 3, .t 4, .t 5, .t 6, .t 7, .t 8, .t 9, .t 10, .t 11, .t 12, .t 13], .n (.bslice 13 [.nilIface, .nilIface, .nilIface, .nilIface, .nilIface, .nilIface, .nilIface, .nilIface, .nilIface, .nilIface, .nilIface, .nilIface, .nilIface] [(0, 1), (1, 1), (2, 1), (3, 1), (4, 1), (5, 1), (6, 1), (7, 1), (8, 1), (9, 1), (10, 1), (11, 1), (12, 1)]), none⟩,
   ⟨(some 0), [.t 14], .p (.mov), none⟩])
 (.ret))
def r82 : List ARes := [.tmp 0]
def F82 : AFunc := .code c82 r82
/- glyphic/glyphicsee.Alike -/
def c83 : AC :=
 .seq (.ops [⟨(some 4), [.c (.bool false)], .p (.mov), none⟩])
 (.seq (.seq (.ops [⟨(some 5), [.t 0], .p (.mov), none⟩,
   ⟨(some 6), [.t 5, .c .nilIface], .r (.eq false (.iface [209, 82] true)), none⟩,
   ⟨(some 7), [.t 6], .p (.mov), none⟩,
   ⟨(some 8), [.t 1], .p (.mov), some (7, false)⟩,
   ⟨(some 9), [.t 8, .c .nilIface], .r (.eq false (.iface [209, 82] true)), some (7, false)⟩,
   ⟨(some 10), [.t 7, .c (.bool true), .t 9], .p (.pick), none⟩])
 (.cond (.t 10)
  (.seq (.ops [⟨(some 11), [.t 0], .p (.mov), none⟩,
    ⟨(some 12), [.t 11, .c .nilIface], .r (.eq false (.iface [209, 82] true)), none⟩,
    ⟨(some 13), [.t 12], .p (.mov), none⟩,
    ⟨(some 14), [.t 1], .p (.mov), some (13, true)⟩,
    ⟨(some 15), [.t 14, .c .nilIface], .r (.eq false (.iface [209, 82] true)), some (13, true)⟩,
    ⟨(some 16), [.t 13, .t 15, .c (.bool false)], .p (.pick), none⟩,
    ⟨(some 4), [.t 16], .p (.mov), none⟩])
  (.ret))
  (.skip)))
 (.seq (.ops [⟨(some 17), [.t 0], .p (.mov), none⟩,
   ⟨(some 18), [.t 1], .p (.mov), none⟩,
   ⟨(some 19), [.t 17, .t 18], .r (.eq false (.iface [209, 82] false)), none⟩,
   ⟨(some 4), [.t 19], .p (.mov), none⟩])
 (.ret)))
def r83 : List ARes := [.tmp 4]
def F83 : AFunc := .code c83 r83
/- glyphic/wire.Get -/
def c84 : AC :=
 .seq (.ops [⟨(some 4), [.c (.int .u64 0)], .p (.mov), none⟩,
   ⟨(some 5), [.c (.int .i64 0)], .p (.mov), none⟩,
   ⟨(some 6), [.c .nilIface], .p (.mov), none⟩])
 (.seq (.seq (.ops [⟨(some 11), [.t 1], .p (.mov), none⟩,
   ⟨(some 12), [.t 11, .c (.int .i64 0)], .p (.bin .lss), none⟩,
   ⟨(some 13), [.t 12], .p (.mov), none⟩,
   ⟨(some 14), [.t 1], .p (.mov), some (13, false)⟩,
   ⟨(some 15), [.t 0], .p (.mov), some (13, false)⟩,
   ⟨(some 16), [.t 15], .p (.lenSl), some (13, false)⟩,
   ⟨(some 17), [.t 14, .t 16], .p (.bin .gtr), some (13, false)⟩,
   ⟨(some 18), [.t 13, .c (.bool true), .t 17], .p (.pick), none⟩])
 (.cond (.t 18)
  (.seq (.draw [(⟨(some 19), [.t 1], .p (.mov), none⟩, 0),
    (⟨(some 20), [.c (.ptr (some (12, 0)))], .r (.load none), none⟩, 0),
    (⟨(some 21), [.t 19, .t 20], .p (.build [(.int .i64 0), .nilIface] [(0, 1), (1, 1)]), none⟩, 0),
    (⟨(some 22), [.t 21], .n (.box), none⟩, 0),
    (⟨(some 23), [.t 22], .p (.mkI 82), none⟩, 0),
    (⟨(some 4), [.c (.int .u64 0)], .p (.mov), none⟩, 0),
    (⟨(some 5), [.c (.int .i64 0)], .p (.mov), none⟩, 0),
    (⟨(some 6), [.t 23], .p (.mov), none⟩, 0)])
  (.ret))
  (.skip)))
 (.seq (.ops [⟨(some 7), [.c (.int .u64 0)], .p (.mov), none⟩])
 (.seq (.seq (.ops [⟨(some 24), [.t 0], .p (.mov), none⟩,
   ⟨(some 25), [.t 1], .p (.mov), none⟩,
   ⟨(some 26), [.t 24, .t 25], .p (.slSl 1 true false), none⟩,
   ⟨(some 27), [.t 26], .p (.lenSl), none⟩,
   ⟨(some 28), [.c (.int .i64 0)], .p (.mov), none⟩])
 (.block 0
  (.loop
   (.seq (.ops [⟨(some 29), [.t 28, .t 27], .p (.bin .lss), none⟩])
   (.seq (.cond (.t 29)
    (.skip)
    (.exit 0))
   (.seq (.block 1
    (.seq (.ops [⟨(some 30), [.t 28], .p (.mov), none⟩,
      ⟨(some 31), [.t 26, .t 28], .p (.iAddrS 1), none⟩,
      ⟨(some 32), [.t 31], .r (.load none), none⟩,
      ⟨(some 8), [.t 30], .p (.mov), none⟩,
      ⟨(some 9), [.t 32], .p (.mov), none⟩])
    (.seq (.ops [⟨(some 33), [.t 9], .p (.mov), none⟩,
      ⟨(some 34), [.t 33, .c (.int .u8 128)], .p (.bin .lss), none⟩,
      ⟨(some 10), [.t 34], .p (.mov), none⟩])
    (.seq (.block 2
     (.seq (.seq (.ops [⟨(some 36), [.t 8], .p (.mov), none⟩,
       ⟨(some 37), [.t 36, .c (.int .i64 9)], .p (.bin .eql), none⟩,
       ⟨(some 38), [.t 37], .p (.mov), none⟩,
       ⟨(some 39), [.t 9], .p (.mov), some (38, true)⟩,
       ⟨(some 40), [.t 39, .c (.int .u8 1)], .p (.bin .gtr), some (38, true)⟩,
       ⟨(some 41), [.t 38, .t 40, .c (.bool false)], .p (.pick), none⟩,
       ⟨(some 35), [.t 41], .p (.mov), none⟩])
     (.cond (.t 35)
      (.skip)
      (.ops [⟨(some 42), [.t 10], .p (.mov), none⟩,
        ⟨(some 43), [.t 42], .p (.mov), none⟩,
        ⟨(some 44), [.t 9], .p (.mov), some (43, true)⟩,
        ⟨(some 45), [.t 44, .c (.int .u8 0)], .p (.bin .eql), some (43, true)⟩,
        ⟨(some 46), [.t 43, .t 45, .c (.bool false)], .p (.pick), none⟩,
        ⟨(some 47), [.t 46], .p (.mov), none⟩,
        ⟨(some 48), [.t 8], .p (.mov), some (47, true)⟩,
        ⟨(some 49), [.t 48, .c (.int .i64 0)], .p (.bin .gtr), some (47, true)⟩,
        ⟨(some 50), [.t 47, .t 49, .c (.bool false)], .p (.pick), none⟩,
        ⟨(some 35), [.t 50], .p (.mov), none⟩])))
     (.cond (.t 35)
      (.seq (.draw [(⟨(some 51), [.t 1], .p (.mov), none⟩, 0),
        (⟨(some 52), [.c (.ptr (some (16, 0)))], .r (.load none), none⟩, 0),
        (⟨(some 53), [.t 51, .t 52], .p (.build [(.int .i64 0), .nilIface] [(0, 1), (1, 1)]), none⟩, 0),
        (⟨(some 54), [.t 53], .n (.box), none⟩, 0),
        (⟨(some 55), [.t 54], .p (.mkI 82), none⟩, 0),
        (⟨(some 4), [.c (.int .u64 0)], .p (.mov), none⟩, 0),
        (⟨(some 5), [.c (.int .i64 0)], .p (.mov), none⟩, 0),
        (⟨(some 6), [.t 55], .p (.mov), none⟩, 0)])
      (.ret))
      (.skip))))
    (.seq (.ops [⟨(some 56), [.t 7], .p (.mov), none⟩,
      ⟨(some 57), [.t 9], .p (.mov), none⟩,
      ⟨(some 58), [.t 57, .c (.int .u8 128)], .p (.bin .andNot), none⟩,
      ⟨(some 59), [.t 58], .p (.conv .u64), none⟩,
      ⟨(some 60), [.t 8], .p (.mov), none⟩,
      ⟨(some 61), [.c (.int .i64 7), .t 60], .p (.bin .mul), none⟩,
      ⟨(some 62), [.t 59, .t 61], .p (.bin .shl), none⟩,
      ⟨(some 63), [.t 56, .t 62], .p (.bin .or), none⟩,
      ⟨(some 7), [.t 63], .p (.mov), none⟩])
    (.seq (.ops [⟨(some 64), [.t 10], .p (.mov), none⟩])
    (.cond (.t 64)
     (.seq (.ops [⟨(some 65), [.t 7], .p (.mov), none⟩,
       ⟨(some 66), [.t 1], .p (.mov), none⟩,
       ⟨(some 67), [.t 8], .p (.mov), none⟩,
       ⟨(some 68), [.t 66, .t 67], .p (.bin .add), none⟩,
       ⟨(some 69), [.t 68, .c (.int .i64 1)], .p (.bin .add), none⟩,
       ⟨(some 4), [.t 65], .p (.mov), none⟩,
       ⟨(some 5), [.t 69], .p (.mov), none⟩,
       ⟨(some 6), [.c .nilIface], .p (.mov), none⟩])
     (.ret))
     (.skip))))))))
   (.ops [⟨(some 70), [.t 28, .c (.int .i64 1)], .p (.bin .add), none⟩,
     ⟨(some 28), [.t 70], .p (.mov), none⟩])))))))
 (.seq (.draw [(⟨(some 71), [.t 1], .p (.mov), none⟩, 0),
   (⟨(some 72), [.c (.ptr (some (12, 0)))], .r (.load none), none⟩, 0),
   (⟨(some 73), [.t 71, .t 72], .p (.build [(.int .i64 0), .nilIface] [(0, 1), (1, 1)]), none⟩, 0),
   (⟨(some 74), [.t 73], .n (.box), none⟩, 0),
   (⟨(some 75), [.t 74], .p (.mkI 82), none⟩, 0),
   (⟨(some 4), [.c (.int .u64 0)], .p (.mov), none⟩, 0),
   (⟨(some 5), [.c (.int .i64 0)], .p (.mov), none⟩, 0),
   (⟨(some 6), [.t 75], .p (.mov), none⟩, 0)])
 (.ret)))))
def r84 : List ARes := [.tmp 4, .tmp 5, .tmp 6]
def F84 : AFunc := .code c84 r84
/- slices.Index[[]glyphic/api.Color,glyphic/api.Color] -/
def c85 : AC :=
 .seq (.ops [⟨(some 3), [.t 1], .n (.box), none⟩,
   ⟨(some 4), [.c (.int .i64 0)], .p (.mov), none⟩])
 (.seq (.seq (.ops [⟨(some 6), [.t 0], .p (.mov), none⟩,
   ⟨(some 7), [.t 6], .p (.lenSl), none⟩,
   ⟨(some 8), [.c (.int .i64 0)], .p (.mov), none⟩])
 (.block 0
  (.loop
   (.seq (.ops [⟨(some 9), [.t 8, .t 7], .p (.bin .lss), none⟩])
   (.seq (.cond (.t 9)
    (.skip)
    (.exit 0))
   (.seq (.block 1
    (.seq (.ops [⟨(some 10), [.t 8], .p (.mov), none⟩,
      ⟨(some 5), [.t 10], .p (.mov), none⟩])
    (.seq (.draw [(⟨(some 11), [.t 3], .r (.load (some 4)), none⟩, 0),
      (⟨(some 12), [.t 0], .p (.mov), none⟩, 0),
      (⟨(some 13), [.t 5], .p (.mov), none⟩, 0),
      (⟨(some 14), [.t 12, .t 13], .p (.iAddrS 4), none⟩, 0),
      (⟨(some 15), [.t 14], .r (.load (some 4)), none⟩, 0),
      (⟨(some 16), [.t 11, .t 15], .r (.eq false (.agg [(0, none, .int), (1, none, .int), (2, none, .int), (3, none, .int)])), none⟩, 0)])
    (.cond (.t 16)
     (.seq (.ops [⟨(some 17), [.t 5], .p (.mov), none⟩,
       ⟨(some 4), [.t 17], .p (.mov), none⟩])
     (.ret))
     (.skip)))))
   (.ops [⟨(some 18), [.t 8, .c (.int .i64 1)], .p (.bin .add), none⟩,
     ⟨(some 8), [.t 18], .p (.mov), none⟩])))))))
 (.seq (.ops [⟨(some 4), [.c (.int .i64 (-1))], .p (.mov), none⟩])
 (.ret)))
def r85 : List ARes := [.tmp 4]
def F85 : AFunc := .code c85 r85
/- (*glyphic/decode.reader).color -/
def c86 : AC :=
 .seq (.ops [⟨(some 2), [.c (.int .i64 0)], .p (.mov), none⟩])
 (.seq (.ops [⟨(some 6), [.t 0], .p (.mov), none⟩,
   ⟨(some 7), [.t 6], .w (.callF 51), none⟩,
   ⟨(some 5), [.t 7], .p (.mov), none⟩,
   ⟨(some 8), [.t 5], .p (.ext 0), none⟩,
   ⟨(some 9), [.t 5], .p (.ext 1), none⟩,
   ⟨(some 3), [.t 8], .p (.mov), none⟩,
   ⟨(some 4), [.t 9], .p (.mov), none⟩])
 (.seq (.block 0
  (.seq (.ops [⟨(some 11), [.t 0], .p (.mov), none⟩,
    ⟨(some 12), [.t 11], .p (.nilChk), none⟩,
    ⟨(some 13), [.t 12], .p (.fAddr 2), none⟩,
    ⟨(some 14), [.t 13], .r (.load none), none⟩,
    ⟨(some 15), [.t 14, .c .nilIface], .r (.eq true (.iface [209, 82] true)), none⟩,
    ⟨(some 10), [.t 15], .p (.mov), none⟩])
  (.cond (.t 10)
   (.seq (.ops [⟨(some 2), [.c (.int .i64 0)], .p (.mov), none⟩])
   (.ret))
   (.seq (.ops [⟨(some 17), [.t 3], .p (.mov), none⟩,
     ⟨(some 18), [.t 0], .p (.mov), none⟩,
     ⟨(some 19), [.t 18], .p (.nilChk), none⟩,
     ⟨(some 20), [.t 19], .p (.fAddr 6), none⟩,
     ⟨(some 21), [.t 20], .p (.fAddr 3), none⟩,
     ⟨(some 22), [.t 21], .r (.load none), none⟩,
     ⟨(some 23), [.t 22], .p (.lenSl), none⟩,
     ⟨(some 24), [.t 23], .p (.conv .u64), none⟩,
     ⟨(some 25), [.t 17, .t 24], .p (.bin .geq), none⟩,
     ⟨(some 16), [.t 25], .p (.mov), none⟩])
   (.cond (.t 16)
    (.seq (.ops [⟨(some 26), [.t 0], .p (.mov), none⟩,
      ⟨(some 27), [.t 4], .p (.mov), none⟩,
      ⟨(some 28), [.c (.ptr (some (8, 0)))], .r (.load none), none⟩,
      ⟨(some 29), [.t 26, .t 27, .t 28], .w (.callF 26), none⟩])
    (.seq (.ops [⟨(some 2), [.c (.int .i64 0)], .p (.mov), none⟩])
    (.ret)))
    (.seq (.ops [⟨(some 31), [.t 3], .p (.mov), none⟩,
      ⟨(some 32), [.t 0], .p (.mov), none⟩,
      ⟨(some 33), [.t 32], .p (.nilChk), none⟩,
      ⟨(some 34), [.t 33], .p (.fAddr 4), none⟩,
      ⟨(some 35), [.t 34], .r (.load none), none⟩,
      ⟨(some 36), [.t 35], .p (.conv .u64), none⟩,
      ⟨(some 37), [.t 31, .t 36], .p (.bin .gtr), none⟩,
      ⟨(some 30), [.t 37], .p (.mov), none⟩])
    (.cond (.t 30)
     (.seq (.ops [⟨(some 38), [.t 0], .p (.mov), none⟩,
       ⟨(some 39), [.t 4], .p (.mov), none⟩,
       ⟨(some 40), [.c (.ptr (some (18, 0)))], .r (.load none), none⟩,
       ⟨(some 41), [.t 38, .t 39, .t 40], .w (.callF 26), none⟩])
     (.seq (.ops [⟨(some 2), [.c (.int .i64 0)], .p (.mov), none⟩])
     (.ret)))
     (.skip))))))))
 (.seq (.ops [⟨(some 42), [.t 0], .p (.mov), none⟩,
   ⟨(some 43), [.t 0], .p (.mov), none⟩,
   ⟨(some 44), [.t 43], .p (.nilChk), none⟩,
   ⟨(some 45), [.t 44], .p (.fAddr 4), none⟩,
   ⟨(some 46), [.t 45], .r (.load none), none⟩,
   ⟨(some 47), [.t 3], .p (.mov), none⟩,
   ⟨(some 48), [.t 47], .p (.conv .i64), none⟩,
   ⟨(some 49), [.t 48, .c (.int .i64 1)], .p (.bin .add), none⟩,
   ⟨(some 50), [.t 46, .t 49], .p (.max), none⟩,
   ⟨(some 51), [.t 42], .p (.nilChk), none⟩,
   ⟨(some 52), [.t 51], .p (.fAddr 4), none⟩,
   ⟨none, [.t 52, .t 50], .w (.store 1), none⟩])
 (.seq (.ops [⟨(some 53), [.t 3], .p (.mov), none⟩,
   ⟨(some 54), [.t 53], .p (.conv .i64), none⟩,
   ⟨(some 2), [.t 54], .p (.mov), none⟩])
 (.ret)))))
def r86 : List ARes := [.tmp 2]
def F86 : AFunc := .code c86 r86
/- (*glyphic/decode.reader).point -/
def c87 : AC :=
 .seq (.ops [⟨(some 3), [.t 1], .n (.box), none⟩,
   ⟨(some 4), [], .n (.alloc [(.int .i64 0), (.int .i64 0)]), none⟩])
 (.seq (.ops [⟨(some 6), [.t 0], .p (.mov), none⟩,
   ⟨(some 7), [.t 3], .p (.fAddr 0), none⟩,
   ⟨(some 8), [.t 7], .r (.load none), none⟩,
   ⟨(some 9), [.t 6, .t 8], .w (.callF 88), none⟩,
   ⟨(some 5), [.t 9], .p (.mov), none⟩])
 (.seq (.ops [⟨(some 10), [.t 5], .p (.mov), none⟩,
   ⟨(some 11), [.t 0], .p (.mov), none⟩,
   ⟨(some 12), [.t 3], .p (.fAddr 1), none⟩,
   ⟨(some 13), [.t 12], .r (.load none), none⟩,
   ⟨(some 14), [.t 11, .t 13], .w (.callF 88), none⟩,
   ⟨(some 15), [.t 10, .t 14], .p (.build [(.int .i64 0), (.int .i64 0)] [(0, 1), (1, 1)]), none⟩,
   ⟨none, [.t 4, .t 15], .w (.store 2), none⟩])
 (.ret)))
def r87 : List ARes := [.cell 4 (some 2)]
def F87 : AFunc := .code c87 r87
/- (*glyphic/decode.reader).part -/
def c88 : AC :=
 .seq (.ops [⟨(some 4), [.c (.int .i64 0)], .p (.mov), none⟩])
 (.seq (.ops [⟨(some 9), [.t 0], .p (.mov), none⟩,
   ⟨(some 10), [.t 9], .w (.callF 51), none⟩,
   ⟨(some 8), [.t 10], .p (.mov), none⟩,
   ⟨(some 11), [.t 8], .p (.ext 0), none⟩,
   ⟨(some 12), [.t 8], .p (.ext 1), none⟩,
   ⟨(some 5), [.t 11], .p (.mov), none⟩,
   ⟨(some 6), [.t 12], .p (.mov), none⟩])
 (.seq (.ops [⟨(some 13), [.t 5], .p (.mov), none⟩,
   ⟨(some 14), [.t 13], .w (.callF 115), none⟩,
   ⟨(some 7), [.t 14], .p (.mov), none⟩])
 (.seq (.seq (.ops [⟨(some 15), [.t 7], .p (.mov), none⟩,
   ⟨(some 16), [.t 0], .p (.mov), none⟩,
   ⟨(some 17), [.t 16], .p (.nilChk), none⟩,
   ⟨(some 18), [.t 17], .p (.fAddr 3), none⟩,
   ⟨(some 19), [.t 18], .r (.load none), none⟩,
   ⟨(some 20), [.c (.int .i64 (-2)), .t 19], .p (.bin .mul), none⟩,
   ⟨(some 21), [.t 15, .t 20], .p (.bin .lss), none⟩,
   ⟨(some 22), [.t 21], .p (.mov), none⟩,
   ⟨(some 23), [.t 7], .p (.mov), some (22, false)⟩,
   ⟨(some 24), [.t 0], .p (.mov), some (22, false)⟩,
   ⟨(some 25), [.t 24], .p (.nilChk), some (22, false)⟩,
   ⟨(some 26), [.t 25], .p (.fAddr 3), some (22, false)⟩,
   ⟨(some 27), [.t 26], .r (.load none), some (22, false)⟩,
   ⟨(some 28), [.c (.int .i64 2), .t 27], .p (.bin .mul), some (22, false)⟩,
   ⟨(some 29), [.t 23, .t 28], .p (.bin .gtr), some (22, false)⟩,
   ⟨(some 30), [.t 22, .c (.bool true), .t 29], .p (.pick), none⟩,
   ⟨(some 31), [.t 30], .p (.mov), none⟩,
   ⟨(some 32), [.t 1], .p (.mov), some (31, false)⟩,
   ⟨(some 33), [.t 7], .p (.mov), some (31, false)⟩,
   ⟨(some 34), [.t 32, .t 33], .p (.bin .add), some (31, false)⟩,
   ⟨(some 35), [.t 0], .p (.mov), some (31, false)⟩,
   ⟨(some 36), [.t 35], .p (.nilChk), some (31, false)⟩,
   ⟨(some 37), [.t 36], .p (.fAddr 3), some (31, false)⟩,
   ⟨(some 38), [.t 37], .r (.load none), some (31, false)⟩,
   ⟨(some 39), [.t 38], .p (.un .neg), some (31, false)⟩,
   ⟨(some 40), [.t 34, .t 39], .p (.bin .lss), some (31, false)⟩,
   ⟨(some 41), [.t 31, .c (.bool true), .t 40], .p (.pick), none⟩,
   ⟨(some 42), [.t 41], .p (.mov), none⟩,
   ⟨(some 43), [.t 1], .p (.mov), some (42, false)⟩,
   ⟨(some 44), [.t 7], .p (.mov), some (42, false)⟩,
   ⟨(some 45), [.t 43, .t 44], .p (.bin .add), some (42, false)⟩,
   ⟨(some 46), [.t 0], .p (.mov), some (42, false)⟩,
   ⟨(some 47), [.t 46], .p (.nilChk), some (42, false)⟩,
   ⟨(some 48), [.t 47], .p (.fAddr 3), some (42, false)⟩,
   ⟨(some 49), [.t 48], .r (.load none), some (42, false)⟩,
   ⟨(some 50), [.t 45, .t 49], .p (.bin .gtr), some (42, false)⟩,
   ⟨(some 51), [.t 42, .c (.bool true), .t 50], .p (.pick), none⟩])
 (.cond (.t 51)
  (.seq (.ops [⟨(some 52), [.t 0], .p (.mov), none⟩,
    ⟨(some 53), [.t 6], .p (.mov), none⟩,
    ⟨(some 54), [.c (.ptr (some (8, 0)))], .r (.load none), none⟩,
    ⟨(some 55), [.t 52, .t 53, .t 54], .w (.callF 26), none⟩])
  (.seq (.ops [⟨(some 4), [.c (.int .i64 0)], .p (.mov), none⟩])
  (.ret)))
  (.skip)))
 (.seq (.ops [⟨(some 56), [.t 1], .p (.mov), none⟩,
   ⟨(some 57), [.t 7], .p (.mov), none⟩,
   ⟨(some 58), [.t 56, .t 57], .p (.bin .add), none⟩,
   ⟨(some 4), [.t 58], .p (.mov), none⟩])
 (.ret)))))
def r88 : List ARes := [.tmp 4]
def F88 : AFunc := .code c88 r88
/- (*glyphic/decode.reader).run -/
def c89 : AC :=
 .seq (.ops [⟨(some 5), [.t 2], .n (.box), none⟩,
   ⟨(some 6), [], .n (.alloc [(.int .i64 0), (.int .i64 0)]), none⟩])
 (.seq (.ops [⟨(some 15), [.t 0], .p (.mov), none⟩,
   ⟨(some 16), [.t 15], .w (.callF 51), none⟩,
   ⟨(some 14), [.t 16], .p (.mov), none⟩,
   ⟨(some 17), [.t 14], .p (.ext 0), none⟩,
   ⟨(some 18), [.t 14], .p (.ext 1), none⟩,
   ⟨(some 7), [.t 17], .p (.mov), none⟩,
   ⟨(some 8), [.t 18], .p (.mov), none⟩])
 (.seq (.ops [⟨(some 19), [.t 7], .p (.mov), none⟩,
   ⟨(some 20), [.t 19, .c (.int .u64 3)], .p (.bin .and), none⟩,
   ⟨(some 21), [.t 20], .p (.conv .i64), none⟩,
   ⟨(some 22), [.t 7], .p (.mov), none⟩,
   ⟨(some 23), [.t 22, .c (.int .u64 2)], .p (.bin .shr), none⟩,
   ⟨(some 9), [.t 21], .p (.mov), none⟩,
   ⟨(some 10), [.t 23], .p (.mov), none⟩])
 (.seq (.ops [⟨(some 24), [.t 1], .p (.mov), none⟩,
   ⟨(some 25), [.t 24], .p (.nilChk), none⟩,
   ⟨(some 26), [.t 25], .p (.fAddr 2), none⟩,
   ⟨(some 27), [.t 26], .r (.load none), none⟩,
   ⟨(some 28), [.t 27], .p (.lenSl), none⟩,
   ⟨(some 11), [.t 28], .p (.mov), none⟩])
 (.seq (.block 0
  (.seq (.ops [⟨(some 30), [.t 0], .p (.mov), none⟩,
    ⟨(some 31), [.t 30], .p (.nilChk), none⟩,
    ⟨(some 32), [.t 31], .p (.fAddr 2), none⟩,
    ⟨(some 33), [.t 32], .r (.load none), none⟩,
    ⟨(some 34), [.t 33, .c .nilIface], .r (.eq true (.iface [209, 82] true)), none⟩,
    ⟨(some 29), [.t 34], .p (.mov), none⟩])
  (.cond (.t 29)
   (.skip)
   (.seq (.ops [⟨(some 36), [.t 9], .p (.mov), none⟩,
     ⟨(some 37), [.t 36, .c (.int .i64 0)], .p (.bin .eql), none⟩,
     ⟨(some 38), [.t 37], .p (.mov), none⟩,
     ⟨(some 39), [.t 10], .p (.mov), some (38, false)⟩,
     ⟨(some 40), [.t 39, .c (.int .u64 0)], .p (.bin .eql), some (38, false)⟩,
     ⟨(some 41), [.t 38, .c (.bool true), .t 40], .p (.pick), none⟩,
     ⟨(some 35), [.t 41], .p (.mov), none⟩])
   (.cond (.t 35)
    (.ops [⟨(some 42), [.t 0], .p (.mov), none⟩,
      ⟨(some 43), [.t 8], .p (.mov), none⟩,
      ⟨(some 44), [.c (.ptr (some (8, 0)))], .r (.load none), none⟩,
      ⟨(some 45), [.t 42, .t 43, .t 44], .w (.callF 26), none⟩])
    (.seq (.ops [⟨(some 47), [.t 11], .p (.mov), none⟩,
      ⟨(some 48), [.t 47, .c (.int .i64 0)], .p (.bin .gtr), none⟩,
      ⟨(some 49), [.t 48], .p (.mov), none⟩,
      ⟨(some 50), [.t 1], .p (.mov), some (49, true)⟩,
      ⟨(some 51), [.t 50], .p (.nilChk), some (49, true)⟩,
      ⟨(some 52), [.t 51], .p (.fAddr 2), some (49, true)⟩,
      ⟨(some 53), [.t 52], .r (.load none), some (49, true)⟩,
      ⟨(some 54), [.t 11], .p (.mov), some (49, true)⟩,
      ⟨(some 55), [.t 54, .c (.int .i64 1)], .p (.bin .sub), some (49, true)⟩,
      ⟨(some 56), [.t 53, .t 55], .p (.iAddrS 7), some (49, true)⟩,
      ⟨(some 57), [.t 56], .p (.fAddr 0), some (49, true)⟩,
      ⟨(some 58), [.t 57], .r (.load none), some (49, true)⟩,
      ⟨(some 59), [.t 9], .p (.mov), some (49, true)⟩,
      ⟨(some 60), [.t 58, .t 59], .p (.bin .eql), some (49, true)⟩,
      ⟨(some 61), [.t 49, .t 60, .c (.bool false)], .p (.pick), none⟩,
      ⟨(some 46), [.t 61], .p (.mov), none⟩])
    (.cond (.t 46)
     (.ops [⟨(some 62), [.t 0], .p (.mov), none⟩,
       ⟨(some 63), [.t 8], .p (.mov), none⟩,
       ⟨(some 64), [.c (.ptr (some (18, 0)))], .r (.load none), none⟩,
       ⟨(some 65), [.t 62, .t 63, .t 64], .w (.callF 26), none⟩])
     (.seq (.ops [⟨(some 67), [.t 10], .p (.mov), none⟩,
       ⟨(some 68), [.t 11], .p (.mov), none⟩,
       ⟨(some 69), [.c (.int .i64 400), .t 68], .p (.bin .sub), none⟩,
       ⟨(some 70), [.t 69], .p (.conv .u64), none⟩,
       ⟨(some 71), [.t 67, .t 70], .p (.bin .gtr), none⟩,
       ⟨(some 72), [.t 71], .p (.mov), none⟩,
       ⟨(some 73), [.t 0], .p (.mov), some (72, false)⟩,
       ⟨(some 74), [.t 73], .p (.nilChk), some (72, false)⟩,
       ⟨(some 75), [.t 74], .p (.fAddr 5), some (72, false)⟩,
       ⟨(some 76), [.t 75], .r (.load none), some (72, false)⟩,
       ⟨(some 77), [.t 10], .p (.mov), some (72, false)⟩,
       ⟨(some 78), [.t 77], .p (.conv .i64), some (72, false)⟩,
       ⟨(some 79), [.t 9], .p (.mov), some (72, false)⟩,
       ⟨(some 80), [.t 78, .t 79], .p (.bin .mul), some (72, false)⟩,
       ⟨(some 81), [.t 76, .t 80], .p (.bin .add), some (72, false)⟩,
       ⟨(some 82), [.t 81, .c (.int .i64 4000)], .p (.bin .gtr), some (72, false)⟩,
       ⟨(some 83), [.t 72, .c (.bool true), .t 82], .p (.pick), none⟩,
       ⟨(some 66), [.t 83], .p (.mov), none⟩])
     (.cond (.t 66)
      (.ops [⟨(some 84), [.t 0], .p (.mov), none⟩,
        ⟨(some 85), [.t 8], .p (.mov), none⟩,
        ⟨(some 86), [.c (.ptr (some (10, 0)))], .r (.load none), none⟩,
        ⟨(some 87), [.t 84, .t 85, .t 86], .w (.callF 26), none⟩])
      (.skip))))))))))
 (.seq (.seq (.ops [⟨(some 88), [.t 0], .p (.mov), none⟩,
   ⟨(some 89), [.t 88], .p (.nilChk), none⟩,
   ⟨(some 90), [.t 89], .p (.fAddr 2), none⟩,
   ⟨(some 91), [.t 90], .r (.load none), none⟩,
   ⟨(some 92), [.t 91, .c .nilIface], .r (.eq true (.iface [209, 82] true)), none⟩])
 (.cond (.t 92)
  (.seq (.ops [⟨(some 93), [.t 5], .r (.load (some 2)), none⟩,
    ⟨none, [.t 6, .t 93], .w (.store 2), none⟩])
  (.ret))
  (.skip)))
 (.seq (.ops [⟨(some 94), [.t 0], .p (.mov), none⟩,
   ⟨(some 95), [.t 94], .p (.nilChk), none⟩,
   ⟨(some 96), [.t 95], .p (.fAddr 5), none⟩,
   ⟨(some 97), [.t 96], .r (.load none), none⟩,
   ⟨(some 98), [.t 10], .p (.mov), none⟩,
   ⟨(some 99), [.t 98], .p (.conv .i64), none⟩,
   ⟨(some 100), [.t 9], .p (.mov), none⟩,
   ⟨(some 101), [.t 99, .t 100], .p (.bin .mul), none⟩,
   ⟨(some 102), [.t 97, .t 101], .p (.bin .add), none⟩,
   ⟨(some 103), [.t 94], .p (.nilChk), none⟩,
   ⟨(some 104), [.t 103], .p (.fAddr 5), none⟩,
   ⟨none, [.t 104, .t 102], .w (.store 1), none⟩])
 (.seq (.seq (.ops [⟨(some 105), [.t 10], .p (.mov), none⟩,
   ⟨(some 106), [.c (.int .u64 0)], .p (.mov), none⟩])
 (.block 1
  (.loop
   (.seq (.ops [⟨(some 107), [.t 106, .t 105], .p (.bin .lss), none⟩])
   (.seq (.cond (.t 107)
    (.skip)
    (.exit 1))
   (.seq (.block 2
    (.seq (.ops [⟨(some 108), [.t 9], .p (.mov), none⟩,
      ⟨(some 109), [.t 108], .p (.build [(.int .i64 0), (.int .i64 0), (.int .i64 0), (.int .i64 0), (.int .i64 0), (.int .i64 0), (.int .i64 0)] [(0, 1)]), none⟩,
      ⟨(some 12), [], .n (.alloc [(.int .i64 0), (.int .i64 0), (.int .i64 0), (.int .i64 0), (.int .i64 0), (.int .i64 0), (.int .i64 0)]), none⟩,
      ⟨none, [.t 12, .t 109], .w (.store 7), none⟩])
    (.seq (.seq (.ops [⟨(some 110), [.t 9], .p (.mov), none⟩,
      ⟨(some 111), [.c (.int .i64 0)], .p (.mov), none⟩])
    (.block 3
     (.loop
      (.seq (.ops [⟨(some 112), [.t 111, .t 110], .p (.bin .lss), none⟩])
      (.seq (.cond (.t 112)
       (.skip)
       (.exit 3))
      (.seq (.block 4
       (.seq (.ops [⟨(some 113), [.t 111], .p (.mov), none⟩,
         ⟨(some 13), [.t 113], .p (.mov), none⟩])
       (.seq (.ops [⟨(some 114), [.t 0], .p (.mov), none⟩,
         ⟨(some 115), [.t 5], .r (.load (some 2)), none⟩,
         ⟨(some 116), [.t 114, .t 115], .w (.callF 87), none⟩,
         ⟨none, [.t 5, .t 116], .w (.store 2), none⟩])
       (.ops [⟨(some 117), [.t 13], .p (.mov), none⟩,
         ⟨(some 118), [.t 5], .r (.load (some 2)), none⟩,
         ⟨(some 119), [.t 12], .p (.fAddr 1), none⟩,
         ⟨(some 120), [.t 119, .t 117], .p (.iAddrA 3 2), none⟩,
         ⟨none, [.t 120, .t 118], .w (.store 2), none⟩]))))
      (.ops [⟨(some 121), [.t 111, .c (.int .i64 1)], .p (.bin .add), none⟩,
        ⟨(some 111), [.t 121], .p (.mov), none⟩])))))))
    (.seq (.seq (.ops [⟨(some 122), [.t 0], .p (.mov), none⟩,
      ⟨(some 123), [.t 122], .p (.nilChk), none⟩,
      ⟨(some 124), [.t 123], .p (.fAddr 2), none⟩,
      ⟨(some 125), [.t 124], .r (.load none), none⟩,
      ⟨(some 126), [.t 125, .c .nilIface], .r (.eq true (.iface [209, 82] true)), none⟩])
    (.cond (.t 126)
     (.seq (.ops [⟨(some 127), [.t 5], .r (.load (some 2)), none⟩,
       ⟨none, [.t 6, .t 127], .w (.store 2), none⟩])
     (.ret))
     (.skip)))
    (.draw [(⟨(some 129), [.t 1], .p (.mov), none⟩, 0),
      (⟨(some 130), [.t 129], .p (.nilChk), none⟩, 0),
      (⟨(some 131), [.t 130], .p (.fAddr 2), none⟩, 0),
      (⟨(some 132), [.t 131], .r (.load none), none⟩, 0),
      (⟨(some 133), [.t 12], .r (.load (some 7)), none⟩, 0),
      (⟨(some 134), [.t 133], .n (.bslice 1 [(.int .i64 0), (.int .i64 0), (.int .i64 0), (.int .i64 0), (.int .i64 0), (.int .i64 0), (.int .i64 0)] [(0, 7)]), none⟩, 0),
      (⟨(some 135), [.t 132, .t 134], .w (.append 7 56), none⟩, 0),
      (⟨(some 128), [.t 1], .p (.mov), none⟩, 0),
      (⟨(some 136), [.t 128], .p (.nilChk), none⟩, 0),
      (⟨(some 137), [.t 136], .p (.fAddr 2), none⟩, 0),
      (⟨none, [.t 137, .t 135], .w (.store 1), none⟩, 0)])))))
   (.ops [⟨(some 138), [.t 106, .c (.int .u64 1)], .p (.bin .add), none⟩,
     ⟨(some 106), [.t 138], .p (.mov), none⟩])))))))
 (.seq (.ops [⟨(some 139), [.t 5], .r (.load (some 2)), none⟩,
   ⟨none, [.t 6, .t 139], .w (.store 2), none⟩])
 (.ret)))))))))
def r89 : List ARes := [.cell 6 (some 2)]
def F89 : AFunc := .code c89 r89
/- glyphic/wire.Zag -/
def c115 : AC :=
 .seq (.ops [⟨(some 2), [.c (.int .i64 0)], .p (.mov), none⟩])
 (.seq (.ops [⟨(some 3), [.t 0], .p (.mov), none⟩,
   ⟨(some 4), [.t 3, .c (.int .u64 1)], .p (.bin .shr), none⟩,
   ⟨(some 5), [.t 4], .p (.conv .i64), none⟩,
   ⟨(some 6), [.t 0], .p (.mov), none⟩,
   ⟨(some 7), [.t 6, .c (.int .u64 1)], .p (.bin .and), none⟩,
   ⟨(some 8), [.t 7], .p (.conv .i64), none⟩,
   ⟨(some 9), [.t 8], .p (.un .neg), none⟩,
   ⟨(some 10), [.t 5, .t 9], .p (.bin .xor), none⟩,
   ⟨(some 2), [.t 10], .p (.mov), none⟩])
 (.ret))
def r115 : List ARes := [.tmp 2]
def F115 : AFunc := .code c115 r115
def cfg : Cfg := ⟨[(5, 0), (8, 2), (9, 4), (10, 6), (6, 8), (0, 10), (1, 12), (2, 14), (11, 16), (3, 18), (4, 20), (12, 22), (13, 24)], [209, 82]⟩
def envL : List (Nat × AFunc) := [(3, F3), (9, F9), (10, F10), (11, F11), (12, F12), (25, F25), (26, F26), (27, F27), (28, F28), (29, F29), (30, F30), (31, F31), (32, F32), (33, F33), (45, F45), (46, F46), (50, F50), (51, F51), (52, F52), (53, F53), (54, F54), (78, F78), (82, F82), (83, F83), (84, F84), (85, F85), (86, F86), (87, F87), (88, F88), (89, F89), (115, F115)]
end
end Go.FR.DE
