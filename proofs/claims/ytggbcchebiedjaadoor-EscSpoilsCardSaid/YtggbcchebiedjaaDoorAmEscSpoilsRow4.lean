/-
A part of the proof of a law: esc code, esc shelf, am fresh, am app, esc app, am fits, esc app g, esc good, tw val, tw wp.
-/
import Derived.Test.YtggbcchebiedjaaDoorAmEscSpoilsRow3
import Derived.Shelf.Strconv.AppendUint10
import Derived.Ground.NamesProg
import Derived.Test.YtggbcchebiedjaaDoorProg
import Derived.Shelf.Strconv.Itoa1
import Derived.Shelf.Strconv.Itoa2
import Derived.Lib.Walk
import Derived.Lib.ItoaWalk
import Derived.Lib.ItoaMem
import Derived.Lib.AppendIntMem
import Derived.Lib.BufferKept
import Derived.Lib.Slices
import Derived.Lib.Hide
import Derived.OwnWalk
import Derived.WalkKit
import Derived.ChangeReads
import Derived.ChangeArms
import Derived.Lib.ItoaLen
namespace Go.Proofs.YtggbcchebiedjaaDoor.Am.Esc
def p3 : Plan := ⟨[], 0, [((4, 1), { uses := [(15, .share)] }),
    ((4, 2), { uses := [(16, .share)] }),
    ((5, 1), { uses := [(17, .take)] }),
    ((11, 0), { uses := [(8, .take)] }),
    ((11, 7), { uses := [(37, .share)] }),
    ((11, 8), { uses := [(31, .take), (38, .take)] }),
    ((11, 9), { uses := [(39, .take)] }),
    ((14, 0), { uses := [(8, .take)] }),
    ((14, 4), { uses := [(47, .share)] }),
    ((14, 5), { uses := [(44, .take), (48, .take)] }),
    ((14, 6), { uses := [(49, .take)] }),
    ((15, 0), { uses := [(8, .take)] }),
    ((15, 2), { uses := [(50, .share), (51, .share)] })],
  [[0, 5, 6, 7, 8, 9, 18, 19, 20]]⟩
def a3 : AFunc := ⟨2, 58, 0, [.tmp 4],
  .seq (.region false [⟨(some 4), none, false, .mv (.c (.bool false)), .none⟩])
  (.seq (.seq (.region false [⟨(some 13), none, false, .callF 9 [], .none⟩,
    ⟨(some 14), none, false, .un .not (.t 13), .none⟩])
  (.cond (.t 14)
   (.seq (.region false [⟨(some 4), none, false, .mv (.c (.bool false)), .none⟩])
   (.ret))
   (.skip)))
  (.seq (.region false [⟨(some 5), none, false, .allocM [.nils, (.int .i64 0), (.bool false), (.bool false), (.int .i64 0), (.int .i32 0), (.int .u8 0), (.int .u8 0), (.str []), .nils, (.str []), (.int .i64 0), .nils, .nils], .none⟩,
    ⟨(some 6), none, false, .allocM [.nils, (.int .i64 0), (.bool false), (.bool false), (.int .i64 0), (.int .i32 0), (.int .u8 0), (.int .u8 0), (.str []), .nils, (.str []), (.int .i64 0), .nils, .nils], .none⟩])
  (.seq (.region false [⟨(some 15), none, false, .mv (.t 0), .none⟩,
    ⟨(some 16), none, false, .callF 10 [(.t 6), (.u 15 .share)], .none⟩,
    ⟨(some 7), none, false, .mv (.u 16 .share), .none⟩])
  (.seq (.region false [⟨(some 17), none, false, .buildSlice 7 [(.int .i64 0), (.int .i32 0), (.int .u8 0), (.int .u8 0), (.str []), .nils, (.str [])] 0 [], .none⟩,
    ⟨(some 8), none, false, .mv (.u 17 .take), .none⟩])
  (.seq (.region false [⟨(some 9), none, false, .mv (.c (.int .i64 0)), .none⟩])
  (.seq (.seq (.region false [⟨(some 18), none, false, .mv (.t 1), .none⟩,
    ⟨(some 19), none, false, .lenSl (.t 18), .none⟩,
    ⟨(some 20), none, false, .mv (.c (.int .i64 0)), .none⟩])
  (.block 0 (.loop [0, 5, 6, 7, 8, 9, 18, 19, 20] (.seq (.region false [⟨(some 21), none, false, .bin .lss (.t 20) (.t 19), .none⟩])
   (.seq (.cond (.t 21)
    (.skip)
    (.exit 0))
   (.seq (.block 1 (.seq (.region false [⟨(some 22), none, false, .indexSl 1 (.t 18) (.t 20), .none⟩,
     ⟨(some 23), none, false, .load false 1 (.t 22) .copy, .none⟩,
     ⟨(some 11), none, false, .mv (.t 23), .none⟩])
   (.seq (.region false [⟨(some 24), none, false, .mv (.t 11), .none⟩,
     ⟨(some 25), none, false, .bin .and (.t 24) (.c (.int .i64 15)), .none⟩,
     ⟨(some 26), none, false, .mv (.t 0), .none⟩,
     ⟨(some 27), none, false, .lenSl (.t 26), .none⟩,
     ⟨(some 28), none, false, .mv (.t 9), .none⟩,
     ⟨(some 29), none, false, .bin .sub (.t 27) (.t 28), .none⟩,
     ⟨(some 30), none, false, .minMax false (.t 25) [(.t 29)], .none⟩,
     ⟨(some 12), none, false, .mv (.t 30), .none⟩])
   (.seq (.region false [⟨(some 31), none, false, .mv (.u 8 .take), .none⟩,
     ⟨(some 32), none, false, .mv (.t 0), .none⟩,
     ⟨(some 33), none, false, .mv (.t 9), .none⟩,
     ⟨(some 34), none, false, .mv (.t 9), .none⟩,
     ⟨(some 35), none, false, .mv (.t 12), .none⟩,
     ⟨(some 36), none, false, .bin .add (.t 34) (.t 35), .none⟩,
     ⟨(some 37), none, false, .sliceV 1 (.t 32) (some (.t 33)) (some (.t 36)), .none⟩,
     ⟨(some 38), none, false, .callF 10 [(.t 5), (.u 37 .share)], .none⟩,
     ⟨(some 39), none, false, .append 7 (.u 31 .take) (.u 38 .take), .none⟩,
     ⟨(some 8), none, false, .mv (.u 39 .take), .none⟩])
   (.region false [⟨(some 40), none, false, .mv (.t 9), .none⟩,
     ⟨(some 41), none, false, .mv (.t 12), .none⟩,
     ⟨(some 42), none, false, .bin .add (.t 40) (.t 41), .none⟩,
     ⟨(some 9), none, false, .mv (.t 42), .none⟩])))))
   (.region false [⟨(some 43), none, false, .bin .add (.t 20) (.c (.int .i64 1)), .none⟩,
     ⟨(some 20), none, false, .mv (.t 43), .none⟩])))))))
  (.seq (.region false [⟨(some 44), none, false, .mv (.u 8 .take), .none⟩,
    ⟨(some 45), none, false, .mv (.t 0), .none⟩,
    ⟨(some 46), none, false, .mv (.t 9), .none⟩,
    ⟨(some 47), none, false, .sliceV 1 (.t 45) (some (.t 46)) none, .none⟩,
    ⟨(some 48), none, false, .callF 10 [(.t 5), (.u 47 .share)], .none⟩,
    ⟨(some 49), none, false, .append 7 (.u 44 .take) (.u 48 .take), .none⟩,
    ⟨(some 8), none, false, .mv (.u 49 .take), .none⟩])
  (.seq (.region false [⟨(some 50), none, false, .mv (.u 8 .take), .none⟩,
    ⟨(some 51), none, false, .mv (.t 7), .none⟩,
    ⟨(some 52), none, false, .callF 11 [(.u 50 .share), (.u 51 .share)], .none⟩,
    ⟨(some 53), none, false, .mv (.t 52), .none⟩,
    ⟨(some 54), (some (53, true)), false, .callF 12 [(.t 5)], .none⟩,
    ⟨(some 55), (some (53, true)), false, .callF 12 [(.t 6)], .none⟩,
    ⟨(some 56), (some (53, true)), false, .eq false .bool (.t 54) (.t 55), .none⟩,
    ⟨(some 57), none, false, .pick (.t 53) (.t 56) (.c (.bool false)), .none⟩,
    ⟨(some 4), none, false, .mv (.t 57), .none⟩])
  (.ret)))))))))⟩
def v3 : List Nat := [0, 1, 4, 5, 6, 7, 8, 9, 11, 12, 14, 18, 19, 20, 21]
def b3 : List Nat := []
theorem c3 : cFunc Go.Proofs.Tryd.prog p3 3 = some a3 := by decide +kernel
def p4 : Plan := ⟨[], 0, [((4, 1), { uses := [(9, .share)] }),
    ((5, 1), { uses := [(11, .share)] }),
    ((6, 3), { uses := [(15, .share)] }),
    ((6, 5), { uses := [(17, .share)] }),
    ((6, 6), { uses := [(16, .share), (18, .share)] })],
  []⟩
def a4 : AFunc := ⟨2, 26, 0, [.tmp 4],
  .seq (.region false [⟨(some 4), none, false, .mv (.c (.bool false)), .none⟩])
  (.seq (.seq (.region false [⟨(some 7), none, false, .callF 9 [], .none⟩,
    ⟨(some 8), none, false, .un .not (.t 7), .none⟩])
  (.cond (.t 8)
   (.seq (.region false [⟨(some 4), none, false, .mv (.c (.bool false)), .none⟩])
   (.ret))
   (.skip)))
  (.seq (.region false [⟨(some 5), none, false, .allocM [.nils, (.int .i64 0), (.bool false), (.bool false), (.int .i64 0), (.int .i32 0), (.int .u8 0), (.int .u8 0), (.str []), .nils, (.str []), (.int .i64 0), .nils, .nils], .none⟩,
    ⟨(some 6), none, false, .allocM [.nils, (.int .i64 0), (.bool false), (.bool false), (.int .i64 0), (.int .i32 0), (.int .u8 0), (.int .u8 0), (.str []), .nils, (.str []), (.int .i64 0), .nils, .nils], .none⟩])
  (.seq (.region false [⟨(some 9), none, false, .mv (.t 0), .none⟩,
    ⟨(some 10), none, false, .callF 10 [(.t 5), (.u 9 .share)], .none⟩])
  (.seq (.region false [⟨(some 11), none, false, .buildSlice 1 [(.int .u8 0)] 1 [(0, (.c (.int .u8 24)))], .none⟩,
    ⟨(some 12), none, false, .callF 10 [(.t 5), (.u 11 .share)], .none⟩])
  (.seq (.region false [⟨(some 13), none, false, .callF 12 [(.t 5)], .none⟩,
    ⟨(some 14), none, false, .mv (.t 13), .none⟩,
    ⟨(some 15), (some (14, true)), false, .mv (.t 1), .none⟩,
    ⟨(some 16), (some (14, true)), false, .callF 10 [(.t 5), (.u 15 .share)], .none⟩,
    ⟨(some 17), (some (14, true)), false, .mv (.t 1), .none⟩,
    ⟨(some 18), (some (14, true)), false, .callF 10 [(.t 6), (.u 17 .share)], .none⟩,
    ⟨(some 19), (some (14, true)), false, .callF 11 [(.u 16 .share), (.u 18 .share)], .none⟩,
    ⟨(some 20), none, false, .pick (.t 14) (.t 19) (.c (.bool false)), .none⟩,
    ⟨(some 21), none, false, .mv (.t 20), .none⟩,
    ⟨(some 22), (some (21, true)), false, .callF 12 [(.t 5)], .none⟩,
    ⟨(some 23), (some (21, true)), false, .callF 12 [(.t 6)], .none⟩,
    ⟨(some 24), (some (21, true)), false, .eq false .bool (.t 22) (.t 23), .none⟩,
    ⟨(some 25), none, false, .pick (.t 21) (.t 24) (.c (.bool false)), .none⟩,
    ⟨(some 4), none, false, .mv (.t 25), .none⟩])
  (.ret))))))⟩
def v4 : List Nat := [0, 1, 4, 5, 6, 8]
def b4 : List Nat := []
theorem c4 : cFunc Go.Proofs.Tryd.prog p4 4 = some a4 := by decide +kernel
def p5 : Plan := ⟨[], 0, [((3, 3), { uses := [(19, .share)] }),
    ((3, 4), { uses := [(21, .share)] }),
    ((4, 4), { uses := [(24, .share)] }),
    ((4, 5), { uses := [(22, .share), (26, .share)] }),
    ((9, 1), { uses := [(60, .take)] }),
    ((14, 0), { uses := [(11, .take)] }),
    ((14, 5), { uses := [(70, .take), (74, .take)] }),
    ((14, 6), { uses := [(75, .take)] }),
    ((17, 1), { uses := [(77, .share)] }),
    ((18, 1), { uses := [(79, .share)] }),
    ((19, 1), { uses := [(81, .share)] }),
    ((19, 2), { uses := [(82, .share)] }),
    ((20, 38), { uses := [(11, .take)] }),
    ((20, 39), { uses := [(120, .share), (121, .share)] })],
  [[0, 2, 3, 9, 11, 61, 62, 63]]⟩
def a5 : AFunc := ⟨4, 127, 0, [.tmp 8],
  .seq (.region false [⟨(some 8), none, false, .mv (.c (.bool false)), .none⟩])
  (.seq (.seq (.region false [⟨(some 16), none, false, .callF 9 [], .none⟩,
    ⟨(some 17), none, false, .un .not (.t 16), .none⟩])
  (.cond (.t 17)
   (.seq (.region false [⟨(some 8), none, false, .mv (.c (.bool false)), .none⟩])
   (.ret))
   (.skip)))
  (.seq (.region false [⟨(some 18), none, false, .mv (.t 0), .none⟩,
    ⟨(some 19), none, false, .mv (.t 1), .none⟩,
    ⟨(some 20), none, false, .mv (.t 2), .none⟩,
    ⟨(some 21), none, false, .callF 13 [(.t 18), (.u 19 .share), (.t 20)], .none⟩,
    ⟨(some 9), none, false, .mv (.u 21 .share), .none⟩])
  (.seq (.seq (.region false [⟨(some 22), none, false, .mv (.t 9), .none⟩,
    ⟨(some 23), none, false, .mv (.t 0), .none⟩,
    ⟨(some 24), none, false, .mv (.t 1), .none⟩,
    ⟨(some 25), none, false, .mv (.t 2), .none⟩,
    ⟨(some 26), none, false, .callF 15 [(.t 23), (.u 24 .share), (.t 25)], .none⟩,
    ⟨(some 27), none, false, .callF 14 [(.u 22 .share), (.u 26 .share)], .none⟩,
    ⟨(some 28), none, false, .un .not (.t 27), .none⟩])
  (.cond (.t 28)
   (.seq (.region false [⟨(some 8), none, false, .mv (.c (.bool false)), .none⟩])
   (.ret))
   (.skip)))
  (.seq (.region false [⟨(some 29), none, false, .mv (.t 0), .none⟩,
    ⟨(some 30), none, false, .bin .eql (.t 29) (.c (.int .u8 0)), .none⟩,
    ⟨(some 31), none, false, .mv (.t 30), .none⟩,
    ⟨(some 32), (some (31, false)), false, .mv (.t 0), .none⟩,
    ⟨(some 33), (some (31, false)), false, .bin .geq (.t 32) (.c (.int .u8 60)), .none⟩,
    ⟨(some 34), (some (31, false)), false, .mv (.t 33), .none⟩,
    ⟨(some 35), (some (34, true)), false, .mv (.t 0), .none⟩,
    ⟨(some 36), (some (34, true)), false, .bin .leq (.t 35) (.c (.int .u8 63)), .none⟩,
    ⟨(some 37), (some (31, false)), false, .pick (.t 34) (.t 36) (.c (.bool false)), .none⟩,
    ⟨(some 38), none, false, .pick (.t 31) (.c (.bool true)) (.t 37), .none⟩,
    ⟨(some 10), none, false, .mv (.t 38), .none⟩])
  (.seq (.seq (.region false [⟨(some 39), none, false, .mv (.t 10), .none⟩,
    ⟨(some 40), none, false, .un .not (.t 39), .none⟩,
    ⟨(some 41), none, false, .mv (.t 40), .none⟩,
    ⟨(some 42), (some (41, false)), false, .mv (.t 2), .none⟩,
    ⟨(some 43), (some (41, false)), false, .bin .lss (.t 42) (.c (.int .u8 64)), .none⟩,
    ⟨(some 44), none, false, .pick (.t 41) (.c (.bool true)) (.t 43), .none⟩,
    ⟨(some 45), none, false, .mv (.t 44), .none⟩,
    ⟨(some 46), (some (45, false)), false, .mv (.t 2), .none⟩,
    ⟨(some 47), (some (45, false)), false, .bin .gtr (.t 46) (.c (.int .u8 126)), .none⟩,
    ⟨(some 48), none, false, .pick (.t 45) (.c (.bool true)) (.t 47), .none⟩,
    ⟨(some 49), none, false, .mv (.t 48), .none⟩,
    ⟨(some 50), (some (49, false)), false, .mv (.t 1), .none⟩,
    ⟨(some 51), (some (49, false)), false, .lenSl (.t 50), .none⟩,
    ⟨(some 52), (some (49, false)), false, .bin .eql (.t 51) (.c (.int .i64 1)), .none⟩,
    ⟨(some 53), (some (49, false)), false, .mv (.t 52), .none⟩,
    ⟨(some 54), (some (53, true)), false, .mv (.t 1), .none⟩,
    ⟨(some 55), (some (53, true)), false, .indexSl 1 (.t 54) (.c (.int .i64 0)), .none⟩,
    ⟨(some 56), (some (53, true)), false, .load false 1 (.t 55) .copy, .none⟩,
    ⟨(some 57), (some (53, true)), false, .bin .lss (.t 56) (.c (.int .i64 0)), .none⟩,
    ⟨(some 58), (some (49, false)), false, .pick (.t 53) (.t 57) (.c (.bool false)), .none⟩,
    ⟨(some 59), none, false, .pick (.t 49) (.c (.bool true)) (.t 58), .none⟩])
  (.cond (.t 59)
   (.seq (.region false [⟨(some 8), none, false, .mv (.c (.bool true)), .none⟩])
   (.ret))
   (.skip)))
  (.seq (.region false [⟨(some 60), none, false, .buildSlice 1 [(.int .i64 0)] 0 [], .none⟩,
    ⟨(some 11), none, false, .mv (.u 60 .take), .none⟩])
  (.seq (.seq (.region false [⟨(some 61), none, false, .mv (.t 1), .none⟩,
    ⟨(some 62), none, false, .lenSl (.t 61), .none⟩,
    ⟨(some 63), none, false, .mv (.c (.int .i64 0)), .none⟩])
  (.block 0 (.loop [0, 2, 3, 9, 11, 61, 62, 63] (.seq (.region false [⟨(some 64), none, false, .bin .lss (.t 63) (.t 62), .none⟩])
   (.seq (.cond (.t 64)
    (.skip)
    (.exit 0))
   (.seq (.block 1 (.seq (.region false [⟨(some 65), none, false, .mv (.t 63), .none⟩,
     ⟨(some 66), none, false, .indexSl 1 (.t 61) (.t 63), .none⟩,
     ⟨(some 67), none, false, .load false 1 (.t 66) .copy, .none⟩,
     ⟨(some 12), none, false, .mv (.t 65), .none⟩,
     ⟨(some 13), none, false, .mv (.t 67), .none⟩])
   (.seq (.region false [⟨(some 68), none, false, .mv (.t 12), .none⟩,
     ⟨(some 69), none, false, .bin .lss (.t 68) (.c (.int .i64 16)), .none⟩])
   (.cond (.t 69)
    (.region false [⟨(some 70), none, false, .mv (.u 11 .take), .none⟩,
      ⟨(some 71), none, false, .mv (.t 13), .none⟩,
      ⟨(some 72), none, false, .minMax false (.t 71) [(.c (.int .i64 9999))], .none⟩,
      ⟨(some 73), none, false, .minMax true (.c (.int .i64 (-1))) [(.t 72)], .none⟩,
      ⟨(some 74), none, false, .buildSlice 1 [(.int .i64 0)] 1 [(0, (.t 73))], .none⟩,
      ⟨(some 75), none, false, .append 1 (.u 70 .take) (.u 74 .take), .none⟩,
      ⟨(some 11), none, false, .mv (.u 75 .take), .none⟩])
    (.skip)))))
   (.region false [⟨(some 76), none, false, .bin .add (.t 63) (.c (.int .i64 1)), .none⟩,
     ⟨(some 63), none, false, .mv (.t 76), .none⟩])))))))
  (.seq (.region false [⟨(some 14), none, false, .allocM [.nils, (.int .i64 0), (.bool false), (.bool false), (.int .i64 0), (.int .i32 0), (.int .u8 0), (.int .u8 0), (.str []), .nils, (.str []), (.int .i64 0), .nils, .nils], .none⟩])
  (.seq (.region false [⟨(some 77), none, false, .mv (.t 3), .none⟩,
    ⟨(some 78), none, false, .callF 10 [(.t 14), (.u 77 .share)], .none⟩])
  (.seq (.region false [⟨(some 79), none, false, .buildSlice 1 [(.int .u8 0)] 1 [(0, (.c (.int .u8 24)))], .none⟩,
    ⟨(some 80), none, false, .callF 10 [(.t 14), (.u 79 .share)], .none⟩])
  (.seq (.region false [⟨(some 81), none, false, .mv (.t 9), .none⟩,
    ⟨(some 82), none, false, .callF 10 [(.t 14), (.u 81 .share)], .none⟩,
    ⟨(some 15), none, false, .mv (.u 82 .share), .none⟩])
  (.seq (.region false [⟨(some 83), none, false, .mv (.t 15), .none⟩,
    ⟨(some 84), none, false, .lenSl (.t 83), .none⟩,
    ⟨(some 85), none, false, .bin .eql (.t 84) (.c (.int .i64 1)), .none⟩,
    ⟨(some 86), none, false, .mv (.t 85), .none⟩,
    ⟨(some 87), (some (86, true)), false, .mv (.t 15), .none⟩,
    ⟨(some 88), (some (86, true)), false, .indexSl 7 (.t 87) (.c (.int .i64 0)), .none⟩,
    ⟨(some 89), (some (86, true)), false, .fieldAddr 0 (.t 88), .none⟩,
    ⟨(some 90), (some (86, true)), false, .load false 1 (.t 89) .copy, .none⟩,
    ⟨(some 91), (some (86, true)), false, .bin .eql (.t 90) (.c (.int .i64 4)), .none⟩,
    ⟨(some 92), none, false, .pick (.t 86) (.t 91) (.c (.bool false)), .none⟩,
    ⟨(some 93), none, false, .mv (.t 92), .none⟩,
    ⟨(some 94), (some (93, true)), false, .mv (.t 15), .none⟩,
    ⟨(some 95), (some (93, true)), false, .indexSl 7 (.t 94) (.c (.int .i64 0)), .none⟩,
    ⟨(some 96), (some (93, true)), false, .fieldAddr 3 (.t 95), .none⟩,
    ⟨(some 97), (some (93, true)), false, .load false 1 (.t 96) .copy, .none⟩,
    ⟨(some 98), (some (93, true)), false, .mv (.t 0), .none⟩,
    ⟨(some 99), (some (93, true)), false, .bin .eql (.t 97) (.t 98), .none⟩,
    ⟨(some 100), none, false, .pick (.t 93) (.t 99) (.c (.bool false)), .none⟩,
    ⟨(some 101), none, false, .mv (.t 100), .none⟩,
    ⟨(some 102), (some (101, true)), false, .mv (.t 15), .none⟩,
    ⟨(some 103), (some (101, true)), false, .indexSl 7 (.t 102) (.c (.int .i64 0)), .none⟩,
    ⟨(some 104), (some (101, true)), false, .fieldAddr 2 (.t 103), .none⟩,
    ⟨(some 105), (some (101, true)), false, .load false 1 (.t 104) .copy, .none⟩,
    ⟨(some 106), (some (101, true)), false, .mv (.t 2), .none⟩,
    ⟨(some 107), (some (101, true)), false, .bin .eql (.t 105) (.t 106), .none⟩,
    ⟨(some 108), none, false, .pick (.t 101) (.t 107) (.c (.bool false)), .none⟩,
    ⟨(some 109), none, false, .mv (.t 108), .none⟩,
    ⟨(some 110), (some (109, true)), false, .mv (.t 15), .none⟩,
    ⟨(some 111), (some (109, true)), false, .indexSl 7 (.t 110) (.c (.int .i64 0)), .none⟩,
    ⟨(some 112), (some (109, true)), false, .fieldAddr 4 (.t 111), .none⟩,
    ⟨(some 113), (some (109, true)), false, .load false 1 (.t 112) .copy, .none⟩,
    ⟨(some 114), (some (109, true)), false, .bin .eql (.t 113) (.c (.str [])), .none⟩,
    ⟨(some 115), none, false, .pick (.t 109) (.t 114) (.c (.bool false)), .none⟩,
    ⟨(some 116), none, false, .mv (.t 115), .none⟩,
    ⟨(some 117), (some (116, true)), false, .mv (.t 15), .none⟩,
    ⟨(some 118), (some (116, true)), false, .indexSl 7 (.t 117) (.c (.int .i64 0)), .none⟩,
    ⟨(some 119), (some (116, true)), false, .fieldAddr 5 (.t 118), .none⟩,
    ⟨(some 120), (some (116, true)), false, .load false 1 (.t 119) .copy, .none⟩,
    ⟨(some 121), (some (116, true)), false, .mv (.u 11 .take), .none⟩,
    ⟨(some 122), (some (116, true)), false, .callF 16 [(.u 120 .share), (.u 121 .share)], .none⟩,
    ⟨(some 123), none, false, .pick (.t 116) (.t 122) (.c (.bool false)), .none⟩,
    ⟨(some 124), none, false, .mv (.t 123), .none⟩,
    ⟨(some 125), (some (124, true)), false, .callF 12 [(.t 14)], .none⟩,
    ⟨(some 126), none, false, .pick (.t 124) (.t 125) (.c (.bool false)), .none⟩,
    ⟨(some 8), none, false, .mv (.t 126), .none⟩])
  (.ret)))))))))))))⟩
def v5 : List Nat := [0, 1, 2, 3, 8, 9, 10, 11, 12, 13, 14, 15, 17, 28, 59, 61, 62, 63, 64, 69]
theorem c5 : cFunc Go.Proofs.Tryd.prog p5 5 = some a5 := by decide +kernel
def p6 : Plan := ⟨[], 0, [((3, 1), { uses := [(17, .take)] }),
    ((8, 0), { uses := [(5, .take)] }),
    ((8, 3), { uses := [(30, .take), (32, .take)] }),
    ((8, 4), { uses := [(33, .take)] }),
    ((11, 1), { mode := .share }),
    ((11, 2), { uses := [(35, .take), (36, .take)] }),
    ((11, 4), { uses := [(37, .take), (38, .take)] }),
    ((11, 5), { uses := [(39, .share)] }),
    ((11, 6), { uses := [(40, .share)] }),
    ((12, 1), { uses := [(41, .share)] }),
    ((12, 2), { uses := [(42, .share)] }),
    ((22, 3), { uses := [(77, .take), (78, .take)] }),
    ((22, 5), { uses := [(79, .take), (80, .take)] }),
    ((22, 6), { uses := [(81, .share)] }),
    ((23, 1), { uses := [(82, .share)] }),
    ((23, 2), { uses := [(83, .share)] })],
  [[1, 5, 18, 19, 20], [1, 5, 8, 9, 10, 49, 50]]⟩
def a6 : AFunc := ⟨2, 116, 0, [.tmp 4],
  .seq (.region false [⟨(some 4), none, false, .mv (.c (.bool false)), .none⟩])
  (.seq (.seq (.region false [⟨(some 15), none, false, .callF 9 [], .none⟩,
    ⟨(some 16), none, false, .un .not (.t 15), .none⟩])
  (.cond (.t 16)
   (.seq (.region false [⟨(some 4), none, false, .mv (.c (.bool false)), .none⟩])
   (.ret))
   (.skip)))
  (.seq (.region false [⟨(some 17), none, false, .buildSlice 1 [(.int .u8 0)] 0 [], .none⟩,
    ⟨(some 5), none, false, .mv (.u 17 .take), .none⟩])
  (.seq (.seq (.region false [⟨(some 18), none, false, .mv (.t 0), .none⟩,
    ⟨(some 19), none, false, .lenSl (.t 18), .none⟩,
    ⟨(some 20), none, false, .mv (.c (.int .i64 0)), .none⟩])
  (.block 0 (.loop [1, 5, 18, 19, 20] (.seq (.region false [⟨(some 21), none, false, .bin .lss (.t 20) (.t 19), .none⟩])
   (.seq (.cond (.t 21)
    (.skip)
    (.exit 0))
   (.seq (.block 1 (.seq (.region false [⟨(some 22), none, false, .indexSl 1 (.t 18) (.t 20), .none⟩,
     ⟨(some 23), none, false, .load false 1 (.t 22) .copy, .none⟩,
     ⟨(some 7), none, false, .mv (.t 23), .none⟩])
   (.seq (.region false [⟨(some 24), none, false, .mv (.t 7), .none⟩,
     ⟨(some 25), none, false, .bin .geq (.t 24) (.c (.int .u8 32)), .none⟩,
     ⟨(some 26), none, false, .mv (.t 25), .none⟩,
     ⟨(some 27), (some (26, true)), false, .mv (.t 7), .none⟩,
     ⟨(some 28), (some (26, true)), false, .bin .neq (.t 27) (.c (.int .u8 127)), .none⟩,
     ⟨(some 29), none, false, .pick (.t 26) (.t 28) (.c (.bool false)), .none⟩])
   (.cond (.t 29)
    (.region false [⟨(some 30), none, false, .mv (.u 5 .take), .none⟩,
      ⟨(some 31), none, false, .mv (.t 7), .none⟩,
      ⟨(some 32), none, false, .buildSlice 1 [(.int .u8 0)] 1 [(0, (.t 31))], .none⟩,
      ⟨(some 33), none, false, .append 1 (.u 30 .take) (.u 32 .take), .none⟩,
      ⟨(some 5), none, false, .mv (.u 33 .take), .none⟩])
    (.skip)))))
   (.region false [⟨(some 34), none, false, .bin .add (.t 20) (.c (.int .i64 1)), .none⟩,
     ⟨(some 20), none, false, .mv (.t 34), .none⟩])))))))
  (.seq (.region false [⟨(some 8), none, false, .allocM [.nils, (.int .i64 0), (.bool false), (.bool false), (.int .i64 0), (.int .i32 0), (.int .u8 0), (.int .u8 0), (.str []), .nils, (.str []), (.int .i64 0), .nils, .nils], .none⟩])
  (.seq (.region false [⟨(some 35), none, false, .buildSlice 1 [(.int .u8 0)] 0 [], .none⟩,
    ⟨(some 36), none, false, .mvK 5, .none⟩,
    ⟨(some 37), none, false, .append 1 (.u 35 .take) (.u 36 .take), .none⟩,
    ⟨(some 38), none, false, .buildSlice 1 [(.int .u8 0)] 1 [(0, (.c (.int .u8 24)))], .none⟩,
    ⟨(some 39), none, false, .append 1 (.u 37 .take) (.u 38 .take), .none⟩,
    ⟨(some 40), none, false, .callF 10 [(.t 8), (.u 39 .share)], .none⟩,
    ⟨(some 9), none, false, .mv (.u 40 .share), .none⟩])
  (.seq (.region false [⟨(some 41), none, false, .mv (.t 5), .none⟩,
    ⟨(some 42), none, false, .callF 17 [(.u 41 .share)], .none⟩,
    ⟨(some 10), none, false, .mv (.u 42 .share), .none⟩])
  (.seq (.seq (.region false [⟨(some 43), none, false, .mv (.t 9), .none⟩,
    ⟨(some 44), none, false, .lenSl (.t 43), .none⟩,
    ⟨(some 45), none, false, .mv (.t 10), .none⟩,
    ⟨(some 46), none, false, .lenSl (.t 45), .none⟩,
    ⟨(some 47), none, false, .bin .neq (.t 44) (.t 46), .none⟩])
  (.cond (.t 47)
   (.seq (.region false [⟨(some 4), none, false, .mv (.c (.bool false)), .none⟩])
   (.ret))
   (.skip)))
  (.seq (.seq (.region false [⟨(some 48), none, false, .mv (.t 10), .none⟩,
    ⟨(some 49), none, false, .lenSl (.t 48), .none⟩,
    ⟨(some 50), none, false, .mv (.c (.int .i64 0)), .none⟩])
  (.block 2 (.loop [1, 5, 8, 9, 10, 49, 50] (.seq (.region false [⟨(some 51), none, false, .bin .lss (.t 50) (.t 49), .none⟩])
   (.seq (.cond (.t 51)
    (.skip)
    (.exit 2))
   (.seq (.block 3 (.seq (.region false [⟨(some 52), none, false, .mv (.t 50), .none⟩,
     ⟨(some 11), none, false, .mv (.t 52), .none⟩])
   (.seq (.region true [⟨(some 53), none, false, .mv (.t 9), .none⟩,
     ⟨(some 54), none, false, .mv (.t 11), .none⟩,
     ⟨(some 55), none, false, .indexSl 7 (.t 53) (.t 54), .none⟩,
     ⟨(some 56), none, false, .fieldAddr 0 (.t 55), .none⟩,
     ⟨(some 57), none, false, .load false 1 (.t 56) .copy, .none⟩,
     ⟨(some 58), none, false, .bin .neq (.t 57) (.c (.int .i64 1)), .none⟩,
     ⟨(some 59), none, false, .mv (.t 58), .none⟩,
     ⟨(some 60), (some (59, false)), false, .mv (.t 9), .none⟩,
     ⟨(some 61), (some (59, false)), false, .mv (.t 11), .none⟩,
     ⟨(some 62), (some (59, false)), false, .indexSl 7 (.t 60) (.t 61), .none⟩,
     ⟨(some 63), (some (59, false)), false, .fieldAddr 1 (.t 62), .none⟩,
     ⟨(some 64), (some (59, false)), false, .load false 1 (.t 63) .copy, .none⟩,
     ⟨(some 65), (some (59, false)), false, .mv (.t 10), .none⟩,
     ⟨(some 66), (some (59, false)), false, .mv (.t 11), .none⟩,
     ⟨(some 67), (some (59, false)), false, .indexSl 1 (.t 65) (.t 66), .none⟩,
     ⟨(some 68), (some (59, false)), false, .load false 1 (.t 67) .copy, .none⟩,
     ⟨(some 69), (some (59, false)), false, .bin .neq (.t 64) (.t 68), .none⟩,
     ⟨(some 70), none, false, .pick (.t 59) (.c (.bool true)) (.t 69), .none⟩])
   (.cond (.t 70)
    (.seq (.region false [⟨(some 4), none, false, .mv (.c (.bool false)), .none⟩])
    (.ret))
    (.skip)))))
   (.region false [⟨(some 71), none, false, .bin .add (.t 50) (.c (.int .i64 1)), .none⟩,
     ⟨(some 50), none, false, .mv (.t 71), .none⟩])))))))
  (.seq (.region false [⟨(some 72), none, false, .mv (.t 1), .none⟩,
    ⟨(some 73), none, false, .bin .and (.t 72) (.c (.int .i64 1023)), .none⟩,
    ⟨(some 74), none, false, .bin .rem (.t 73) (.c (.int .i64 5)), .none⟩,
    ⟨(some 75), none, false, .indexStr (.c (.str [93, 80, 88, 94, 95])) (.t 74), .none⟩,
    ⟨(some 12), none, false, .mv (.t 75), .none⟩])
  (.seq (.region false [⟨(some 76), none, false, .mv (.t 12), .none⟩,
    ⟨(some 77), none, false, .buildSlice 1 [(.int .u8 0)] 2 [(0, (.c (.int .u8 27))), (1, (.t 76))], .none⟩,
    ⟨(some 78), none, false, .mv (.t 5), .none⟩,
    ⟨(some 79), none, false, .append 1 (.u 77 .take) (.u 78 .take), .none⟩,
    ⟨(some 80), none, false, .buildSlice 1 [(.int .u8 0)] 2 [(0, (.c (.int .u8 27))), (1, (.c (.int .u8 92)))], .none⟩,
    ⟨(some 81), none, false, .append 1 (.u 79 .take) (.u 80 .take), .none⟩,
    ⟨(some 13), none, false, .mv (.u 81 .share), .none⟩])
  (.seq (.region false [⟨(some 82), none, false, .mv (.t 13), .none⟩,
    ⟨(some 83), none, false, .callF 10 [(.t 8), (.u 82 .share)], .none⟩,
    ⟨(some 14), none, false, .mv (.u 83 .share), .none⟩])
  (.seq (.seq (.region false [⟨(some 84), none, false, .mv (.t 14), .none⟩,
    ⟨(some 85), none, false, .lenSl (.t 84), .none⟩,
    ⟨(some 86), none, false, .bin .neq (.t 85) (.c (.int .i64 1)), .none⟩,
    ⟨(some 87), none, false, .mv (.t 86), .none⟩,
    ⟨(some 88), (some (87, false)), false, .mv (.t 14), .none⟩,
    ⟨(some 89), (some (87, false)), false, .indexSl 7 (.t 88) (.c (.int .i64 0)), .none⟩,
    ⟨(some 90), (some (87, false)), false, .fieldAddr 0 (.t 89), .none⟩,
    ⟨(some 91), (some (87, false)), false, .load false 1 (.t 90) .copy, .none⟩,
    ⟨(some 92), (some (87, false)), false, .bin .neq (.t 91) (.c (.int .i64 5)), .none⟩,
    ⟨(some 93), none, false, .pick (.t 87) (.c (.bool true)) (.t 92), .none⟩,
    ⟨(some 94), none, false, .mv (.t 93), .none⟩,
    ⟨(some 95), (some (94, false)), false, .mv (.t 14), .none⟩,
    ⟨(some 96), (some (94, false)), false, .indexSl 7 (.t 95) (.c (.int .i64 0)), .none⟩,
    ⟨(some 97), (some (94, false)), false, .fieldAddr 2 (.t 96), .none⟩,
    ⟨(some 98), (some (94, false)), false, .load false 1 (.t 97) .copy, .none⟩,
    ⟨(some 99), (some (94, false)), false, .mv (.t 12), .none⟩,
    ⟨(some 100), (some (94, false)), false, .bin .neq (.t 98) (.t 99), .none⟩,
    ⟨(some 101), none, false, .pick (.t 94) (.c (.bool true)) (.t 100), .none⟩])
  (.cond (.t 101)
   (.seq (.region false [⟨(some 4), none, false, .mv (.c (.bool false)), .none⟩])
   (.ret))
   (.skip)))
  (.seq (.region true [⟨(some 102), none, false, .mv (.t 14), .none⟩,
    ⟨(some 103), none, false, .indexSl 7 (.t 102) (.c (.int .i64 0)), .none⟩,
    ⟨(some 104), none, false, .fieldAddr 6 (.t 103), .none⟩,
    ⟨(some 105), none, false, .load false 1 (.t 104) .copy, .none⟩,
    ⟨(some 106), none, false, .mv (.t 5), .none⟩,
    ⟨(some 107), none, false, .mv (.t 5), .none⟩,
    ⟨(some 108), none, false, .lenSl (.t 107), .none⟩,
    ⟨(some 109), none, false, .minMax false (.t 108) [(.c (.int .i64 256))], .none⟩,
    ⟨(some 110), none, false, .sliceV 1 (.t 106) none (some (.t 109)), .none⟩,
    ⟨(some 111), none, false, .bytesStr (.t 110), .none⟩,
    ⟨(some 112), none, false, .bin .eql (.t 105) (.t 111), .none⟩,
    ⟨(some 113), none, false, .mv (.t 112), .none⟩,
    ⟨(some 114), (some (113, true)), false, .callF 12 [(.t 8)], .none⟩,
    ⟨(some 115), none, false, .pick (.t 113) (.t 114) (.c (.bool false)), .none⟩,
    ⟨(some 4), none, false, .mv (.t 115), .none⟩])
  (.ret))))))))))))))⟩
theorem c6 : cFunc Go.Proofs.Tryd.prog p6 6 = some a6 := by decide +kernel
def p7 : Plan := ⟨[], 0, [((3, 1), { uses := [(17, .share)] }),
    ((6, 1), { uses := [(26, .share)] }),
    ((6, 2), { uses := [(27, .take)] }),
    ((7, 0), { uses := [(12, .take)] }),
    ((7, 1), { uses := [(28, .take)] }),
    ((7, 3), { uses := [(29, .take)] }),
    ((7, 4), { uses := [(31, .take)] }),
    ((12, 0), { uses := [(12, .take)] }),
    ((12, 3), { uses := [(53, .take), (55, .take)] }),
    ((12, 4), { uses := [(56, .take)] }),
    ((13, 0), { uses := [(12, .take)] }),
    ((13, 3), { uses := [(57, .take), (59, .take)] }),
    ((13, 5), { uses := [(60, .take), (61, .take)] }),
    ((13, 6), { uses := [(62, .share)] }),
    ((13, 7), { uses := [(63, .share)] })],
  []⟩
def a7 : AFunc := ⟨4, 113, 0, [.tmp 8],
  .seq (.region false [⟨(some 8), none, false, .mv (.c (.bool false)), .none⟩])
  (.seq (.seq (.region false [⟨(some 15), none, false, .callF 9 [], .none⟩,
    ⟨(some 16), none, false, .un .not (.t 15), .none⟩])
  (.cond (.t 16)
   (.seq (.region false [⟨(some 8), none, false, .mv (.c (.bool false)), .none⟩])
   (.ret))
   (.skip)))
  (.seq (.region false [⟨(some 17), none, false, .buildSlice 1 [(.str [])] 6 [(0, (.c (.str [49, 58, 50]))), (1, (.c (.str [49, 60]))), (2, (.c (.str [63, 49, 63]))), (3, (.c (.str [32, 49]))), (4, (.c (.str [33, 33, 33]))), (5, (.c (.str [49, 32, 59])))], .none⟩,
    ⟨(some 9), none, false, .mv (.u 17 .share), .none⟩])
  (.seq (.region false [⟨(some 18), none, false, .mv (.t 9), .none⟩,
    ⟨(some 19), none, false, .mv (.t 1), .none⟩,
    ⟨(some 20), none, false, .bin .and (.t 19) (.c (.int .i64 1023)), .none⟩,
    ⟨(some 21), none, false, .mv (.t 9), .none⟩,
    ⟨(some 22), none, false, .lenSl (.t 21), .none⟩,
    ⟨(some 23), none, false, .bin .rem (.t 20) (.t 22), .none⟩,
    ⟨(some 24), none, false, .indexSl 1 (.t 18) (.t 23), .none⟩,
    ⟨(some 25), none, false, .load false 1 (.t 24) .copy, .none⟩,
    ⟨(some 10), none, false, .mv (.t 25), .none⟩])
  (.seq (.region false [⟨(some 11), none, false, .allocM [.nils, (.int .i64 0), (.bool false), (.bool false), (.int .i64 0), (.int .i32 0), (.int .u8 0), (.int .u8 0), (.str []), .nils, (.str []), (.int .i64 0), .nils, .nils], .none⟩])
  (.seq (.region false [⟨(some 26), none, false, .mv (.t 0), .none⟩,
    ⟨(some 27), none, false, .callF 13 [(.c (.int .u8 0)), (.u 26 .share), (.c (.int .u8 32))], .none⟩,
    ⟨(some 12), none, false, .mv (.u 27 .take), .none⟩])
  (.seq (.region false [⟨(some 28), none, false, .mv (.u 12 .take), .none⟩,
    ⟨(some 29), none, false, .sliceV 1 (.u 28 .take) none (some (.c (.int .i64 2))), .none⟩,
    ⟨(some 30), none, false, .mv (.t 10), .none⟩,
    ⟨(some 31), none, false, .append 1 (.u 29 .take) (.t 30), .none⟩,
    ⟨(some 12), none, false, .mv (.u 31 .take), .none⟩])
  (.seq (.seq (.region false [⟨(some 32), none, false, .mv (.t 3), .none⟩,
    ⟨(some 33), none, false, .bin .lss (.t 32) (.c (.int .u8 64)), .none⟩,
    ⟨(some 34), none, false, .mv (.t 33), .none⟩,
    ⟨(some 35), (some (34, false)), false, .mv (.t 3), .none⟩,
    ⟨(some 36), (some (34, false)), false, .bin .gtr (.t 35) (.c (.int .u8 126)), .none⟩,
    ⟨(some 37), none, false, .pick (.t 34) (.c (.bool true)) (.t 36), .none⟩])
  (.cond (.t 37)
   (.region false [⟨(some 3), none, false, .mv (.c (.int .u8 109)), .none⟩])
   (.skip)))
  (.seq (.region false [⟨(some 38), none, false, .mv (.t 2), .none⟩,
    ⟨(some 39), none, false, .bin .lss (.t 38) (.c (.int .u8 32)), .none⟩,
    ⟨(some 40), none, false, .mv (.t 39), .none⟩,
    ⟨(some 41), (some (40, true)), false, .mv (.t 2), .none⟩,
    ⟨(some 42), (some (40, true)), false, .bin .neq (.t 41) (.c (.int .u8 24)), .none⟩,
    ⟨(some 43), none, false, .pick (.t 40) (.t 42) (.c (.bool false)), .none⟩,
    ⟨(some 44), none, false, .mv (.t 43), .none⟩,
    ⟨(some 45), (some (44, true)), false, .mv (.t 2), .none⟩,
    ⟨(some 46), (some (44, true)), false, .bin .neq (.t 45) (.c (.int .u8 26)), .none⟩,
    ⟨(some 47), none, false, .pick (.t 44) (.t 46) (.c (.bool false)), .none⟩,
    ⟨(some 48), none, false, .mv (.t 47), .none⟩,
    ⟨(some 49), (some (48, true)), false, .mv (.t 2), .none⟩,
    ⟨(some 50), (some (48, true)), false, .bin .neq (.t 49) (.c (.int .u8 27)), .none⟩,
    ⟨(some 51), none, false, .pick (.t 48) (.t 50) (.c (.bool false)), .none⟩,
    ⟨(some 13), none, false, .mv (.t 51), .none⟩])
  (.seq (.seq (.region false [⟨(some 52), none, false, .mv (.t 13), .none⟩])
  (.cond (.t 52)
   (.region false [⟨(some 53), none, false, .mv (.u 12 .take), .none⟩,
     ⟨(some 54), none, false, .mv (.t 2), .none⟩,
     ⟨(some 55), none, false, .buildSlice 1 [(.int .u8 0)] 1 [(0, (.t 54))], .none⟩,
     ⟨(some 56), none, false, .append 1 (.u 53 .take) (.u 55 .take), .none⟩,
     ⟨(some 12), none, false, .mv (.u 56 .take), .none⟩])
   (.skip)))
  (.seq (.region false [⟨(some 57), none, false, .mv (.u 12 .take), .none⟩,
    ⟨(some 58), none, false, .mv (.t 3), .none⟩,
    ⟨(some 59), none, false, .buildSlice 1 [(.int .u8 0)] 1 [(0, (.t 58))], .none⟩,
    ⟨(some 60), none, false, .append 1 (.u 57 .take) (.u 59 .take), .none⟩,
    ⟨(some 61), none, false, .buildSlice 1 [(.int .u8 0)] 1 [(0, (.c (.int .u8 120)))], .none⟩,
    ⟨(some 62), none, false, .append 1 (.u 60 .take) (.u 61 .take), .none⟩,
    ⟨(some 63), none, false, .callF 10 [(.t 11), (.u 62 .share)], .none⟩,
    ⟨(some 14), none, false, .mv (.u 63 .share), .none⟩])
  (.seq (.seq (.region false [⟨(some 64), none, false, .mv (.t 13), .none⟩])
  (.cond (.t 64)
   (.seq (.region false [⟨(some 65), none, false, .mv (.t 14), .none⟩,
     ⟨(some 66), none, false, .lenSl (.t 65), .none⟩,
     ⟨(some 67), none, false, .bin .eql (.t 66) (.c (.int .i64 2)), .none⟩,
     ⟨(some 68), none, false, .mv (.t 67), .none⟩,
     ⟨(some 69), (some (68, true)), false, .mv (.t 14), .none⟩,
     ⟨(some 70), (some (68, true)), false, .indexSl 7 (.t 69) (.c (.int .i64 0)), .none⟩,
     ⟨(some 71), (some (68, true)), false, .fieldAddr 0 (.t 70), .none⟩,
     ⟨(some 72), (some (68, true)), false, .load false 1 (.t 71) .copy, .none⟩,
     ⟨(some 73), (some (68, true)), false, .bin .eql (.t 72) (.c (.int .i64 2)), .none⟩,
     ⟨(some 74), none, false, .pick (.t 68) (.t 73) (.c (.bool false)), .none⟩,
     ⟨(some 75), none, false, .mv (.t 74), .none⟩,
     ⟨(some 76), (some (75, true)), false, .mv (.t 14), .none⟩,
     ⟨(some 77), (some (75, true)), false, .indexSl 7 (.t 76) (.c (.int .i64 0)), .none⟩,
     ⟨(some 78), (some (75, true)), false, .fieldAddr 2 (.t 77), .none⟩,
     ⟨(some 79), (some (75, true)), false, .load false 1 (.t 78) .copy, .none⟩,
     ⟨(some 80), (some (75, true)), false, .mv (.t 2), .none⟩,
     ⟨(some 81), (some (75, true)), false, .bin .eql (.t 79) (.t 80), .none⟩,
     ⟨(some 82), none, false, .pick (.t 75) (.t 81) (.c (.bool false)), .none⟩,
     ⟨(some 83), none, false, .mv (.t 82), .none⟩,
     ⟨(some 84), (some (83, true)), false, .mv (.t 14), .none⟩,
     ⟨(some 85), (some (83, true)), false, .indexSl 7 (.t 84) (.c (.int .i64 1)), .none⟩,
     ⟨(some 86), (some (83, true)), false, .fieldAddr 1 (.t 85), .none⟩,
     ⟨(some 87), (some (83, true)), false, .load false 1 (.t 86) .copy, .none⟩,
     ⟨(some 88), (some (83, true)), false, .bin .eql (.t 87) (.c (.int .i32 120)), .none⟩,
     ⟨(some 89), none, false, .pick (.t 83) (.t 88) (.c (.bool false)), .none⟩,
     ⟨(some 90), none, false, .mv (.t 89), .none⟩,
     ⟨(some 91), (some (90, true)), false, .callF 12 [(.t 11)], .none⟩,
     ⟨(some 92), none, false, .pick (.t 90) (.t 91) (.c (.bool false)), .none⟩,
     ⟨(some 8), none, false, .mv (.t 92), .none⟩])
   (.ret))
   (.skip)))
  (.seq (.region false [⟨(some 93), none, false, .mv (.t 14), .none⟩,
    ⟨(some 94), none, false, .lenSl (.t 93), .none⟩,
    ⟨(some 95), none, false, .bin .eql (.t 94) (.c (.int .i64 1)), .none⟩,
    ⟨(some 96), none, false, .mv (.t 95), .none⟩,
    ⟨(some 97), (some (96, true)), false, .mv (.t 14), .none⟩,
    ⟨(some 98), (some (96, true)), false, .indexSl 7 (.t 97) (.c (.int .i64 0)), .none⟩,
    ⟨(some 99), (some (96, true)), false, .fieldAddr 0 (.t 98), .none⟩,
    ⟨(some 100), (some (96, true)), false, .load false 1 (.t 99) .copy, .none⟩,
    ⟨(some 101), (some (96, true)), false, .bin .eql (.t 100) (.c (.int .i64 1)), .none⟩,
    ⟨(some 102), none, false, .pick (.t 96) (.t 101) (.c (.bool false)), .none⟩,
    ⟨(some 103), none, false, .mv (.t 102), .none⟩,
    ⟨(some 104), (some (103, true)), false, .mv (.t 14), .none⟩,
    ⟨(some 105), (some (103, true)), false, .indexSl 7 (.t 104) (.c (.int .i64 0)), .none⟩,
    ⟨(some 106), (some (103, true)), false, .fieldAddr 1 (.t 105), .none⟩,
    ⟨(some 107), (some (103, true)), false, .load false 1 (.t 106) .copy, .none⟩,
    ⟨(some 108), (some (103, true)), false, .bin .eql (.t 107) (.c (.int .i32 120)), .none⟩,
    ⟨(some 109), none, false, .pick (.t 103) (.t 108) (.c (.bool false)), .none⟩,
    ⟨(some 110), none, false, .mv (.t 109), .none⟩,
    ⟨(some 111), (some (110, true)), false, .callF 12 [(.t 11)], .none⟩,
    ⟨(some 112), none, false, .pick (.t 110) (.t 111) (.c (.bool false)), .none⟩,
    ⟨(some 8), none, false, .mv (.t 112), .none⟩])
  (.ret)))))))))))))⟩
theorem c7 : cFunc Go.Proofs.Tryd.prog p7 7 = some a7 := by decide +kernel
def p8 : Plan := ⟨[34], 0, [((3, 1), { uses := [(14, .take)] }),
    ((9, 0), { uses := [(5, .take)] }),
    ((9, 5), { uses := [(24, .take), (28, .take)] }),
    ((9, 6), { uses := [(29, .take)] }),
    ((10, 5), { uses := [(34, .peek)] }),
    ((16, 0), { uses := [(5, .take)] }),
    ((16, 3), { uses := [(71, .take), (73, .take)] }),
    ((16, 4), { uses := [(74, .share)] }),
    ((16, 5), { uses := [(75, .share)] })],
  [[1, 5, 6, 15, 16, 17]]⟩
def a8 : AFunc := ⟨2, 128, 0, [.tmp 4],
  .seq (.region false [⟨(some 4), none, false, .mv (.c (.bool false)), .none⟩])
  (.seq (.seq (.region false [⟨(some 12), none, false, .callF 9 [], .none⟩,
    ⟨(some 13), none, false, .un .not (.t 12), .none⟩])
  (.cond (.t 13)
   (.seq (.region false [⟨(some 4), none, false, .mv (.c (.bool false)), .none⟩])
   (.ret))
   (.skip)))
  (.seq (.region false [⟨(some 14), none, false, .buildSlice 1 [(.int .u8 0)] 1 [(0, (.c (.int .u8 27)))], .none⟩,
    ⟨(some 5), none, false, .mv (.u 14 .take), .none⟩])
  (.seq (.region false [⟨(some 6), none, false, .mv (.c (.str [])), .none⟩])
  (.seq (.seq (.region false [⟨(some 15), none, false, .mv (.t 0), .none⟩,
    ⟨(some 16), none, false, .lenSl (.t 15), .none⟩,
    ⟨(some 17), none, false, .mv (.c (.int .i64 0)), .none⟩])
  (.block 0 (.loop [1, 5, 6, 15, 16, 17] (.seq (.region false [⟨(some 18), none, false, .bin .lss (.t 17) (.t 16), .none⟩])
   (.seq (.cond (.t 18)
    (.skip)
    (.exit 0))
   (.seq (.block 1 (.seq (.region false [⟨(some 19), none, false, .mv (.t 17), .none⟩,
     ⟨(some 20), none, false, .indexSl 1 (.t 15) (.t 17), .none⟩,
     ⟨(some 21), none, false, .load false 1 (.t 20) .copy, .none⟩,
     ⟨(some 7), none, false, .mv (.t 19), .none⟩,
     ⟨(some 8), none, false, .mv (.t 21), .none⟩])
   (.seq (.region false [⟨(some 22), none, false, .mv (.t 7), .none⟩,
     ⟨(some 23), none, false, .bin .lss (.t 22) (.c (.int .i64 3)), .none⟩])
   (.cond (.t 23)
    (.seq (.region false [⟨(some 24), none, false, .mv (.u 5 .take), .none⟩,
      ⟨(some 25), none, false, .mv (.t 8), .none⟩,
      ⟨(some 26), none, false, .bin .and (.t 25) (.c (.int .u8 15)), .none⟩,
      ⟨(some 27), none, false, .bin .add (.c (.int .u8 32)) (.t 26), .none⟩,
      ⟨(some 28), none, false, .buildSlice 1 [(.int .u8 0)] 1 [(0, (.t 27))], .none⟩,
      ⟨(some 29), none, false, .append 1 (.u 24 .take) (.u 28 .take), .none⟩,
      ⟨(some 5), none, false, .mv (.u 29 .take), .none⟩])
    (.region false [⟨(some 30), none, false, .mv (.t 6), .none⟩,
      ⟨(some 31), none, false, .mv (.t 8), .none⟩,
      ⟨(some 32), none, false, .bin .and (.t 31) (.c (.int .u8 15)), .none⟩,
      ⟨(some 33), none, false, .bin .add (.c (.int .u8 32)) (.t 32), .none⟩,
      ⟨(some 34), none, true, .buildSlice 1 [(.int .u8 0)] 1 [(0, (.t 33))], .none⟩,
      ⟨(some 35), none, false, .bytesStr (.u 34 .peek), .none⟩,
      ⟨(some 36), none, false, .bin .add (.t 30) (.t 35), .none⟩,
      ⟨(some 6), none, false, .mv (.t 36), .none⟩]))
    (.skip)))))
   (.region false [⟨(some 37), none, false, .bin .add (.t 17) (.c (.int .i64 1)), .none⟩,
     ⟨(some 17), none, false, .mv (.t 37), .none⟩])))))))
  (.seq (.seq (.region false [⟨(some 38), none, false, .mv (.t 1), .none⟩,
    ⟨(some 39), none, false, .bin .lss (.t 38) (.c (.int .u8 48)), .none⟩,
    ⟨(some 40), none, false, .mv (.t 39), .none⟩,
    ⟨(some 41), (some (40, false)), false, .mv (.t 1), .none⟩,
    ⟨(some 42), (some (40, false)), false, .bin .gtr (.t 41) (.c (.int .u8 126)), .none⟩,
    ⟨(some 43), none, false, .pick (.t 40) (.c (.bool true)) (.t 42), .none⟩])
  (.cond (.t 43)
   (.region false [⟨(some 1), none, false, .mv (.c (.int .u8 68)), .none⟩])
   (.skip)))
  (.seq (.region false [⟨(some 44), none, false, .mv (.t 6), .none⟩,
    ⟨(some 45), none, false, .lenStr (.t 44), .none⟩,
    ⟨(some 46), none, false, .bin .eql (.t 45) (.c (.int .i64 0)), .none⟩,
    ⟨(some 47), none, false, .mv (.t 46), .none⟩,
    ⟨(some 48), (some (47, true)), false, .mv (.t 1), .none⟩,
    ⟨(some 49), (some (47, true)), false, .bin .eql (.t 48) (.c (.int .u8 91)), .none⟩,
    ⟨(some 50), (some (47, true)), false, .mv (.t 49), .none⟩,
    ⟨(some 51), (some (50, false)), false, .mv (.t 1), .none⟩,
    ⟨(some 52), (some (50, false)), false, .bin .eql (.t 51) (.c (.int .u8 93)), .none⟩,
    ⟨(some 53), (some (47, true)), false, .pick (.t 50) (.c (.bool true)) (.t 52), .none⟩,
    ⟨(some 54), (some (47, true)), false, .mv (.t 53), .none⟩,
    ⟨(some 55), (some (54, false)), false, .mv (.t 1), .none⟩,
    ⟨(some 56), (some (54, false)), false, .bin .eql (.t 55) (.c (.int .u8 80)), .none⟩,
    ⟨(some 57), (some (47, true)), false, .pick (.t 54) (.c (.bool true)) (.t 56), .none⟩,
    ⟨(some 58), (some (47, true)), false, .mv (.t 57), .none⟩,
    ⟨(some 59), (some (58, false)), false, .mv (.t 1), .none⟩,
    ⟨(some 60), (some (58, false)), false, .bin .eql (.t 59) (.c (.int .u8 88)), .none⟩,
    ⟨(some 61), (some (47, true)), false, .pick (.t 58) (.c (.bool true)) (.t 60), .none⟩,
    ⟨(some 62), (some (47, true)), false, .mv (.t 61), .none⟩,
    ⟨(some 63), (some (62, false)), false, .mv (.t 1), .none⟩,
    ⟨(some 64), (some (62, false)), false, .bin .eql (.t 63) (.c (.int .u8 94)), .none⟩,
    ⟨(some 65), (some (47, true)), false, .pick (.t 62) (.c (.bool true)) (.t 64), .none⟩,
    ⟨(some 66), (some (47, true)), false, .mv (.t 65), .none⟩,
    ⟨(some 67), (some (66, false)), false, .mv (.t 1), .none⟩,
    ⟨(some 68), (some (66, false)), false, .bin .eql (.t 67) (.c (.int .u8 95)), .none⟩,
    ⟨(some 69), (some (47, true)), false, .pick (.t 66) (.c (.bool true)) (.t 68), .none⟩,
    ⟨(some 70), none, false, .pick (.t 47) (.t 69) (.c (.bool false)), .none⟩,
    ⟨(some 9), none, false, .mv (.t 70), .none⟩])
  (.seq (.region false [⟨(some 10), none, false, .allocM [.nils, (.int .i64 0), (.bool false), (.bool false), (.int .i64 0), (.int .i32 0), (.int .u8 0), (.int .u8 0), (.str []), .nils, (.str []), (.int .i64 0), .nils, .nils], .none⟩])
  (.seq (.region false [⟨(some 71), none, false, .mv (.u 5 .take), .none⟩,
    ⟨(some 72), none, false, .mv (.t 1), .none⟩,
    ⟨(some 73), none, false, .buildSlice 1 [(.int .u8 0)] 1 [(0, (.t 72))], .none⟩,
    ⟨(some 74), none, false, .append 1 (.u 71 .take) (.u 73 .take), .none⟩,
    ⟨(some 75), none, false, .callF 10 [(.t 10), (.u 74 .share)], .none⟩,
    ⟨(some 11), none, false, .mv (.u 75 .share), .none⟩])
  (.seq (.seq (.region false [⟨(some 76), none, false, .mv (.t 9), .none⟩,
    ⟨(some 77), none, false, .mv (.t 76), .none⟩,
    ⟨(some 78), (some (77, false)), false, .mv (.t 6), .none⟩,
    ⟨(some 79), (some (77, false)), false, .lenStr (.t 78), .none⟩,
    ⟨(some 80), (some (77, false)), false, .bin .eql (.t 79) (.c (.int .i64 3)), .none⟩,
    ⟨(some 81), none, false, .pick (.t 77) (.c (.bool true)) (.t 80), .none⟩])
  (.cond (.t 81)
   (.seq (.region false [⟨(some 82), none, false, .mv (.t 11), .none⟩,
     ⟨(some 83), none, false, .lenSl (.t 82), .none⟩,
     ⟨(some 84), none, false, .bin .eql (.t 83) (.c (.int .i64 0)), .none⟩,
     ⟨(some 85), none, false, .mv (.t 84), .none⟩,
     ⟨(some 86), (some (85, true)), false, .callF 12 [(.t 10)], .none⟩,
     ⟨(some 87), (some (85, true)), false, .mv (.t 9), .none⟩,
     ⟨(some 88), (some (85, true)), false, .un .not (.t 87), .none⟩,
     ⟨(some 89), (some (85, true)), false, .eq false .bool (.t 86) (.t 88), .none⟩,
     ⟨(some 90), none, false, .pick (.t 85) (.t 89) (.c (.bool false)), .none⟩,
     ⟨(some 4), none, false, .mv (.t 90), .none⟩])
   (.ret))
   (.skip)))
  (.seq (.region false [⟨(some 91), none, false, .mv (.t 11), .none⟩,
    ⟨(some 92), none, false, .lenSl (.t 91), .none⟩,
    ⟨(some 93), none, false, .bin .eql (.t 92) (.c (.int .i64 1)), .none⟩,
    ⟨(some 94), none, false, .mv (.t 93), .none⟩,
    ⟨(some 95), (some (94, true)), false, .mv (.t 11), .none⟩,
    ⟨(some 96), (some (94, true)), false, .indexSl 7 (.t 95) (.c (.int .i64 0)), .none⟩,
    ⟨(some 97), (some (94, true)), false, .fieldAddr 0 (.t 96), .none⟩,
    ⟨(some 98), (some (94, true)), false, .load false 1 (.t 97) .copy, .none⟩,
    ⟨(some 99), (some (94, true)), false, .bin .eql (.t 98) (.c (.int .i64 3)), .none⟩,
    ⟨(some 100), none, false, .pick (.t 94) (.t 99) (.c (.bool false)), .none⟩,
    ⟨(some 101), none, false, .mv (.t 100), .none⟩,
    ⟨(some 102), (some (101, true)), false, .mv (.t 11), .none⟩,
    ⟨(some 103), (some (101, true)), false, .indexSl 7 (.t 102) (.c (.int .i64 0)), .none⟩,
    ⟨(some 104), (some (101, true)), false, .fieldAddr 4 (.t 103), .none⟩,
    ⟨(some 105), (some (101, true)), false, .load false 1 (.t 104) .copy, .none⟩,
    ⟨(some 106), (some (101, true)), false, .mv (.t 6), .none⟩,
    ⟨(some 107), (some (101, true)), false, .bin .eql (.t 105) (.t 106), .none⟩,
    ⟨(some 108), none, false, .pick (.t 101) (.t 107) (.c (.bool false)), .none⟩,
    ⟨(some 109), none, false, .mv (.t 108), .none⟩,
    ⟨(some 110), (some (109, true)), false, .mv (.t 11), .none⟩,
    ⟨(some 111), (some (109, true)), false, .indexSl 7 (.t 110) (.c (.int .i64 0)), .none⟩,
    ⟨(some 112), (some (109, true)), false, .fieldAddr 2 (.t 111), .none⟩,
    ⟨(some 113), (some (109, true)), false, .load false 1 (.t 112) .copy, .none⟩,
    ⟨(some 114), (some (109, true)), false, .mv (.t 1), .none⟩,
    ⟨(some 115), (some (109, true)), false, .bin .eql (.t 113) (.t 114), .none⟩,
    ⟨(some 116), none, false, .pick (.t 109) (.t 115) (.c (.bool false)), .none⟩,
    ⟨(some 117), none, false, .mv (.t 116), .none⟩,
    ⟨(some 118), (some (117, true)), false, .mv (.t 11), .none⟩,
    ⟨(some 119), (some (117, true)), false, .indexSl 7 (.t 118) (.c (.int .i64 0)), .none⟩,
    ⟨(some 120), (some (117, true)), false, .fieldAddr 5 (.t 119), .none⟩,
    ⟨(some 121), (some (117, true)), false, .load false 1 (.t 120) .copy, .none⟩,
    ⟨(some 122), (some (117, true)), false, .lenSl (.t 121), .none⟩,
    ⟨(some 123), (some (117, true)), false, .bin .eql (.t 122) (.c (.int .i64 0)), .none⟩,
    ⟨(some 124), none, false, .pick (.t 117) (.t 123) (.c (.bool false)), .none⟩,
    ⟨(some 125), none, false, .mv (.t 124), .none⟩,
    ⟨(some 126), (some (125, true)), false, .callF 12 [(.t 10)], .none⟩,
    ⟨(some 127), none, false, .pick (.t 125) (.t 126) (.c (.bool false)), .none⟩,
    ⟨(some 4), none, false, .mv (.t 127), .none⟩])
  (.ret)))))))))))⟩
theorem c8 : cFunc Go.Proofs.Tryd.prog p8 8 = some a8 := by decide +kernel
def p9 : Plan := ⟨[96], 0, [((2, 1), { uses := [(6, .take)] }),
    ((2, 2), { uses := [(7, .share)] }),
    ((2, 3), { uses := [(8, .share)] }),
    ((3, 1), { uses := [(9, .take)] }),
    ((3, 2), { uses := [(10, .share)] }),
    ((3, 3), { uses := [(11, .share)] }),
    ((4, 1), { uses := [(12, .take)] }),
    ((4, 2), { uses := [(13, .share)] }),
    ((4, 3), { uses := [(14, .share)] }),
    ((5, 1), { uses := [(15, .take)] }),
    ((5, 2), { uses := [(16, .share)] }),
    ((5, 3), { uses := [(17, .share)] }),
    ((8, 11), { uses := [(45, .share), (46, .share)] }),
    ((8, 60), { uses := [(95, .share)] }),
    ((8, 61), { uses := [(96, .peek)] })],
  []⟩
def a9 : AFunc := ⟨0, 100, 0, [.tmp 0],
  .seq (.region false [⟨(some 0), none, false, .mv (.c (.bool false)), .none⟩])
  (.seq (.region false [⟨(some 1), none, false, .allocM [.nils, (.int .i64 0), (.bool false), (.bool false), (.int .i64 0), (.int .i32 0), (.int .u8 0), (.int .u8 0), (.str []), .nils, (.str []), (.int .i64 0), .nils, .nils], .none⟩])
  (.seq (.region false [⟨(some 6), none, false, .buildSlice 1 [(.int .u8 0)] 8 [(0, (.c (.int .u8 97))), (1, (.c (.int .u8 27))), (2, (.c (.int .u8 91))), (3, (.c (.int .u8 49))), (4, (.c (.int .u8 59))), (5, (.c (.int .u8 59))), (6, (.c (.int .u8 53))), (7, (.c (.int .u8 72)))], .none⟩,
    ⟨(some 7), none, false, .convB (.u 6 .take), .none⟩,
    ⟨(some 8), none, false, .callF 10 [(.t 1), (.u 7 .share)], .none⟩,
    ⟨(some 2), none, false, .mv (.u 8 .share), .none⟩])
  (.seq (.region false [⟨(some 9), none, false, .buildSlice 1 [(.int .u8 0)] 7 [(0, (.c (.int .u8 27))), (1, (.c (.int .u8 93))), (2, (.c (.int .u8 48))), (3, (.c (.int .u8 59))), (4, (.c (.int .u8 104))), (5, (.c (.int .u8 105))), (6, (.c (.int .u8 7)))], .none⟩,
    ⟨(some 10), none, false, .convB (.u 9 .take), .none⟩,
    ⟨(some 11), none, false, .callF 10 [(.t 1), (.u 10 .share)], .none⟩,
    ⟨(some 3), none, false, .mv (.u 11 .share), .none⟩])
  (.seq (.region false [⟨(some 12), none, false, .buildSlice 1 [(.int .u8 0)] 3 [(0, (.c (.int .u8 27))), (1, (.c (.int .u8 40))), (2, (.c (.int .u8 66)))], .none⟩,
    ⟨(some 13), none, false, .convB (.u 12 .take), .none⟩,
    ⟨(some 14), none, false, .callF 10 [(.t 1), (.u 13 .share)], .none⟩,
    ⟨(some 4), none, false, .mv (.u 14 .share), .none⟩])
  (.seq (.region false [⟨(some 15), none, false, .buildSlice 1 [(.int .u8 0)] 4 [(0, (.c (.int .u8 195))), (1, (.c (.int .u8 27))), (2, (.c (.int .u8 91))), (3, (.c (.int .u8 109)))], .none⟩,
    ⟨(some 16), none, false, .convB (.u 15 .take), .none⟩,
    ⟨(some 17), none, false, .callF 10 [(.t 1), (.u 16 .share)], .none⟩,
    ⟨(some 5), none, false, .mv (.u 17 .share), .none⟩])
  (.seq (.seq (.region false [⟨(some 18), none, false, .mv (.t 2), .none⟩,
    ⟨(some 19), none, false, .lenSl (.t 18), .none⟩,
    ⟨(some 20), none, false, .bin .neq (.t 19) (.c (.int .i64 2)), .none⟩,
    ⟨(some 21), none, false, .mv (.t 20), .none⟩,
    ⟨(some 22), (some (21, false)), false, .mv (.t 3), .none⟩,
    ⟨(some 23), (some (21, false)), false, .lenSl (.t 22), .none⟩,
    ⟨(some 24), (some (21, false)), false, .bin .neq (.t 23) (.c (.int .i64 1)), .none⟩,
    ⟨(some 25), none, false, .pick (.t 21) (.c (.bool true)) (.t 24), .none⟩,
    ⟨(some 26), none, false, .mv (.t 25), .none⟩,
    ⟨(some 27), (some (26, false)), false, .mv (.t 4), .none⟩,
    ⟨(some 28), (some (26, false)), false, .lenSl (.t 27), .none⟩,
    ⟨(some 29), (some (26, false)), false, .bin .neq (.t 28) (.c (.int .i64 1)), .none⟩,
    ⟨(some 30), none, false, .pick (.t 26) (.c (.bool true)) (.t 29), .none⟩,
    ⟨(some 31), none, false, .mv (.t 30), .none⟩,
    ⟨(some 32), (some (31, false)), false, .mv (.t 5), .none⟩,
    ⟨(some 33), (some (31, false)), false, .lenSl (.t 32), .none⟩,
    ⟨(some 34), (some (31, false)), false, .bin .neq (.t 33) (.c (.int .i64 2)), .none⟩,
    ⟨(some 35), none, false, .pick (.t 31) (.c (.bool true)) (.t 34), .none⟩])
  (.cond (.t 35)
   (.seq (.region false [⟨(some 0), none, false, .mv (.c (.bool false)), .none⟩])
   (.ret))
   (.skip)))
  (.seq (.region false [⟨(some 36), none, false, .mv (.t 2), .none⟩,
    ⟨(some 37), none, false, .indexSl 7 (.t 36) (.c (.int .i64 0)), .none⟩,
    ⟨(some 38), none, false, .fieldAddr 1 (.t 37), .none⟩,
    ⟨(some 39), none, false, .load false 1 (.t 38) .copy, .none⟩,
    ⟨(some 40), none, false, .bin .eql (.t 39) (.c (.int .i32 97)), .none⟩,
    ⟨(some 41), none, false, .mv (.t 40), .none⟩,
    ⟨(some 42), (some (41, true)), false, .mv (.t 2), .none⟩,
    ⟨(some 43), (some (41, true)), false, .indexSl 7 (.t 42) (.c (.int .i64 1)), .none⟩,
    ⟨(some 44), (some (41, true)), false, .fieldAddr 5 (.t 43), .none⟩,
    ⟨(some 45), (some (41, true)), false, .load false 1 (.t 44) .copy, .none⟩,
    ⟨(some 46), (some (41, true)), false, .buildSlice 1 [(.int .i64 0)] 3 [(0, (.c (.int .i64 1))), (1, (.c (.int .i64 (-1)))), (2, (.c (.int .i64 5)))], .none⟩,
    ⟨(some 47), (some (41, true)), false, .callF 16 [(.u 45 .share), (.u 46 .share)], .none⟩,
    ⟨(some 48), none, false, .pick (.t 41) (.t 47) (.c (.bool false)), .none⟩,
    ⟨(some 49), none, false, .mv (.t 48), .none⟩,
    ⟨(some 50), (some (49, true)), false, .mv (.t 2), .none⟩,
    ⟨(some 51), (some (49, true)), false, .indexSl 7 (.t 50) (.c (.int .i64 1)), .none⟩,
    ⟨(some 52), (some (49, true)), false, .fieldAddr 2 (.t 51), .none⟩,
    ⟨(some 53), (some (49, true)), false, .load false 1 (.t 52) .copy, .none⟩,
    ⟨(some 54), (some (49, true)), false, .bin .eql (.t 53) (.c (.int .u8 72)), .none⟩,
    ⟨(some 55), none, false, .pick (.t 49) (.t 54) (.c (.bool false)), .none⟩,
    ⟨(some 56), none, false, .mv (.t 55), .none⟩,
    ⟨(some 57), (some (56, true)), false, .mv (.t 3), .none⟩,
    ⟨(some 58), (some (56, true)), false, .indexSl 7 (.t 57) (.c (.int .i64 0)), .none⟩,
    ⟨(some 59), (some (56, true)), false, .fieldAddr 6 (.t 58), .none⟩,
    ⟨(some 60), (some (56, true)), false, .load false 1 (.t 59) .copy, .none⟩,
    ⟨(some 61), (some (56, true)), false, .bin .eql (.t 60) (.c (.str [48, 59, 104, 105])), .none⟩,
    ⟨(some 62), none, false, .pick (.t 56) (.t 61) (.c (.bool false)), .none⟩,
    ⟨(some 63), none, false, .mv (.t 62), .none⟩,
    ⟨(some 64), (some (63, true)), false, .mv (.t 3), .none⟩,
    ⟨(some 65), (some (63, true)), false, .indexSl 7 (.t 64) (.c (.int .i64 0)), .none⟩,
    ⟨(some 66), (some (63, true)), false, .fieldAddr 2 (.t 65), .none⟩,
    ⟨(some 67), (some (63, true)), false, .load false 1 (.t 66) .copy, .none⟩,
    ⟨(some 68), (some (63, true)), false, .bin .eql (.t 67) (.c (.int .u8 93)), .none⟩,
    ⟨(some 69), none, false, .pick (.t 63) (.t 68) (.c (.bool false)), .none⟩,
    ⟨(some 70), none, false, .mv (.t 69), .none⟩,
    ⟨(some 71), (some (70, true)), false, .mv (.t 4), .none⟩,
    ⟨(some 72), (some (70, true)), false, .indexSl 7 (.t 71) (.c (.int .i64 0)), .none⟩,
    ⟨(some 73), (some (70, true)), false, .fieldAddr 4 (.t 72), .none⟩,
    ⟨(some 74), (some (70, true)), false, .load false 1 (.t 73) .copy, .none⟩,
    ⟨(some 75), (some (70, true)), false, .bin .eql (.t 74) (.c (.str [40])), .none⟩,
    ⟨(some 76), none, false, .pick (.t 70) (.t 75) (.c (.bool false)), .none⟩,
    ⟨(some 77), none, false, .mv (.t 76), .none⟩,
    ⟨(some 78), (some (77, true)), false, .mv (.t 5), .none⟩,
    ⟨(some 79), (some (77, true)), false, .indexSl 7 (.t 78) (.c (.int .i64 0)), .none⟩,
    ⟨(some 80), (some (77, true)), false, .fieldAddr 1 (.t 79), .none⟩,
    ⟨(some 81), (some (77, true)), false, .load false 1 (.t 80) .copy, .none⟩,
    ⟨(some 82), (some (77, true)), false, .bin .eql (.t 81) (.c (.int .i32 65533)), .none⟩,
    ⟨(some 83), none, false, .pick (.t 77) (.t 82) (.c (.bool false)), .none⟩,
    ⟨(some 84), none, false, .mv (.t 83), .none⟩,
    ⟨(some 85), (some (84, true)), false, .mv (.t 5), .none⟩,
    ⟨(some 86), (some (84, true)), false, .indexSl 7 (.t 85) (.c (.int .i64 1)), .none⟩,
    ⟨(some 87), (some (84, true)), false, .fieldAddr 0 (.t 86), .none⟩,
    ⟨(some 88), (some (84, true)), false, .load false 1 (.t 87) .copy, .none⟩,
    ⟨(some 89), (some (84, true)), false, .bin .eql (.t 88) (.c (.int .i64 4)), .none⟩,
    ⟨(some 90), none, false, .pick (.t 84) (.t 89) (.c (.bool false)), .none⟩,
    ⟨(some 91), none, false, .mv (.t 90), .none⟩,
    ⟨(some 92), (some (91, true)), false, .callF 12 [(.t 1)], .none⟩,
    ⟨(some 93), none, false, .pick (.t 91) (.t 92) (.c (.bool false)), .none⟩,
    ⟨(some 94), none, false, .mv (.t 93), .none⟩,
    ⟨(some 95), (some (94, true)), false, .buildSlice 1 [(.int .i64 0)] 1 [(0, (.c (.int .i64 25)))], .none⟩,
    ⟨(some 96), (some (94, true)), true, .callF 13 [(.c (.int .u8 63)), (.u 95 .share), (.c (.int .u8 104))], .none⟩,
    ⟨(some 97), (some (94, true)), false, .bytesStr (.u 96 .peek), .none⟩,
    ⟨(some 98), (some (94, true)), false, .bin .eql (.t 97) (.c (.str [27, 91, 63, 50, 53, 104])), .none⟩,
    ⟨(some 99), none, false, .pick (.t 94) (.t 98) (.c (.bool false)), .none⟩,
    ⟨(some 0), none, false, .mv (.t 99), .none⟩])
  (.ret))))))))⟩
def v9 : List Nat := [0, 1, 2, 3, 4, 5, 35]
theorem c9 : cFunc Go.Proofs.Tryd.prog p9 9 = some a9 := by decide +kernel
def p10 : Plan := ⟨[], 0, [((7, 3), { mode := .take }),
    ((7, 4), { uses := [(24, .share)] }),
    ((9, 1), { uses := [(28, .take)] })],
  [[0, 11, 12, 13]]⟩
def a10 : AFunc := ⟨2, 29, 0, [.tmp 4],
  .seq (.region false [⟨(some 4), none, false, .mv (.c .nils), .none⟩])
  (.seq (.region false [⟨(some 8), none, false, .mv (.t 0), .none⟩,
    ⟨(some 9), none, false, .nilCheck (.t 8), .none⟩,
    ⟨(some 10), none, false, .fieldAddr 13 (.t 9), .none⟩,
    ⟨none, none, false, .store 1 (.t 10) (.c .nils), .none⟩])
  (.seq (.seq (.region false [⟨(some 11), none, false, .mv (.t 1), .none⟩,
    ⟨(some 12), none, false, .lenSl (.t 11), .none⟩,
    ⟨(some 13), none, false, .mv (.c (.int .i64 0)), .none⟩])
  (.block 0 (.loop [0, 11, 12, 13] (.seq (.region false [⟨(some 14), none, false, .bin .lss (.t 13) (.t 12), .none⟩])
   (.seq (.cond (.t 14)
    (.skip)
    (.exit 0))
   (.seq (.block 1 (.seq (.region false [⟨(some 15), none, false, .indexSl 1 (.t 11) (.t 13), .none⟩,
     ⟨(some 16), none, false, .load false 1 (.t 15) .copy, .none⟩,
     ⟨(some 6), none, false, .mv (.t 16), .none⟩])
   (.region false [⟨(some 17), none, false, .mv (.t 0), .none⟩,
     ⟨(some 18), none, false, .mv (.t 6), .none⟩,
     ⟨(some 19), none, false, .callF 18 [(.t 17), (.t 18)], .none⟩])))
   (.region false [⟨(some 20), none, false, .bin .add (.t 13) (.c (.int .i64 1)), .none⟩,
     ⟨(some 13), none, false, .mv (.t 20), .none⟩])))))))
  (.seq (.region false [⟨(some 21), none, false, .mv (.t 0), .none⟩,
    ⟨(some 22), none, false, .nilCheck (.t 21), .none⟩,
    ⟨(some 23), none, false, .fieldAddr 13 (.t 22), .none⟩,
    ⟨(some 24), none, false, .load false 1 (.t 23) .take, .none⟩,
    ⟨(some 7), none, false, .mv (.u 24 .share), .none⟩])
  (.seq (.region false [⟨(some 25), none, false, .mv (.t 0), .none⟩,
    ⟨(some 26), none, false, .nilCheck (.t 25), .none⟩,
    ⟨(some 27), none, false, .fieldAddr 13 (.t 26), .none⟩,
    ⟨none, none, false, .store 1 (.t 27) (.c .nils), .none⟩])
  (.seq (.region false [⟨(some 28), none, false, .mv (.t 7), .none⟩,
    ⟨(some 4), none, false, .mv (.u 28 .take), .none⟩])
  (.ret))))))⟩
theorem c10 : cFunc Go.Proofs.Tryd.prog p10 10 = some a10 := by decide +kernel
def p11 : Plan := ⟨[], 2, [((6, 11), { uses := [(26, .take)], mark := (.loc 1) }),
    ((6, 10), { uses := [(22, .take)], mark := (.loc 0) }),
    ((6, 7), { mark := .free }),
    ((6, 6), { mark := .cool }),
    ((6, 5), { mark := .cool }),
    ((6, 4), { mark := .cool }),
    ((6, 3), { mark := .free }),
    ((6, 2), { mark := .cool }),
    ((6, 1), { mark := .cool }),
    ((6, 0), { mark := .cool }),
    ((6, 8), { box := some 0 }),
    ((6, 9), { box := some 1 }),
    ((7, 42), { mode := .take }),
    ((7, 44), { mode := .take }),
    ((7, 45), { uses := [(69, .share), (71, .share)] })],
  [[0, 1, 5]]⟩
def a11 : AFunc := ⟨2, 75, 2, [.tmp 4],
  .seq (.region false [⟨(some 4), none, false, .mv (.c (.bool false)), .none⟩])
  (.seq (.seq (.region false [⟨(some 8), none, false, .mv (.t 0), .none⟩,
    ⟨(some 9), none, false, .lenSl (.t 8), .none⟩,
    ⟨(some 10), none, false, .mv (.t 1), .none⟩,
    ⟨(some 11), none, false, .lenSl (.t 10), .none⟩,
    ⟨(some 12), none, false, .bin .neq (.t 9) (.t 11), .none⟩])
  (.cond (.t 12)
   (.seq (.region false [⟨(some 4), none, false, .mv (.c (.bool false)), .none⟩])
   (.ret))
   (.skip)))
  (.seq (.seq (.region false [⟨(some 5), none, false, .mv (.c (.int .i64 0)), .none⟩])
  (.block 0 (.loop [0, 1, 5] (.seq (.seq (.region false [⟨(some 13), none, false, .mv (.t 5), .none⟩,
     ⟨(some 14), none, false, .mv (.t 0), .none⟩,
     ⟨(some 15), none, false, .lenSl (.t 14), .none⟩,
     ⟨(some 16), none, false, .bin .lss (.t 13) (.t 15), .none⟩])
   (.cond (.t 16)
    (.skip)
    (.exit 0)))
   (.seq (.block 1 (.seq (.region true [⟨(some 19), none, false, .mv (.t 0), .cool⟩,
     ⟨(some 20), none, false, .mv (.t 5), .cool⟩,
     ⟨(some 21), none, false, .indexSl 7 (.t 19) (.t 20), .cool⟩,
     ⟨(some 22), none, false, .load true 7 (.t 21) .copy, .free⟩,
     ⟨(some 23), none, false, .mv (.t 1), .cool⟩,
     ⟨(some 24), none, false, .mv (.t 5), .cool⟩,
     ⟨(some 25), none, false, .indexSl 7 (.t 23) (.t 24), .cool⟩,
     ⟨(some 26), none, false, .load true 7 (.t 25) .copy, .free⟩,
     ⟨(some 6), none, false, .allocL 0 [(.int .i64 0), (.int .i32 0), (.int .u8 0), (.int .u8 0), (.str []), .nils, (.str [])], .none⟩,
     ⟨(some 7), none, false, .allocL 1 [(.int .i64 0), (.int .i32 0), (.int .u8 0), (.int .u8 0), (.str []), .nils, (.str [])], .none⟩,
     ⟨none, none, false, .store 7 (.t 6) (.u 22 .take), (.loc 0)⟩,
     ⟨none, none, false, .store 7 (.t 7) (.u 26 .take), (.loc 1)⟩])
   (.seq (.region false [⟨(some 27), none, false, .fieldAddr 0 (.t 6), .none⟩,
     ⟨(some 28), none, false, .load false 1 (.t 27) .copy, .none⟩,
     ⟨(some 29), none, false, .fieldAddr 0 (.t 7), .none⟩,
     ⟨(some 30), none, false, .load false 1 (.t 29) .copy, .none⟩,
     ⟨(some 31), none, false, .bin .neq (.t 28) (.t 30), .none⟩,
     ⟨(some 32), none, false, .mv (.t 31), .none⟩,
     ⟨(some 33), (some (32, false)), false, .fieldAddr 1 (.t 6), .none⟩,
     ⟨(some 34), (some (32, false)), false, .load false 1 (.t 33) .copy, .none⟩,
     ⟨(some 35), (some (32, false)), false, .fieldAddr 1 (.t 7), .none⟩,
     ⟨(some 36), (some (32, false)), false, .load false 1 (.t 35) .copy, .none⟩,
     ⟨(some 37), (some (32, false)), false, .bin .neq (.t 34) (.t 36), .none⟩,
     ⟨(some 38), none, false, .pick (.t 32) (.c (.bool true)) (.t 37), .none⟩,
     ⟨(some 39), none, false, .mv (.t 38), .none⟩,
     ⟨(some 40), (some (39, false)), false, .fieldAddr 2 (.t 6), .none⟩,
     ⟨(some 41), (some (39, false)), false, .load false 1 (.t 40) .copy, .none⟩,
     ⟨(some 42), (some (39, false)), false, .fieldAddr 2 (.t 7), .none⟩,
     ⟨(some 43), (some (39, false)), false, .load false 1 (.t 42) .copy, .none⟩,
     ⟨(some 44), (some (39, false)), false, .bin .neq (.t 41) (.t 43), .none⟩,
     ⟨(some 45), none, false, .pick (.t 39) (.c (.bool true)) (.t 44), .none⟩,
     ⟨(some 46), none, false, .mv (.t 45), .none⟩,
     ⟨(some 47), (some (46, false)), false, .fieldAddr 3 (.t 6), .none⟩,
     ⟨(some 48), (some (46, false)), false, .load false 1 (.t 47) .copy, .none⟩,
     ⟨(some 49), (some (46, false)), false, .fieldAddr 3 (.t 7), .none⟩,
     ⟨(some 50), (some (46, false)), false, .load false 1 (.t 49) .copy, .none⟩,
     ⟨(some 51), (some (46, false)), false, .bin .neq (.t 48) (.t 50), .none⟩,
     ⟨(some 52), none, false, .pick (.t 46) (.c (.bool true)) (.t 51), .none⟩,
     ⟨(some 53), none, false, .mv (.t 52), .none⟩,
     ⟨(some 54), (some (53, false)), false, .fieldAddr 4 (.t 6), .none⟩,
     ⟨(some 55), (some (53, false)), false, .load false 1 (.t 54) .copy, .none⟩,
     ⟨(some 56), (some (53, false)), false, .fieldAddr 4 (.t 7), .none⟩,
     ⟨(some 57), (some (53, false)), false, .load false 1 (.t 56) .copy, .none⟩,
     ⟨(some 58), (some (53, false)), false, .bin .neq (.t 55) (.t 57), .none⟩,
     ⟨(some 59), none, false, .pick (.t 53) (.c (.bool true)) (.t 58), .none⟩,
     ⟨(some 60), none, false, .mv (.t 59), .none⟩,
     ⟨(some 61), (some (60, false)), false, .fieldAddr 6 (.t 6), .none⟩,
     ⟨(some 62), (some (60, false)), false, .load false 1 (.t 61) .copy, .none⟩,
     ⟨(some 63), (some (60, false)), false, .fieldAddr 6 (.t 7), .none⟩,
     ⟨(some 64), (some (60, false)), false, .load false 1 (.t 63) .copy, .none⟩,
     ⟨(some 65), (some (60, false)), false, .bin .neq (.t 62) (.t 64), .none⟩,
     ⟨(some 66), none, false, .pick (.t 60) (.c (.bool true)) (.t 65), .none⟩,
     ⟨(some 67), none, false, .mv (.t 66), .none⟩,
     ⟨(some 68), (some (67, false)), false, .fieldAddr 5 (.t 6), .none⟩,
     ⟨(some 69), (some (67, false)), false, .load false 1 (.t 68) .take, .none⟩,
     ⟨(some 70), (some (67, false)), false, .fieldAddr 5 (.t 7), .none⟩,
     ⟨(some 71), (some (67, false)), false, .load false 1 (.t 70) .take, .none⟩,
     ⟨(some 72), (some (67, false)), false, .callF 16 [(.u 69 .share), (.u 71 .share)], .none⟩,
     ⟨(some 73), (some (67, false)), false, .un .not (.t 72), .none⟩,
     ⟨(some 74), none, false, .pick (.t 67) (.c (.bool true)) (.t 73), .none⟩])
   (.cond (.t 74)
    (.seq (.region false [⟨(some 4), none, false, .mv (.c (.bool false)), .none⟩])
    (.ret))
    (.skip)))))
   (.region false [⟨(some 17), none, false, .mv (.t 5), .none⟩,
     ⟨(some 18), none, false, .bin .add (.t 17) (.c (.int .i64 1)), .none⟩,
     ⟨(some 5), none, false, .mv (.t 18), .none⟩]))))))
  (.seq (.region false [⟨(some 4), none, false, .mv (.c (.bool true)), .none⟩])
  (.ret))))⟩
theorem c11 : cFunc Go.Proofs.Tryd.prog p11 11 = some a11 := by decide +kernel
def p12 : Plan := ⟨[], 0, [],
  []⟩
def a12 : AFunc := ⟨1, 15, 0, [.tmp 2],
  .seq (.region false [⟨(some 2), none, false, .mv (.c (.bool false)), .none⟩])
  (.seq (.region false [⟨(some 3), none, false, .mv (.t 0), .none⟩,
    ⟨(some 4), none, false, .nilCheck (.t 3), .none⟩,
    ⟨(some 5), none, false, .fieldAddr 1 (.t 4), .none⟩,
    ⟨(some 6), none, false, .load false 1 (.t 5) .copy, .none⟩,
    ⟨(some 7), none, false, .bin .eql (.t 6) (.c (.int .i64 0)), .none⟩,
    ⟨(some 8), none, false, .mv (.t 7), .none⟩,
    ⟨(some 9), (some (8, true)), false, .mv (.t 0), .none⟩,
    ⟨(some 10), (some (8, true)), false, .nilCheck (.t 9), .none⟩,
    ⟨(some 11), (some (8, true)), false, .fieldAddr 0 (.t 10), .none⟩,
    ⟨(some 12), (some (8, true)), false, .callF 19 [(.t 11)], .none⟩,
    ⟨(some 13), (some (8, true)), false, .bin .eql (.t 12) (.c (.int .i64 0)), .none⟩,
    ⟨(some 14), none, false, .pick (.t 8) (.t 13) (.c (.bool false)), .none⟩,
    ⟨(some 2), none, false, .mv (.t 14), .none⟩])
  (.ret))⟩
theorem c12 : cFunc Go.Proofs.Tryd.prog p12 12 = some a12 := by decide +kernel
def p13 : Plan := ⟨[], 0, [((1, 1), { uses := [(10, .take)] }),
    ((3, 0), { uses := [(7, .take)] }),
    ((3, 3), { uses := [(13, .take), (15, .take)] }),
    ((3, 4), { uses := [(16, .take)] }),
    ((8, 0), { uses := [(7, .take)] }),
    ((8, 2), { uses := [(30, .take), (31, .take)] }),
    ((8, 3), { uses := [(32, .take)] }),
    ((10, 0), { uses := [(7, .take)] }),
    ((10, 3), { uses := [(35, .take)] }),
    ((10, 4), { uses := [(38, .take)] }),
    ((12, 0), { uses := [(7, .take)] }),
    ((12, 3), { uses := [(40, .take), (42, .take)] }),
    ((12, 4), { uses := [(43, .take)] })],
  [[2, 7, 21, 22, 23]]⟩
def a13 : AFunc := ⟨3, 44, 0, [.tmp 6],
  .seq (.region false [⟨(some 6), none, false, .mv (.c .nils), .none⟩])
  (.seq (.region false [⟨(some 10), none, false, .buildSlice 1 [(.int .u8 0)] 2 [(0, (.c (.int .u8 27))), (1, (.c (.int .u8 91)))], .none⟩,
    ⟨(some 7), none, false, .mv (.u 10 .take), .none⟩])
  (.seq (.seq (.region false [⟨(some 11), none, false, .mv (.t 0), .none⟩,
    ⟨(some 12), none, false, .bin .neq (.t 11) (.c (.int .u8 0)), .none⟩])
  (.cond (.t 12)
   (.region false [⟨(some 13), none, false, .mv (.u 7 .take), .none⟩,
     ⟨(some 14), none, false, .mv (.t 0), .none⟩,
     ⟨(some 15), none, false, .buildSlice 1 [(.int .u8 0)] 1 [(0, (.t 14))], .none⟩,
     ⟨(some 16), none, false, .append 1 (.u 13 .take) (.u 15 .take), .none⟩,
     ⟨(some 7), none, false, .mv (.u 16 .take), .none⟩])
   (.skip)))
  (.seq (.seq (.region false [⟨(some 17), none, false, .mv (.t 1), .none⟩,
    ⟨(some 18), none, false, .mv (.t 1), .none⟩,
    ⟨(some 19), none, false, .lenSl (.t 18), .none⟩,
    ⟨(some 20), none, false, .minMax false (.t 19) [(.c (.int .i64 16))], .none⟩,
    ⟨(some 21), none, false, .sliceV 1 (.t 17) none (some (.t 20)), .none⟩,
    ⟨(some 22), none, false, .lenSl (.t 21), .none⟩,
    ⟨(some 23), none, false, .mv (.c (.int .i64 0)), .none⟩])
  (.block 0 (.loop [2, 7, 21, 22, 23] (.seq (.region false [⟨(some 24), none, false, .bin .lss (.t 23) (.t 22), .none⟩])
   (.seq (.cond (.t 24)
    (.skip)
    (.exit 0))
   (.seq (.block 1 (.seq (.region false [⟨(some 25), none, false, .mv (.t 23), .none⟩,
     ⟨(some 26), none, false, .indexSl 1 (.t 21) (.t 23), .none⟩,
     ⟨(some 27), none, false, .load false 1 (.t 26) .copy, .none⟩,
     ⟨(some 8), none, false, .mv (.t 25), .none⟩,
     ⟨(some 9), none, false, .mv (.t 27), .none⟩])
   (.seq (.seq (.region false [⟨(some 28), none, false, .mv (.t 8), .none⟩,
     ⟨(some 29), none, false, .bin .gtr (.t 28) (.c (.int .i64 0)), .none⟩])
   (.cond (.t 29)
    (.region false [⟨(some 30), none, false, .mv (.u 7 .take), .none⟩,
      ⟨(some 31), none, false, .buildSlice 1 [(.int .u8 0)] 1 [(0, (.c (.int .u8 59)))], .none⟩,
      ⟨(some 32), none, false, .append 1 (.u 30 .take) (.u 31 .take), .none⟩,
      ⟨(some 7), none, false, .mv (.u 32 .take), .none⟩])
    (.skip)))
   (.seq (.region false [⟨(some 33), none, false, .mv (.t 9), .none⟩,
     ⟨(some 34), none, false, .bin .geq (.t 33) (.c (.int .i64 0)), .none⟩])
   (.cond (.t 34)
    (.region false [⟨(some 35), none, false, .mv (.u 7 .take), .none⟩,
      ⟨(some 36), none, false, .mv (.t 9), .none⟩,
      ⟨(some 37), none, false, .minMax false (.t 36) [(.c (.int .i64 9999))], .none⟩,
      ⟨(some 38), none, false, .callF 20 [(.u 35 .take), (.t 37), (.c (.int .i64 10))], .none⟩,
      ⟨(some 7), none, false, .mv (.u 38 .take), .none⟩])
    (.skip))))))
   (.region false [⟨(some 39), none, false, .bin .add (.t 23) (.c (.int .i64 1)), .none⟩,
     ⟨(some 23), none, false, .mv (.t 39), .none⟩])))))))
  (.seq (.region false [⟨(some 40), none, false, .mv (.u 7 .take), .none⟩,
    ⟨(some 41), none, false, .mv (.t 2), .none⟩,
    ⟨(some 42), none, false, .buildSlice 1 [(.int .u8 0)] 1 [(0, (.t 41))], .none⟩,
    ⟨(some 43), none, false, .append 1 (.u 40 .take) (.u 42 .take), .none⟩,
    ⟨(some 6), none, false, .mv (.u 43 .take), .none⟩])
  (.ret)))))⟩
theorem c13 : cFunc Go.Proofs.Tryd.prog p13 13 = some a13 := by decide +kernel
def p14 : Plan := ⟨[], 0, [],
  [[0, 1, 5]]⟩
def a14 : AFunc := ⟨2, 26, 0, [.tmp 4],
  .seq (.region false [⟨(some 4), none, false, .mv (.c (.bool false)), .none⟩])
  (.seq (.seq (.region false [⟨(some 6), none, false, .mv (.t 0), .none⟩,
    ⟨(some 7), none, false, .lenSl (.t 6), .none⟩,
    ⟨(some 8), none, false, .mv (.t 1), .none⟩,
    ⟨(some 9), none, false, .lenSl (.t 8), .none⟩,
    ⟨(some 10), none, false, .bin .neq (.t 7) (.t 9), .none⟩])
  (.cond (.t 10)
   (.seq (.region false [⟨(some 4), none, false, .mv (.c (.bool false)), .none⟩])
   (.ret))
   (.skip)))
  (.seq (.seq (.region false [⟨(some 5), none, false, .mv (.c (.int .i64 0)), .none⟩])
  (.block 0 (.loop [0, 1, 5] (.seq (.seq (.region false [⟨(some 11), none, false, .mv (.t 5), .none⟩,
     ⟨(some 12), none, false, .mv (.t 0), .none⟩,
     ⟨(some 13), none, false, .lenSl (.t 12), .none⟩,
     ⟨(some 14), none, false, .bin .lss (.t 11) (.t 13), .none⟩])
   (.cond (.t 14)
    (.skip)
    (.exit 0)))
   (.seq (.block 1 (.seq (.region true [⟨(some 17), none, false, .mv (.t 0), .none⟩,
     ⟨(some 18), none, false, .mv (.t 5), .none⟩,
     ⟨(some 19), none, false, .indexSl 1 (.t 17) (.t 18), .none⟩,
     ⟨(some 20), none, false, .load false 1 (.t 19) .copy, .none⟩,
     ⟨(some 21), none, false, .mv (.t 1), .none⟩,
     ⟨(some 22), none, false, .mv (.t 5), .none⟩,
     ⟨(some 23), none, false, .indexSl 1 (.t 21) (.t 22), .none⟩,
     ⟨(some 24), none, false, .load false 1 (.t 23) .copy, .none⟩,
     ⟨(some 25), none, false, .bin .neq (.t 20) (.t 24), .none⟩])
   (.cond (.t 25)
    (.seq (.region false [⟨(some 4), none, false, .mv (.c (.bool false)), .none⟩])
    (.ret))
    (.skip))))
   (.region false [⟨(some 15), none, false, .mv (.t 5), .none⟩,
     ⟨(some 16), none, false, .bin .add (.t 15) (.c (.int .i64 1)), .none⟩,
     ⟨(some 5), none, false, .mv (.t 16), .none⟩]))))))
  (.seq (.region false [⟨(some 4), none, false, .mv (.c (.bool true)), .none⟩])
  (.ret))))⟩
theorem c14 : cFunc Go.Proofs.Tryd.prog p14 14 = some a14 := by decide +kernel
def p15 : Plan := ⟨[13], 0, [((3, 3), { uses := [(13, .peek)] }),
    ((11, 4), { uses := [(44, .take), (46, .take)] }),
    ((11, 5), { uses := [(47, .take)] })],
  [[1, 2, 7, 8]]⟩
def a15 : AFunc := ⟨3, 48, 0, [.tmp 6],
  .seq (.region false [⟨(some 6), none, false, .mv (.c .nils), .none⟩])
  (.seq (.region false [⟨(some 7), none, false, .mv (.c (.str [27, 91])), .none⟩])
  (.seq (.seq (.region false [⟨(some 9), none, false, .mv (.t 0), .none⟩,
    ⟨(some 10), none, false, .bin .neq (.t 9) (.c (.int .u8 0)), .none⟩])
  (.cond (.t 10)
   (.region false [⟨(some 11), none, false, .mv (.t 7), .none⟩,
     ⟨(some 12), none, false, .mv (.t 0), .none⟩,
     ⟨(some 13), none, true, .buildSlice 1 [(.int .u8 0)] 1 [(0, (.t 12))], .none⟩,
     ⟨(some 14), none, false, .bytesStr (.u 13 .peek), .none⟩,
     ⟨(some 15), none, false, .bin .add (.t 11) (.t 14), .none⟩,
     ⟨(some 7), none, false, .mv (.t 15), .none⟩])
   (.skip)))
  (.seq (.seq (.region false [⟨(some 8), none, false, .mv (.c (.int .i64 0)), .none⟩])
  (.block 0 (.loop [1, 2, 7, 8] (.seq (.seq (.region false [⟨(some 16), none, false, .mv (.t 8), .none⟩,
     ⟨(some 17), none, false, .mv (.t 1), .none⟩,
     ⟨(some 18), none, false, .lenSl (.t 17), .none⟩,
     ⟨(some 19), none, false, .bin .lss (.t 16) (.t 18), .none⟩,
     ⟨(some 20), none, false, .mv (.t 19), .none⟩,
     ⟨(some 21), (some (20, true)), false, .mv (.t 8), .none⟩,
     ⟨(some 22), (some (20, true)), false, .bin .lss (.t 21) (.c (.int .i64 16)), .none⟩,
     ⟨(some 23), none, false, .pick (.t 20) (.t 22) (.c (.bool false)), .none⟩])
   (.cond (.t 23)
    (.skip)
    (.exit 0)))
   (.seq (.block 1 (.seq (.seq (.region false [⟨(some 26), none, false, .mv (.t 8), .none⟩,
     ⟨(some 27), none, false, .bin .gtr (.t 26) (.c (.int .i64 0)), .none⟩])
   (.cond (.t 27)
    (.region false [⟨(some 28), none, false, .mv (.t 7), .none⟩,
      ⟨(some 29), none, false, .bin .add (.t 28) (.c (.str [59])), .none⟩,
      ⟨(some 7), none, false, .mv (.t 29), .none⟩])
    (.skip)))
   (.seq (.region false [⟨(some 30), none, false, .mv (.t 1), .none⟩,
     ⟨(some 31), none, false, .mv (.t 8), .none⟩,
     ⟨(some 32), none, false, .indexSl 1 (.t 30) (.t 31), .none⟩,
     ⟨(some 33), none, false, .load false 1 (.t 32) .copy, .none⟩,
     ⟨(some 34), none, false, .bin .geq (.t 33) (.c (.int .i64 0)), .none⟩])
   (.cond (.t 34)
    (.region false [⟨(some 35), none, false, .mv (.t 7), .none⟩,
      ⟨(some 36), none, false, .mv (.t 1), .none⟩,
      ⟨(some 37), none, false, .mv (.t 8), .none⟩,
      ⟨(some 38), none, false, .indexSl 1 (.t 36) (.t 37), .none⟩,
      ⟨(some 39), none, false, .load false 1 (.t 38) .copy, .none⟩,
      ⟨(some 40), none, false, .callF 22 [(.t 39), (.c (.int .i64 0)), (.c (.int .i64 9999))], .none⟩,
      ⟨(some 41), none, false, .callF 21 [(.t 40)], .none⟩,
      ⟨(some 42), none, false, .bin .add (.t 35) (.t 41), .none⟩,
      ⟨(some 7), none, false, .mv (.t 42), .none⟩])
    (.skip)))))
   (.region false [⟨(some 24), none, false, .mv (.t 8), .none⟩,
     ⟨(some 25), none, false, .bin .add (.t 24) (.c (.int .i64 1)), .none⟩,
     ⟨(some 8), none, false, .mv (.t 25), .none⟩]))))))
  (.seq (.region false [⟨(some 43), none, false, .mv (.t 7), .none⟩,
    ⟨(some 44), none, false, .strBytes (.t 43), .none⟩,
    ⟨(some 45), none, false, .mv (.t 2), .none⟩,
    ⟨(some 46), none, false, .buildSlice 1 [(.int .u8 0)] 1 [(0, (.t 45))], .none⟩,
    ⟨(some 47), none, false, .append 1 (.u 44 .take) (.u 46 .take), .none⟩,
    ⟨(some 6), none, false, .mv (.u 47 .take), .none⟩])
  (.ret)))))⟩
theorem c15 : cFunc Go.Proofs.Tryd.prog p15 15 = some a15 := by decide +kernel
def p16 : Plan := ⟨[], 0, [],
  [[0, 1, 5]]⟩
def a16 : AFunc := ⟨2, 26, 0, [.tmp 4],
  .seq (.region false [⟨(some 4), none, false, .mv (.c (.bool false)), .none⟩])
  (.seq (.seq (.region false [⟨(some 6), none, false, .mv (.t 0), .none⟩,
    ⟨(some 7), none, false, .lenSl (.t 6), .none⟩,
    ⟨(some 8), none, false, .mv (.t 1), .none⟩,
    ⟨(some 9), none, false, .lenSl (.t 8), .none⟩,
    ⟨(some 10), none, false, .bin .neq (.t 7) (.t 9), .none⟩])
  (.cond (.t 10)
   (.seq (.region false [⟨(some 4), none, false, .mv (.c (.bool false)), .none⟩])
   (.ret))
   (.skip)))
  (.seq (.seq (.region false [⟨(some 5), none, false, .mv (.c (.int .i64 0)), .none⟩])
  (.block 0 (.loop [0, 1, 5] (.seq (.seq (.region false [⟨(some 11), none, false, .mv (.t 5), .none⟩,
     ⟨(some 12), none, false, .mv (.t 0), .none⟩,
     ⟨(some 13), none, false, .lenSl (.t 12), .none⟩,
     ⟨(some 14), none, false, .bin .lss (.t 11) (.t 13), .none⟩])
   (.cond (.t 14)
    (.skip)
    (.exit 0)))
   (.seq (.block 1 (.seq (.region true [⟨(some 17), none, false, .mv (.t 0), .none⟩,
     ⟨(some 18), none, false, .mv (.t 5), .none⟩,
     ⟨(some 19), none, false, .indexSl 1 (.t 17) (.t 18), .none⟩,
     ⟨(some 20), none, false, .load false 1 (.t 19) .copy, .none⟩,
     ⟨(some 21), none, false, .mv (.t 1), .none⟩,
     ⟨(some 22), none, false, .mv (.t 5), .none⟩,
     ⟨(some 23), none, false, .indexSl 1 (.t 21) (.t 22), .none⟩,
     ⟨(some 24), none, false, .load false 1 (.t 23) .copy, .none⟩,
     ⟨(some 25), none, false, .bin .neq (.t 20) (.t 24), .none⟩])
   (.cond (.t 25)
    (.seq (.region false [⟨(some 4), none, false, .mv (.c (.bool false)), .none⟩])
    (.ret))
    (.skip))))
   (.region false [⟨(some 15), none, false, .mv (.t 5), .none⟩,
     ⟨(some 16), none, false, .bin .add (.t 15) (.c (.int .i64 1)), .none⟩,
     ⟨(some 5), none, false, .mv (.t 16), .none⟩]))))))
  (.seq (.region false [⟨(some 4), none, false, .mv (.c (.bool true)), .none⟩])
  (.ret))))⟩
theorem c16 : cFunc Go.Proofs.Tryd.prog p16 16 = some a16 := by decide +kernel
def p17 : Plan := ⟨[], 0, [((1, 1), { uses := [(7, .take)] }),
    ((4, 3), { uses := [(15, .share)] }),
    ((6, 0), { uses := [(3, .take)] }),
    ((6, 2), { uses := [(21, .take), (22, .take)] }),
    ((6, 3), { uses := [(23, .take)] }),
    ((8, 0), { uses := [(3, .take)] }),
    ((8, 3), { uses := [(26, .take), (28, .take)] }),
    ((8, 4), { uses := [(29, .take)] }),
    ((10, 0), { uses := [(3, .take)] }),
    ((10, 1), { uses := [(33, .take)] })],
  [[0, 3, 4]]⟩
def a17 : AFunc := ⟨1, 34, 0, [.tmp 2],
  .seq (.region false [⟨(some 2), none, false, .mv (.c .nils), .none⟩])
  (.seq (.region false [⟨(some 7), none, false, .buildSlice 1 [(.int .i32 0)] 0 [], .none⟩,
    ⟨(some 3), none, false, .mv (.u 7 .take), .none⟩])
  (.seq (.seq (.region false [⟨(some 4), none, false, .mv (.c (.int .i64 0)), .none⟩])
  (.block 0 (.loop [0, 3, 4] (.seq (.seq (.region false [⟨(some 8), none, false, .mv (.t 4), .none⟩,
     ⟨(some 9), none, false, .mv (.t 0), .none⟩,
     ⟨(some 10), none, false, .lenSl (.t 9), .none⟩,
     ⟨(some 11), none, false, .bin .lss (.t 8) (.t 10), .none⟩])
   (.cond (.t 11)
    (.skip)
    (.exit 0)))
   (.block 1 (.seq (.region false [⟨(some 13), none, false, .mv (.t 0), .none⟩,
     ⟨(some 14), none, false, .mv (.t 4), .none⟩,
     ⟨(some 15), none, false, .sliceV 1 (.t 13) (some (.t 14)) none, .none⟩,
     ⟨(some 16), none, false, .callF 23 [(.u 15 .share)], .none⟩,
     ⟨(some 12), none, false, .mv (.t 16), .none⟩,
     ⟨(some 17), none, false, .extract (.t 12) 0, .none⟩,
     ⟨(some 18), none, false, .extract (.t 12) 1, .none⟩,
     ⟨(some 5), none, false, .mv (.t 17), .none⟩,
     ⟨(some 6), none, false, .mv (.t 18), .none⟩])
   (.seq (.region false [⟨(some 19), none, false, .mv (.t 5), .none⟩,
     ⟨(some 20), none, false, .bin .eql (.t 19) (.c (.int .i64 0)), .none⟩])
   (.cond (.t 20)
    (.seq (.region false [⟨(some 21), none, false, .mv (.u 3 .take), .none⟩,
      ⟨(some 22), none, false, .buildSlice 1 [(.int .i32 0)] 1 [(0, (.c (.int .i32 65533)))], .none⟩,
      ⟨(some 23), none, false, .append 1 (.u 21 .take) (.u 22 .take), .none⟩,
      ⟨(some 3), none, false, .mv (.u 23 .take), .none⟩])
    (.region false [⟨(some 24), none, false, .mv (.t 4), .none⟩,
      ⟨(some 25), none, false, .bin .add (.t 24) (.c (.int .i64 1)), .none⟩,
      ⟨(some 4), none, false, .mv (.t 25), .none⟩]))
    (.seq (.region false [⟨(some 26), none, false, .mv (.u 3 .take), .none⟩,
      ⟨(some 27), none, false, .mv (.t 6), .none⟩,
      ⟨(some 28), none, false, .buildSlice 1 [(.int .i32 0)] 1 [(0, (.t 27))], .none⟩,
      ⟨(some 29), none, false, .append 1 (.u 26 .take) (.u 28 .take), .none⟩,
      ⟨(some 3), none, false, .mv (.u 29 .take), .none⟩])
    (.region false [⟨(some 30), none, false, .mv (.t 4), .none⟩,
      ⟨(some 31), none, false, .mv (.t 5), .none⟩,
      ⟨(some 32), none, false, .bin .add (.t 30) (.t 31), .none⟩,
      ⟨(some 4), none, false, .mv (.t 32), .none⟩]))))))))))
  (.seq (.region false [⟨(some 33), none, false, .mv (.u 3 .take), .none⟩,
    ⟨(some 2), none, false, .mv (.u 33 .take), .none⟩])
  (.ret))))⟩
theorem c17 : cFunc Go.Proofs.Tryd.prog p17 17 = some a17 := by decide +kernel
def p18 : Plan := ⟨[], 0, [((1, 5), { uses := [(14, .share)] }),
    ((9, 3), { uses := [(57, .share)] })],
  []⟩
def a18 : AFunc := ⟨2, 70, 0, [],
  .seq (.seq (.region false [⟨(some 4), none, false, .mv (.t 1), .none⟩,
    ⟨(some 5), none, false, .bin .lss (.t 4) (.c (.int .u8 32)), .none⟩,
    ⟨(some 6), none, false, .mv (.t 5), .none⟩,
    ⟨(some 7), (some (6, false)), false, .mv (.t 1), .none⟩,
    ⟨(some 8), (some (6, false)), false, .bin .eql (.t 7) (.c (.int .u8 127)), .none⟩,
    ⟨(some 9), none, false, .pick (.t 6) (.c (.bool true)) (.t 8), .none⟩])
  (.cond (.t 9)
   (.region false [⟨(some 10), none, false, .mv (.t 0), .none⟩,
     ⟨(some 11), none, false, .mv (.t 0), .none⟩,
     ⟨(some 12), none, false, .nilCheck (.t 11), .none⟩,
     ⟨(some 13), none, false, .fieldAddr 0 (.t 12), .none⟩,
     ⟨(some 14), none, false, .callF 25 [(.t 13)], .none⟩,
     ⟨(some 15), none, false, .callF 24 [(.t 10), (.u 14 .share)], .none⟩])
   (.skip)))
  (.block 0 (.seq (.region false [⟨(some 17), none, false, .mv (.t 0), .none⟩,
    ⟨(some 18), none, false, .nilCheck (.t 17), .none⟩,
    ⟨(some 19), none, false, .fieldAddr 1 (.t 18), .none⟩,
    ⟨(some 20), none, false, .load false 1 (.t 19) .copy, .none⟩,
    ⟨(some 21), none, false, .bin .eql (.t 20) (.c (.int .i64 3)), .none⟩,
    ⟨(some 22), none, false, .mv (.t 21), .none⟩,
    ⟨(some 23), (some (22, false)), false, .mv (.t 0), .none⟩,
    ⟨(some 24), (some (22, false)), false, .nilCheck (.t 23), .none⟩,
    ⟨(some 25), (some (22, false)), false, .fieldAddr 1 (.t 24), .none⟩,
    ⟨(some 26), (some (22, false)), false, .load false 1 (.t 25) .copy, .none⟩,
    ⟨(some 27), (some (22, false)), false, .bin .eql (.t 26) (.c (.int .i64 4)), .none⟩,
    ⟨(some 28), none, false, .pick (.t 22) (.c (.bool true)) (.t 27), .none⟩,
    ⟨(some 16), none, false, .mv (.t 28), .none⟩])
  (.cond (.t 16)
   (.region false [⟨(some 29), none, false, .mv (.t 0), .none⟩,
     ⟨(some 30), none, false, .nilCheck (.t 29), .none⟩,
     ⟨(some 31), none, false, .fieldAddr 1 (.t 30), .none⟩,
     ⟨(some 32), none, false, .load false 1 (.t 31) .copy, .none⟩,
     ⟨(some 33), none, false, .callF 26 [(.t 32)], .none⟩,
     ⟨(some 34), none, false, .mv (.t 0), .none⟩,
     ⟨(some 35), none, false, .mv (.t 1), .none⟩,
     ⟨(some 36), none, false, .callV (.t 33) [(.t 34), (.t 35)], .none⟩])
   (.seq (.region false [⟨(some 38), none, false, .mv (.t 1), .none⟩,
     ⟨(some 39), none, false, .bin .eql (.t 38) (.c (.int .u8 24)), .none⟩,
     ⟨(some 40), none, false, .mv (.t 39), .none⟩,
     ⟨(some 41), (some (40, false)), false, .mv (.t 1), .none⟩,
     ⟨(some 42), (some (40, false)), false, .bin .eql (.t 41) (.c (.int .u8 26)), .none⟩,
     ⟨(some 43), none, false, .pick (.t 40) (.c (.bool true)) (.t 42), .none⟩,
     ⟨(some 37), none, false, .mv (.t 43), .none⟩])
   (.cond (.t 37)
    (.region false [⟨(some 44), none, false, .mv (.t 0), .none⟩,
      ⟨(some 45), none, false, .nilCheck (.t 44), .none⟩,
      ⟨(some 46), none, false, .fieldAddr 1 (.t 45), .none⟩,
      ⟨none, none, false, .store 1 (.t 46) (.c (.int .i64 0)), .none⟩])
    (.seq (.region false [⟨(some 48), none, false, .mv (.t 1), .none⟩,
      ⟨(some 49), none, false, .bin .eql (.t 48) (.c (.int .u8 27)), .none⟩,
      ⟨(some 47), none, false, .mv (.t 49), .none⟩])
    (.cond (.t 47)
     (.region false [⟨(some 50), none, false, .mv (.t 0), .none⟩,
       ⟨(some 51), none, false, .callF 27 [(.t 50), (.c (.int .i64 1))], .none⟩])
     (.seq (.region false [⟨(some 53), none, false, .mv (.t 1), .none⟩,
       ⟨(some 54), none, false, .bin .lss (.t 53) (.c (.int .u8 32)), .none⟩,
       ⟨(some 52), none, false, .mv (.t 54), .none⟩])
     (.cond (.t 52)
      (.region false [⟨(some 55), none, false, .mv (.t 0), .none⟩,
        ⟨(some 56), none, false, .mv (.t 1), .none⟩,
        ⟨(some 57), none, false, .build [(.int .i64 0), (.int .i32 0), (.int .u8 0), (.int .u8 0), (.str []), .nils, (.str [])] [(0, 1, (.c (.int .i64 2))), (2, 1, (.t 56))], .none⟩,
        ⟨(some 58), none, false, .callF 28 [(.t 55), (.u 57 .share)], .none⟩])
      (.seq (.region false [⟨(some 60), none, false, .mv (.t 1), .none⟩,
        ⟨(some 61), none, false, .bin .neq (.t 60) (.c (.int .u8 127)), .none⟩,
        ⟨(some 59), none, false, .mv (.t 61), .none⟩])
      (.cond (.t 59)
       (.region false [⟨(some 62), none, false, .mv (.t 0), .none⟩,
         ⟨(some 63), none, false, .nilCheck (.t 62), .none⟩,
         ⟨(some 64), none, false, .fieldAddr 1 (.t 63), .none⟩,
         ⟨(some 65), none, false, .load false 1 (.t 64) .copy, .none⟩,
         ⟨(some 66), none, false, .callF 26 [(.t 65)], .none⟩,
         ⟨(some 67), none, false, .mv (.t 0), .none⟩,
         ⟨(some 68), none, false, .mv (.t 1), .none⟩,
         ⟨(some 69), none, false, .callV (.t 66) [(.t 67), (.t 68)], .none⟩])
       (.skip))))))))))))⟩
theorem c18 : cFunc Go.Proofs.Tryd.prog p18 18 = some a18 := by decide +kernel
def p19 : Plan := ⟨[], 0, [],
  []⟩
def a19 : AFunc := ⟨1, 8, 0, [.tmp 2],
  .seq (.region false [⟨(some 2), none, false, .mv (.c (.int .i64 0)), .none⟩])
  (.seq (.region false [⟨(some 3), none, false, .mv (.t 0), .none⟩,
    ⟨(some 4), none, false, .nilCheck (.t 3), .none⟩,
    ⟨(some 5), none, false, .fieldAddr 0 (.t 4), .none⟩,
    ⟨(some 6), none, false, .load false 1 (.t 5) .copy, .none⟩,
    ⟨(some 7), none, false, .lenSl (.t 6), .none⟩,
    ⟨(some 2), none, false, .mv (.t 7), .none⟩])
  (.ret))⟩
theorem c19 : cFunc Go.Proofs.Tryd.prog p19 19 = some a19 := by decide +kernel
def p20 : Plan := ⟨[], 0, [((1, 0), { uses := [(0, .take)] }),
    ((1, 3), { uses := [(7, .take)] }),
    ((1, 4), { uses := [(10, .take)] })],
  []⟩
def a20 : AFunc := ⟨3, 11, 0, [.tmp 6],
  .seq (.region false [⟨(some 6), none, false, .mv (.c .nils), .none⟩])
  (.seq (.region false [⟨(some 7), none, false, .mv (.u 0 .take), .none⟩,
    ⟨(some 8), none, false, .mv (.t 1), .none⟩,
    ⟨(some 9), none, false, .mv (.t 2), .none⟩,
    ⟨(some 10), none, false, .callF 29 [(.u 7 .take), (.t 8), (.t 9)], .none⟩,
    ⟨(some 6), none, false, .mv (.u 10 .take), .none⟩])
  (.ret))⟩
def v20 : List Nat := [0, 1, 2, 6]
theorem c20 : cFunc Go.Proofs.Tryd.prog p20 20 = some a20 := by decide +kernel
def p21 : Plan := ⟨[21], 0, [((9, 4), { uses := [(21, .peek)] })],
  [[0, 3, 4]]⟩
def a21 : AFunc := ⟨1, 31, 0, [.tmp 2],
  .seq (.region false [⟨(some 2), none, false, .mv (.c (.str [])), .none⟩])
  (.seq (.seq (.region false [⟨(some 6), none, false, .mv (.t 0), .none⟩,
    ⟨(some 7), none, false, .bin .eql (.t 6) (.c (.int .i64 0)), .none⟩])
  (.cond (.t 7)
   (.seq (.region false [⟨(some 2), none, false, .mv (.c (.str [48])), .none⟩])
   (.ret))
   (.skip)))
  (.seq (.region false [⟨(some 8), none, false, .mv (.t 0), .none⟩,
    ⟨(some 9), none, false, .bin .lss (.t 8) (.c (.int .i64 0)), .none⟩,
    ⟨(some 3), none, false, .mv (.t 9), .none⟩])
  (.seq (.region false [⟨(some 4), none, false, .mv (.c (.str [])), .none⟩])
  (.seq (.block 0 (.loop [0, 3, 4] (.seq (.seq (.region false [⟨(some 10), none, false, .mv (.t 0), .none⟩,
     ⟨(some 11), none, false, .bin .neq (.t 10) (.c (.int .i64 0)), .none⟩])
   (.cond (.t 11)
    (.skip)
    (.exit 0)))
   (.block 1 (.seq (.region false [⟨(some 12), none, false, .mv (.t 0), .none⟩,
     ⟨(some 13), none, false, .bin .rem (.t 12) (.c (.int .i64 10)), .none⟩,
     ⟨(some 5), none, false, .mv (.t 13), .none⟩])
   (.seq (.seq (.region false [⟨(some 14), none, false, .mv (.t 5), .none⟩,
     ⟨(some 15), none, false, .bin .lss (.t 14) (.c (.int .i64 0)), .none⟩])
   (.cond (.t 15)
    (.region false [⟨(some 16), none, false, .mv (.t 5), .none⟩,
      ⟨(some 17), none, false, .un .neg (.t 16), .none⟩,
      ⟨(some 5), none, false, .mv (.t 17), .none⟩])
    (.skip)))
   (.seq (.region false [⟨(some 18), none, false, .mv (.t 5), .none⟩,
     ⟨(some 19), none, false, .bin .add (.c (.int .i64 48)) (.t 18), .none⟩,
     ⟨(some 20), none, false, .conv .u8 (.t 19), .none⟩,
     ⟨(some 21), none, true, .buildSlice 1 [(.int .u8 0)] 1 [(0, (.t 20))], .none⟩,
     ⟨(some 22), none, false, .bytesStr (.u 21 .peek), .none⟩,
     ⟨(some 23), none, false, .mv (.t 4), .none⟩,
     ⟨(some 24), none, false, .bin .add (.t 22) (.t 23), .none⟩,
     ⟨(some 4), none, false, .mv (.t 24), .none⟩])
   (.region false [⟨(some 25), none, false, .mv (.t 0), .none⟩,
     ⟨(some 26), none, false, .bin .quo (.t 25) (.c (.int .i64 10)), .none⟩,
     ⟨(some 0), none, false, .mv (.t 26), .none⟩]))))))))
  (.seq (.seq (.region false [⟨(some 27), none, false, .mv (.t 3), .none⟩])
  (.cond (.t 27)
   (.seq (.region false [⟨(some 28), none, false, .mv (.t 4), .none⟩,
     ⟨(some 29), none, false, .bin .add (.c (.str [45])) (.t 28), .none⟩,
     ⟨(some 2), none, false, .mv (.t 29), .none⟩])
   (.ret))
   (.skip)))
  (.seq (.region false [⟨(some 30), none, false, .mv (.t 4), .none⟩,
    ⟨(some 2), none, false, .mv (.t 30), .none⟩])
  (.ret)))))))⟩
theorem c21 : cFunc Go.Proofs.Tryd.prog p21 21 = some a21 := by decide +kernel
def p22 : Plan := ⟨[], 0, [],
  []⟩
def a22 : AFunc := ⟨3, 16, 0, [.tmp 6],
  .seq (.region false [⟨(some 6), none, false, .mv (.c (.int .i64 0)), .none⟩])
  (.seq (.seq (.region false [⟨(some 7), none, false, .mv (.t 0), .none⟩,
    ⟨(some 8), none, false, .mv (.t 1), .none⟩,
    ⟨(some 9), none, false, .bin .lss (.t 7) (.t 8), .none⟩])
  (.cond (.t 9)
   (.seq (.region false [⟨(some 10), none, false, .mv (.t 1), .none⟩,
     ⟨(some 6), none, false, .mv (.t 10), .none⟩])
   (.ret))
   (.skip)))
  (.seq (.seq (.region false [⟨(some 11), none, false, .mv (.t 0), .none⟩,
    ⟨(some 12), none, false, .mv (.t 2), .none⟩,
    ⟨(some 13), none, false, .bin .gtr (.t 11) (.t 12), .none⟩])
  (.cond (.t 13)
   (.seq (.region false [⟨(some 14), none, false, .mv (.t 2), .none⟩,
     ⟨(some 6), none, false, .mv (.t 14), .none⟩])
   (.ret))
   (.skip)))
  (.seq (.region false [⟨(some 15), none, false, .mv (.t 0), .none⟩,
    ⟨(some 6), none, false, .mv (.t 15), .none⟩])
  (.ret))))⟩
theorem c22 : cFunc Go.Proofs.Tryd.prog p22 22 = some a22 := by decide +kernel
def p23 : Plan := ⟨[], 0, [((6, 8), { uses := [(24, .share)] }),
    ((13, 10), { uses := [(48, .share)] }),
    ((13, 14), { uses := [(54, .share)] }),
    ((20, 10), { uses := [(85, .share)] }),
    ((20, 14), { uses := [(91, .share)] }),
    ((20, 18), { uses := [(95, .share)] })],
  []⟩
def a23 : AFunc := ⟨1, 122, 0, [.tmp 2, .tmp 3],
  .seq (.region false [⟨(some 2), none, false, .mv (.c (.int .i64 0)), .none⟩,
    ⟨(some 3), none, false, .mv (.c (.int .i32 0)), .none⟩])
  (.seq (.seq (.region false [⟨(some 7), none, false, .mv (.t 0), .none⟩,
    ⟨(some 8), none, false, .lenSl (.t 7), .none⟩,
    ⟨(some 9), none, false, .bin .eql (.t 8) (.c (.int .i64 0)), .none⟩])
  (.cond (.t 9)
   (.seq (.region false [⟨(some 2), none, false, .mv (.c (.int .i64 0)), .none⟩,
     ⟨(some 3), none, false, .mv (.c (.int .i32 0)), .none⟩])
   (.ret))
   (.skip)))
  (.seq (.region false [⟨(some 10), none, false, .mv (.t 0), .none⟩,
    ⟨(some 11), none, false, .indexSl 1 (.t 10) (.c (.int .i64 0)), .none⟩,
    ⟨(some 12), none, false, .load false 1 (.t 11) .copy, .none⟩,
    ⟨(some 4), none, false, .mv (.t 12), .none⟩])
  (.seq (.seq (.region false [⟨(some 13), none, false, .mv (.t 4), .none⟩,
    ⟨(some 14), none, false, .bin .lss (.t 13) (.c (.int .u8 128)), .none⟩])
  (.cond (.t 14)
   (.seq (.region false [⟨(some 15), none, false, .mv (.t 4), .none⟩,
     ⟨(some 16), none, false, .conv .i32 (.t 15), .none⟩,
     ⟨(some 2), none, false, .mv (.c (.int .i64 1)), .none⟩,
     ⟨(some 3), none, false, .mv (.t 16), .none⟩])
   (.ret))
   (.skip)))
  (.seq (.seq (.region false [⟨(some 17), none, false, .mv (.t 4), .none⟩,
    ⟨(some 18), none, false, .bin .geq (.t 17) (.c (.int .u8 194)), .none⟩,
    ⟨(some 19), none, false, .mv (.t 18), .none⟩,
    ⟨(some 20), (some (19, true)), false, .mv (.t 4), .none⟩,
    ⟨(some 21), (some (19, true)), false, .bin .leq (.t 20) (.c (.int .u8 223)), .none⟩,
    ⟨(some 22), none, false, .pick (.t 19) (.t 21) (.c (.bool false)), .none⟩,
    ⟨(some 23), none, false, .mv (.t 22), .none⟩,
    ⟨(some 24), (some (23, true)), false, .mv (.t 0), .none⟩,
    ⟨(some 25), (some (23, true)), false, .callF 30 [(.u 24 .share), (.c (.int .i64 1)), (.c (.int .u8 128)), (.c (.int .u8 191))], .none⟩,
    ⟨(some 26), none, false, .pick (.t 23) (.t 25) (.c (.bool false)), .none⟩])
  (.cond (.t 26)
   (.seq (.region true [⟨(some 27), none, false, .mv (.t 4), .none⟩,
     ⟨(some 28), none, false, .bin .and (.t 27) (.c (.int .u8 31)), .none⟩,
     ⟨(some 29), none, false, .conv .i32 (.t 28), .none⟩,
     ⟨(some 30), none, false, .bin .shl (.t 29) (.c (.int .u64 6)), .none⟩,
     ⟨(some 31), none, false, .mv (.t 0), .none⟩,
     ⟨(some 32), none, false, .indexSl 1 (.t 31) (.c (.int .i64 1)), .none⟩,
     ⟨(some 33), none, false, .load false 1 (.t 32) .copy, .none⟩,
     ⟨(some 34), none, false, .bin .and (.t 33) (.c (.int .u8 63)), .none⟩,
     ⟨(some 35), none, false, .conv .i32 (.t 34), .none⟩,
     ⟨(some 36), none, false, .bin .or (.t 30) (.t 35), .none⟩,
     ⟨(some 2), none, false, .mv (.c (.int .i64 2)), .none⟩,
     ⟨(some 3), none, false, .mv (.t 36), .none⟩])
   (.ret))
   (.skip)))
  (.seq (.region false [⟨(some 5), none, false, .mv (.c (.int .u8 128)), .none⟩,
    ⟨(some 6), none, false, .mv (.c (.int .u8 191)), .none⟩])
  (.seq (.seq (.region false [⟨(some 37), none, false, .mv (.t 4), .none⟩,
    ⟨(some 38), none, false, .bin .eql (.t 37) (.c (.int .u8 224)), .none⟩])
  (.cond (.t 38)
   (.region false [⟨(some 5), none, false, .mv (.c (.int .u8 160)), .none⟩])
   (.skip)))
  (.seq (.seq (.region false [⟨(some 39), none, false, .mv (.t 4), .none⟩,
    ⟨(some 40), none, false, .bin .eql (.t 39) (.c (.int .u8 237)), .none⟩])
  (.cond (.t 40)
   (.region false [⟨(some 6), none, false, .mv (.c (.int .u8 159)), .none⟩])
   (.skip)))
  (.seq (.seq (.region false [⟨(some 41), none, false, .mv (.t 4), .none⟩,
    ⟨(some 42), none, false, .bin .geq (.t 41) (.c (.int .u8 224)), .none⟩,
    ⟨(some 43), none, false, .mv (.t 42), .none⟩,
    ⟨(some 44), (some (43, true)), false, .mv (.t 4), .none⟩,
    ⟨(some 45), (some (43, true)), false, .bin .leq (.t 44) (.c (.int .u8 239)), .none⟩,
    ⟨(some 46), none, false, .pick (.t 43) (.t 45) (.c (.bool false)), .none⟩,
    ⟨(some 47), none, false, .mv (.t 46), .none⟩,
    ⟨(some 48), (some (47, true)), false, .mv (.t 0), .none⟩,
    ⟨(some 49), (some (47, true)), false, .mv (.t 5), .none⟩,
    ⟨(some 50), (some (47, true)), false, .mv (.t 6), .none⟩,
    ⟨(some 51), (some (47, true)), false, .callF 30 [(.u 48 .share), (.c (.int .i64 1)), (.t 49), (.t 50)], .none⟩,
    ⟨(some 52), none, false, .pick (.t 47) (.t 51) (.c (.bool false)), .none⟩,
    ⟨(some 53), none, false, .mv (.t 52), .none⟩,
    ⟨(some 54), (some (53, true)), false, .mv (.t 0), .none⟩,
    ⟨(some 55), (some (53, true)), false, .callF 30 [(.u 54 .share), (.c (.int .i64 2)), (.c (.int .u8 128)), (.c (.int .u8 191))], .none⟩,
    ⟨(some 56), none, false, .pick (.t 53) (.t 55) (.c (.bool false)), .none⟩])
  (.cond (.t 56)
   (.seq (.region true [⟨(some 57), none, false, .mv (.t 4), .none⟩,
     ⟨(some 58), none, false, .bin .and (.t 57) (.c (.int .u8 15)), .none⟩,
     ⟨(some 59), none, false, .conv .i32 (.t 58), .none⟩,
     ⟨(some 60), none, false, .bin .shl (.t 59) (.c (.int .u64 12)), .none⟩,
     ⟨(some 61), none, false, .mv (.t 0), .none⟩,
     ⟨(some 62), none, false, .indexSl 1 (.t 61) (.c (.int .i64 1)), .none⟩,
     ⟨(some 63), none, false, .load false 1 (.t 62) .copy, .none⟩,
     ⟨(some 64), none, false, .bin .and (.t 63) (.c (.int .u8 63)), .none⟩,
     ⟨(some 65), none, false, .conv .i32 (.t 64), .none⟩,
     ⟨(some 66), none, false, .bin .shl (.t 65) (.c (.int .u64 6)), .none⟩,
     ⟨(some 67), none, false, .bin .or (.t 60) (.t 66), .none⟩,
     ⟨(some 68), none, false, .mv (.t 0), .none⟩,
     ⟨(some 69), none, false, .indexSl 1 (.t 68) (.c (.int .i64 2)), .none⟩,
     ⟨(some 70), none, false, .load false 1 (.t 69) .copy, .none⟩,
     ⟨(some 71), none, false, .bin .and (.t 70) (.c (.int .u8 63)), .none⟩,
     ⟨(some 72), none, false, .conv .i32 (.t 71), .none⟩,
     ⟨(some 73), none, false, .bin .or (.t 67) (.t 72), .none⟩,
     ⟨(some 2), none, false, .mv (.c (.int .i64 3)), .none⟩,
     ⟨(some 3), none, false, .mv (.t 73), .none⟩])
   (.ret))
   (.skip)))
  (.seq (.region false [⟨(some 5), none, false, .mv (.c (.int .u8 128)), .none⟩,
    ⟨(some 6), none, false, .mv (.c (.int .u8 191)), .none⟩])
  (.seq (.seq (.region false [⟨(some 74), none, false, .mv (.t 4), .none⟩,
    ⟨(some 75), none, false, .bin .eql (.t 74) (.c (.int .u8 240)), .none⟩])
  (.cond (.t 75)
   (.region false [⟨(some 5), none, false, .mv (.c (.int .u8 144)), .none⟩])
   (.skip)))
  (.seq (.seq (.region false [⟨(some 76), none, false, .mv (.t 4), .none⟩,
    ⟨(some 77), none, false, .bin .eql (.t 76) (.c (.int .u8 244)), .none⟩])
  (.cond (.t 77)
   (.region false [⟨(some 6), none, false, .mv (.c (.int .u8 143)), .none⟩])
   (.skip)))
  (.seq (.seq (.region false [⟨(some 78), none, false, .mv (.t 4), .none⟩,
    ⟨(some 79), none, false, .bin .geq (.t 78) (.c (.int .u8 240)), .none⟩,
    ⟨(some 80), none, false, .mv (.t 79), .none⟩,
    ⟨(some 81), (some (80, true)), false, .mv (.t 4), .none⟩,
    ⟨(some 82), (some (80, true)), false, .bin .leq (.t 81) (.c (.int .u8 244)), .none⟩,
    ⟨(some 83), none, false, .pick (.t 80) (.t 82) (.c (.bool false)), .none⟩,
    ⟨(some 84), none, false, .mv (.t 83), .none⟩,
    ⟨(some 85), (some (84, true)), false, .mv (.t 0), .none⟩,
    ⟨(some 86), (some (84, true)), false, .mv (.t 5), .none⟩,
    ⟨(some 87), (some (84, true)), false, .mv (.t 6), .none⟩,
    ⟨(some 88), (some (84, true)), false, .callF 30 [(.u 85 .share), (.c (.int .i64 1)), (.t 86), (.t 87)], .none⟩,
    ⟨(some 89), none, false, .pick (.t 84) (.t 88) (.c (.bool false)), .none⟩,
    ⟨(some 90), none, false, .mv (.t 89), .none⟩,
    ⟨(some 91), (some (90, true)), false, .mv (.t 0), .none⟩,
    ⟨(some 92), (some (90, true)), false, .callF 30 [(.u 91 .share), (.c (.int .i64 2)), (.c (.int .u8 128)), (.c (.int .u8 191))], .none⟩,
    ⟨(some 93), none, false, .pick (.t 90) (.t 92) (.c (.bool false)), .none⟩,
    ⟨(some 94), none, false, .mv (.t 93), .none⟩,
    ⟨(some 95), (some (94, true)), false, .mv (.t 0), .none⟩,
    ⟨(some 96), (some (94, true)), false, .callF 30 [(.u 95 .share), (.c (.int .i64 3)), (.c (.int .u8 128)), (.c (.int .u8 191))], .none⟩,
    ⟨(some 97), none, false, .pick (.t 94) (.t 96) (.c (.bool false)), .none⟩])
  (.cond (.t 97)
   (.seq (.region true [⟨(some 98), none, false, .mv (.t 4), .none⟩,
     ⟨(some 99), none, false, .bin .and (.t 98) (.c (.int .u8 7)), .none⟩,
     ⟨(some 100), none, false, .conv .i32 (.t 99), .none⟩,
     ⟨(some 101), none, false, .bin .shl (.t 100) (.c (.int .u64 18)), .none⟩,
     ⟨(some 102), none, false, .mv (.t 0), .none⟩,
     ⟨(some 103), none, false, .indexSl 1 (.t 102) (.c (.int .i64 1)), .none⟩,
     ⟨(some 104), none, false, .load false 1 (.t 103) .copy, .none⟩,
     ⟨(some 105), none, false, .bin .and (.t 104) (.c (.int .u8 63)), .none⟩,
     ⟨(some 106), none, false, .conv .i32 (.t 105), .none⟩,
     ⟨(some 107), none, false, .bin .shl (.t 106) (.c (.int .u64 12)), .none⟩,
     ⟨(some 108), none, false, .bin .or (.t 101) (.t 107), .none⟩,
     ⟨(some 109), none, false, .mv (.t 0), .none⟩,
     ⟨(some 110), none, false, .indexSl 1 (.t 109) (.c (.int .i64 2)), .none⟩,
     ⟨(some 111), none, false, .load false 1 (.t 110) .copy, .none⟩,
     ⟨(some 112), none, false, .bin .and (.t 111) (.c (.int .u8 63)), .none⟩,
     ⟨(some 113), none, false, .conv .i32 (.t 112), .none⟩,
     ⟨(some 114), none, false, .bin .shl (.t 113) (.c (.int .u64 6)), .none⟩,
     ⟨(some 115), none, false, .bin .or (.t 108) (.t 114), .none⟩,
     ⟨(some 116), none, false, .mv (.t 0), .none⟩,
     ⟨(some 117), none, false, .indexSl 1 (.t 116) (.c (.int .i64 3)), .none⟩,
     ⟨(some 118), none, false, .load false 1 (.t 117) .copy, .none⟩,
     ⟨(some 119), none, false, .bin .and (.t 118) (.c (.int .u8 63)), .none⟩,
     ⟨(some 120), none, false, .conv .i32 (.t 119), .none⟩,
     ⟨(some 121), none, false, .bin .or (.t 115) (.t 120), .none⟩,
     ⟨(some 2), none, false, .mv (.c (.int .i64 4)), .none⟩,
     ⟨(some 3), none, false, .mv (.t 121), .none⟩])
   (.ret))
   (.skip)))
  (.seq (.region false [⟨(some 2), none, false, .mv (.c (.int .i64 0)), .none⟩,
    ⟨(some 3), none, false, .mv (.c (.int .i32 0)), .none⟩])
  (.ret))))))))))))))⟩
theorem c23 : cFunc Go.Proofs.Tryd.prog p23 23 = some a23 := by decide +kernel
def p24 : Plan := ⟨[], 0, [((3, 3), { uses := [(14, .share)] })],
  [[0, 6, 7, 8]]⟩
def a24 : AFunc := ⟨2, 17, 0, [],
  .seq (.region false [⟨(some 6), none, false, .mv (.t 1), .none⟩,
    ⟨(some 7), none, false, .lenSl (.t 6), .none⟩,
    ⟨(some 8), none, false, .mv (.c (.int .i64 0)), .none⟩])
  (.block 0 (.loop [0, 6, 7, 8] (.seq (.region false [⟨(some 9), none, false, .bin .lss (.t 8) (.t 7), .none⟩])
   (.seq (.cond (.t 9)
    (.skip)
    (.exit 0))
   (.seq (.block 1 (.seq (.region false [⟨(some 10), none, false, .indexSl 1 (.t 6) (.t 8), .none⟩,
     ⟨(some 11), none, false, .load false 1 (.t 10) .copy, .none⟩,
     ⟨(some 5), none, false, .mv (.t 11), .none⟩])
   (.region false [⟨(some 12), none, false, .mv (.t 0), .none⟩,
     ⟨(some 13), none, false, .mv (.t 5), .none⟩,
     ⟨(some 14), none, false, .build [(.int .i64 0), (.int .i32 0), (.int .u8 0), (.int .u8 0), (.str []), .nils, (.str [])] [(0, 1, (.c (.int .i64 1))), (1, 1, (.t 13))], .none⟩,
     ⟨(some 15), none, false, .callF 28 [(.t 12), (.u 14 .share)], .none⟩])))
   (.region false [⟨(some 16), none, false, .bin .add (.t 8) (.c (.int .i64 1)), .none⟩,
     ⟨(some 8), none, false, .mv (.t 16), .none⟩]))))))⟩
theorem c24 : cFunc Go.Proofs.Tryd.prog p24 24 = some a24 := by decide +kernel
def p25 : Plan := ⟨[], 0, [((1, 6), { uses := [(4, .share)] }),
    ((1, 7), { uses := [(10, .share)] }),
    ((3, 1), { uses := [(14, .take)] })],
  []⟩
def a25 : AFunc := ⟨1, 15, 0, [.tmp 2],
  .seq (.region false [⟨(some 2), none, false, .mv (.c .nils), .none⟩])
  (.seq (.region false [⟨(some 4), none, false, .buildSlice 1 [(.int .i32 0)] 1 [(0, (.c (.int .i32 65533)))], .none⟩,
    ⟨(some 5), none, false, .mv (.t 0), .none⟩,
    ⟨(some 6), none, false, .nilCheck (.t 5), .none⟩,
    ⟨(some 7), none, false, .fieldAddr 0 (.t 6), .none⟩,
    ⟨(some 8), none, false, .load false 1 (.t 7) .copy, .none⟩,
    ⟨(some 9), none, false, .lenSl (.t 8), .none⟩,
    ⟨(some 10), none, false, .callF 31 [(.u 4 .share), (.t 9)], .none⟩,
    ⟨(some 3), none, false, .mv (.u 10 .share), .none⟩])
  (.seq (.region false [⟨(some 11), none, false, .mv (.t 0), .none⟩,
    ⟨(some 12), none, false, .nilCheck (.t 11), .none⟩,
    ⟨(some 13), none, false, .fieldAddr 0 (.t 12), .none⟩,
    ⟨none, none, false, .store 1 (.t 13) (.c .nils), .none⟩])
  (.seq (.region false [⟨(some 14), none, false, .mv (.t 3), .none⟩,
    ⟨(some 2), none, false, .mv (.u 14 .take), .none⟩])
  (.ret))))⟩
theorem c25 : cFunc Go.Proofs.Tryd.prog p25 25 = some a25 := by decide +kernel
def p26 : Plan := ⟨[], 0, [],
  []⟩
def a26 : AFunc := ⟨1, 12, 0, [.tmp 2],
  .seq (.region false [⟨(some 2), none, false, .mv (.c .nilf), .none⟩])
  (.seq (.seq (.region false [⟨(some 3), none, false, .mv (.t 0), .none⟩])
  (.block 0 (.seq (.region false [⟨(some 5), none, false, .bin .eql (.t 3) (.c (.int .i64 1)), .none⟩,
    ⟨(some 4), none, false, .mv (.t 5), .none⟩])
  (.cond (.t 4)
   (.seq (.region false [⟨(some 2), none, false, .mv (.c (.func 32 [])), .none⟩])
   (.ret))
   (.seq (.region false [⟨(some 7), none, false, .bin .eql (.t 3) (.c (.int .i64 2)), .none⟩,
     ⟨(some 6), none, false, .mv (.t 7), .none⟩])
   (.cond (.t 6)
    (.seq (.region false [⟨(some 2), none, false, .mv (.c (.func 33 [])), .none⟩])
    (.ret))
    (.seq (.region false [⟨(some 9), none, false, .bin .eql (.t 3) (.c (.int .i64 3)), .none⟩,
      ⟨(some 8), none, false, .mv (.t 9), .none⟩])
    (.cond (.t 8)
     (.seq (.region false [⟨(some 2), none, false, .mv (.c (.func 34 [])), .none⟩])
     (.ret))
     (.seq (.region false [⟨(some 11), none, false, .bin .eql (.t 3) (.c (.int .i64 4)), .none⟩,
       ⟨(some 10), none, false, .mv (.t 11), .none⟩])
     (.cond (.t 10)
      (.seq (.region false [⟨(some 2), none, false, .mv (.c (.func 35 [])), .none⟩])
      (.ret))
      (.skip)))))))))))
  (.seq (.region false [⟨(some 2), none, false, .mv (.c (.func 36 [])), .none⟩])
  (.ret)))⟩
theorem c26 : cFunc Go.Proofs.Tryd.prog p26 26 = some a26 := by decide +kernel
def p27 : Plan := ⟨[], 0, [((1, 6), { uses := [(17, .take)] })],
  []⟩
def a27 : AFunc := ⟨2, 24, 0, [],
  .seq (.region false [⟨(some 4), none, false, .mv (.t 0), .none⟩,
    ⟨(some 5), none, false, .mv (.t 0), .none⟩,
    ⟨(some 6), none, false, .mv (.t 0), .none⟩,
    ⟨(some 7), none, false, .mv (.t 1), .none⟩,
    ⟨(some 8), none, false, .nilCheck (.t 4), .none⟩,
    ⟨(some 9), none, false, .fieldAddr 1 (.t 8), .none⟩,
    ⟨none, none, false, .store 1 (.t 9) (.t 7), .none⟩,
    ⟨(some 10), none, false, .nilCheck (.t 5), .none⟩,
    ⟨(some 11), none, false, .fieldAddr 2 (.t 10), .none⟩,
    ⟨none, none, false, .store 1 (.t 11) (.c (.bool false)), .none⟩,
    ⟨(some 12), none, false, .nilCheck (.t 6), .none⟩,
    ⟨(some 13), none, false, .fieldAddr 3 (.t 12), .none⟩,
    ⟨none, none, false, .store 1 (.t 13) (.c (.bool true)), .none⟩])
  (.region false [⟨(some 14), none, false, .mv (.t 0), .none⟩,
    ⟨(some 15), none, false, .mv (.t 0), .none⟩,
    ⟨(some 16), none, false, .mv (.t 0), .none⟩,
    ⟨(some 17), none, false, .build [(.int .i64 0), (.int .i32 0), (.int .u8 0), (.int .u8 0), (.str []), .nils, (.str [])] [], .none⟩,
    ⟨(some 18), none, false, .nilCheck (.t 14), .none⟩,
    ⟨(some 19), none, false, .fieldAddr 4 (.t 18), .none⟩,
    ⟨none, none, false, .store 7 (.t 19) (.u 17 .take), .none⟩,
    ⟨(some 20), none, false, .nilCheck (.t 15), .none⟩,
    ⟨(some 21), none, false, .fieldAddr 11 (.t 20), .none⟩,
    ⟨none, none, false, .store 1 (.t 21) (.c (.int .i64 0)), .none⟩,
    ⟨(some 22), none, false, .nilCheck (.t 16), .none⟩,
    ⟨(some 23), none, false, .fieldAddr 12 (.t 22), .none⟩,
    ⟨none, none, false, .store 1 (.t 23) (.c .nils), .none⟩])⟩
theorem c27 : cFunc Go.Proofs.Tryd.prog p27 27 = some a27 := by decide +kernel
def p28 : Plan := ⟨[], 1, [((1, 10), { uses := [(11, .take)], mark := .mem }),
    ((1, 6), { uses := [(9, .share)], mark := .free }),
    ((1, 5), { mark := (.loc 0) }),
    ((1, 4), { mode := .take, mark := .mem }),
    ((0, 0), { box := some 0 }),
    ((1, 7), { uses := [(8, .take), (10, .take)] })],
  []⟩
def a28 : AFunc := ⟨2, 14, 1, [],
  .seq (.region false [⟨(some 3), none, false, .boxL 0 (.t 1), .none⟩])
  (.region true [⟨(some 4), none, false, .mv (.t 0), .none⟩,
    ⟨(some 5), none, false, .mv (.t 0), .none⟩,
    ⟨(some 6), none, false, .nilCheck (.t 5), .none⟩,
    ⟨(some 7), none, false, .fieldAddr 13 (.t 6), .none⟩,
    ⟨(some 8), none, false, .load false 1 (.t 7) .take, .mem⟩,
    ⟨(some 9), none, false, .load true 7 (.t 3) .copy, (.loc 0)⟩,
    ⟨(some 10), none, false, .buildSlice 7 [(.int .i64 0), (.int .i32 0), (.int .u8 0), (.int .u8 0), (.str []), .nils, (.str [])] 1 [(0, (.u 9 .share))], .free⟩,
    ⟨(some 11), none, false, .append 7 (.u 8 .take) (.u 10 .take), .none⟩,
    ⟨(some 12), none, false, .nilCheck (.t 4), .none⟩,
    ⟨(some 13), none, false, .fieldAddr 13 (.t 12), .none⟩,
    ⟨none, none, false, .store 1 (.t 13) (.u 11 .take), .mem⟩])⟩
theorem c28 : cFunc Go.Proofs.Tryd.prog p28 28 = some a28 := by decide +kernel
def p29 : Plan := ⟨[], 0, [((3, 0), { uses := [(0, .take)] }),
    ((3, 2), { uses := [(12, .take), (13, .take)] }),
    ((3, 3), { uses := [(14, .take)] }),
    ((5, 0), { uses := [(0, .take)] }),
    ((5, 3), { uses := [(17, .take)] }),
    ((5, 4), { uses := [(20, .take)] })],
  []⟩
def a29 : AFunc := ⟨3, 21, 0, [.tmp 6],
  .seq (.region false [⟨(some 6), none, false, .mv (.c .nils), .none⟩])
  (.seq (.region false [⟨(some 8), none, false, .mv (.t 1), .none⟩,
    ⟨(some 9), none, false, .conv .u64 (.t 8), .none⟩,
    ⟨(some 7), none, false, .mv (.t 9), .none⟩])
  (.seq (.seq (.region false [⟨(some 10), none, false, .mv (.t 1), .none⟩,
    ⟨(some 11), none, false, .bin .lss (.t 10) (.c (.int .i64 0)), .none⟩])
  (.cond (.t 11)
   (.seq (.region false [⟨(some 12), none, false, .mv (.u 0 .take), .none⟩,
     ⟨(some 13), none, false, .buildSlice 1 [(.int .u8 0)] 1 [(0, (.c (.int .u8 45)))], .none⟩,
     ⟨(some 14), none, false, .append 1 (.u 12 .take) (.u 13 .take), .none⟩,
     ⟨(some 0), none, false, .mv (.u 14 .take), .none⟩])
   (.region false [⟨(some 15), none, false, .mv (.t 7), .none⟩,
     ⟨(some 16), none, false, .un .neg (.t 15), .none⟩,
     ⟨(some 7), none, false, .mv (.t 16), .none⟩]))
   (.skip)))
  (.seq (.region false [⟨(some 17), none, false, .mv (.u 0 .take), .none⟩,
    ⟨(some 18), none, false, .mv (.t 7), .none⟩,
    ⟨(some 19), none, false, .mv (.t 2), .none⟩,
    ⟨(some 20), none, false, .callF 37 [(.u 17 .take), (.t 18), (.t 19)], .none⟩,
    ⟨(some 6), none, false, .mv (.u 20 .take), .none⟩])
  (.ret))))⟩
theorem c29 : cFunc Go.Proofs.Tryd.prog p29 29 = some a29 := by decide +kernel
def p30 : Plan := ⟨[], 0, [],
  []⟩
def a30 : AFunc := ⟨4, 29, 0, [.tmp 8],
  .seq (.region false [⟨(some 8), none, false, .mv (.c (.bool false)), .none⟩])
  (.seq (.region false [⟨(some 9), none, false, .mv (.t 1), .none⟩,
    ⟨(some 10), none, false, .mv (.t 0), .none⟩,
    ⟨(some 11), none, false, .lenSl (.t 10), .none⟩,
    ⟨(some 12), none, false, .bin .lss (.t 9) (.t 11), .none⟩,
    ⟨(some 13), none, false, .mv (.t 12), .none⟩,
    ⟨(some 14), (some (13, true)), false, .mv (.t 0), .none⟩,
    ⟨(some 15), (some (13, true)), false, .mv (.t 1), .none⟩,
    ⟨(some 16), (some (13, true)), false, .indexSl 1 (.t 14) (.t 15), .none⟩,
    ⟨(some 17), (some (13, true)), false, .load false 1 (.t 16) .copy, .none⟩,
    ⟨(some 18), (some (13, true)), false, .mv (.t 2), .none⟩,
    ⟨(some 19), (some (13, true)), false, .bin .geq (.t 17) (.t 18), .none⟩,
    ⟨(some 20), none, false, .pick (.t 13) (.t 19) (.c (.bool false)), .none⟩,
    ⟨(some 21), none, false, .mv (.t 20), .none⟩,
    ⟨(some 22), (some (21, true)), false, .mv (.t 0), .none⟩,
    ⟨(some 23), (some (21, true)), false, .mv (.t 1), .none⟩,
    ⟨(some 24), (some (21, true)), false, .indexSl 1 (.t 22) (.t 23), .none⟩,
    ⟨(some 25), (some (21, true)), false, .load false 1 (.t 24) .copy, .none⟩,
    ⟨(some 26), (some (21, true)), false, .mv (.t 3), .none⟩,
    ⟨(some 27), (some (21, true)), false, .bin .leq (.t 25) (.t 26), .none⟩,
    ⟨(some 28), none, false, .pick (.t 21) (.t 27) (.c (.bool false)), .none⟩,
    ⟨(some 8), none, false, .mv (.t 28), .none⟩])
  (.ret))⟩
theorem c30 : cFunc Go.Proofs.Tryd.prog p30 30 = some a30 := by decide +kernel
def p32 : Plan := ⟨[], 0, [((4, 8), { uses := [(31, .take)] }),
    ((4, 10), { uses := [(32, .share)] }),
    ((8, 8), { uses := [(60, .share)] })],
  []⟩
def a32 : AFunc := ⟨2, 65, 0, [],
  .seq (.block 0 (.seq (.region false [⟨(some 5), none, false, .mv (.t 1), .none⟩,
    ⟨(some 6), none, false, .bin .lss (.t 5) (.c (.int .u8 48)), .none⟩,
    ⟨(some 4), none, false, .mv (.t 6), .none⟩])
  (.cond (.t 4)
   (.seq (.region false [⟨(some 7), none, false, .mv (.t 0), .none⟩,
     ⟨(some 8), none, false, .mv (.t 1), .none⟩,
     ⟨(some 9), none, false, .callF 39 [(.t 7), (.t 8)], .none⟩])
   (.ret))
   (.seq (.region false [⟨(some 11), none, false, .mv (.t 1), .none⟩,
     ⟨(some 12), none, false, .bin .eql (.t 11) (.c (.int .u8 91)), .none⟩,
     ⟨(some 13), none, false, .mv (.t 12), .none⟩,
     ⟨(some 14), (some (13, true)), false, .mv (.t 0), .none⟩,
     ⟨(some 15), (some (13, true)), false, .nilCheck (.t 14), .none⟩,
     ⟨(some 16), (some (13, true)), false, .fieldAddr 4 (.t 15), .none⟩,
     ⟨(some 17), (some (13, true)), false, .fieldAddr 4 (.t 16), .none⟩,
     ⟨(some 18), (some (13, true)), false, .load false 1 (.t 17) .copy, .none⟩,
     ⟨(some 19), (some (13, true)), false, .bin .eql (.t 18) (.c (.str [])), .none⟩,
     ⟨(some 20), none, false, .pick (.t 13) (.t 19) (.c (.bool false)), .none⟩,
     ⟨(some 10), none, false, .mv (.t 20), .none⟩])
   (.cond (.t 10)
    (.seq (.region false [⟨(some 21), none, false, .mv (.t 0), .none⟩,
      ⟨(some 22), none, false, .callF 27 [(.t 21), (.c (.int .i64 2))], .none⟩])
    (.ret))
    (.seq (.region false [⟨(some 24), none, false, .mv (.t 0), .none⟩,
      ⟨(some 25), none, false, .nilCheck (.t 24), .none⟩,
      ⟨(some 26), none, false, .fieldAddr 4 (.t 25), .none⟩,
      ⟨(some 27), none, false, .fieldAddr 4 (.t 26), .none⟩,
      ⟨(some 28), none, false, .load false 1 (.t 27) .copy, .none⟩,
      ⟨(some 29), none, false, .bin .eql (.t 28) (.c (.str [])), .none⟩,
      ⟨(some 30), none, false, .mv (.t 29), .none⟩,
      ⟨(some 31), (some (30, true)), false, .buildSlice 1 [(.int .u8 0)] 5 [(0, (.c (.int .u8 93))), (1, (.c (.int .u8 80))), (2, (.c (.int .u8 88))), (3, (.c (.int .u8 94))), (4, (.c (.int .u8 95)))], .none⟩,
      ⟨(some 32), (some (30, true)), false, .convB (.u 31 .take), .none⟩,
      ⟨(some 33), (some (30, true)), false, .mv (.t 1), .none⟩,
      ⟨(some 34), (some (30, true)), false, .callF 40 [(.u 32 .share), (.t 33)], .none⟩,
      ⟨(some 35), none, false, .pick (.t 30) (.t 34) (.c (.bool false)), .none⟩,
      ⟨(some 23), none, false, .mv (.t 35), .none⟩])
    (.cond (.t 23)
     (.seq (.region false [⟨(some 36), none, false, .mv (.t 0), .none⟩,
       ⟨(some 37), none, false, .callF 27 [(.t 36), (.c (.int .i64 3))], .none⟩])
     (.seq (.region false [⟨(some 38), none, false, .mv (.t 0), .none⟩,
       ⟨(some 39), none, false, .mv (.t 1), .none⟩,
       ⟨(some 40), none, false, .nilCheck (.t 38), .none⟩,
       ⟨(some 41), none, false, .fieldAddr 4 (.t 40), .none⟩,
       ⟨(some 42), none, false, .fieldAddr 2 (.t 41), .none⟩,
       ⟨none, none, false, .store 1 (.t 42) (.t 39), .none⟩])
     (.ret)))
     (.seq (.region false [⟨(some 44), none, false, .mv (.t 1), .none⟩,
       ⟨(some 45), none, false, .bin .lss (.t 44) (.c (.int .u8 127)), .none⟩,
       ⟨(some 46), none, false, .mv (.t 45), .none⟩,
       ⟨(some 47), (some (46, true)), false, .mv (.t 0), .none⟩,
       ⟨(some 48), (some (46, true)), false, .nilCheck (.t 47), .none⟩,
       ⟨(some 49), (some (46, true)), false, .fieldAddr 2 (.t 48), .none⟩,
       ⟨(some 50), (some (46, true)), false, .load false 1 (.t 49) .copy, .none⟩,
       ⟨(some 51), (some (46, true)), false, .un .not (.t 50), .none⟩,
       ⟨(some 52), none, false, .pick (.t 46) (.t 51) (.c (.bool false)), .none⟩,
       ⟨(some 43), none, false, .mv (.t 52), .none⟩])
     (.cond (.t 43)
      (.region false [⟨(some 53), none, false, .mv (.t 0), .none⟩,
        ⟨(some 54), none, false, .mv (.t 0), .none⟩,
        ⟨(some 55), none, false, .nilCheck (.t 54), .none⟩,
        ⟨(some 56), none, false, .fieldAddr 4 (.t 55), .none⟩,
        ⟨(some 57), none, false, .fieldAddr 4 (.t 56), .none⟩,
        ⟨(some 58), none, false, .load false 1 (.t 57) .copy, .none⟩,
        ⟨(some 59), none, false, .mv (.t 1), .none⟩,
        ⟨(some 60), none, false, .build [(.int .i64 0), (.int .i32 0), (.int .u8 0), (.int .u8 0), (.str []), .nils, (.str [])] [(0, 1, (.c (.int .i64 3))), (4, 1, (.t 58)), (2, 1, (.t 59))], .none⟩,
        ⟨(some 61), none, false, .callF 28 [(.t 53), (.u 60 .share)], .none⟩])
      (.skip))))))))))
  (.region false [⟨(some 62), none, false, .mv (.t 0), .none⟩,
    ⟨(some 63), none, false, .nilCheck (.t 62), .none⟩,
    ⟨(some 64), none, false, .fieldAddr 1 (.t 63), .none⟩,
    ⟨none, none, false, .store 1 (.t 64) (.c (.int .i64 0)), .none⟩])⟩
theorem c32 : cFunc Go.Proofs.Tryd.prog p32 32 = some a32 := by decide +kernel
def p33 : Plan := ⟨[], 0, [],
  []⟩
def a33 : AFunc := ⟨2, 62, 0, [],
  .seq (.region false [⟨(some 5), none, false, .mv (.t 0), .none⟩,
    ⟨(some 6), none, false, .nilCheck (.t 5), .none⟩,
    ⟨(some 7), none, false, .fieldAddr 3 (.t 6), .none⟩,
    ⟨(some 8), none, false, .load false 1 (.t 7) .copy, .none⟩,
    ⟨(some 4), none, false, .mv (.t 8), .none⟩])
  (.seq (.region false [⟨(some 9), none, false, .mv (.t 0), .none⟩,
    ⟨(some 10), none, false, .nilCheck (.t 9), .none⟩,
    ⟨(some 11), none, false, .fieldAddr 3 (.t 10), .none⟩,
    ⟨none, none, false, .store 1 (.t 11) (.c (.bool false)), .none⟩])
  (.block 0 (.seq (.region false [⟨(some 16), none, false, .mv (.t 1), .none⟩,
    ⟨(some 17), none, false, .bin .geq (.t 16) (.c (.int .u8 128)), .none⟩,
    ⟨(some 15), none, false, .mv (.t 17), .none⟩])
  (.cond (.t 15)
   (.region false [⟨(some 18), none, false, .mv (.t 0), .none⟩,
     ⟨(some 19), none, false, .nilCheck (.t 18), .none⟩,
     ⟨(some 20), none, false, .fieldAddr 1 (.t 19), .none⟩,
     ⟨none, none, false, .store 1 (.t 20) (.c (.int .i64 0)), .none⟩])
   (.seq (.region false [⟨(some 22), none, false, .mv (.t 1), .none⟩,
     ⟨(some 23), none, false, .bin .lss (.t 22) (.c (.int .u8 48)), .none⟩,
     ⟨(some 21), none, false, .mv (.t 23), .none⟩])
   (.cond (.t 21)
    (.region false [⟨(some 24), none, false, .mv (.t 0), .none⟩,
      ⟨(some 25), none, false, .mv (.t 1), .none⟩,
      ⟨(some 26), none, false, .callF 39 [(.t 24), (.t 25)], .none⟩])
    (.seq (.region false [⟨(some 28), none, false, .mv (.t 1), .none⟩,
      ⟨(some 29), none, false, .bin .geq (.t 28) (.c (.int .u8 64)), .none⟩,
      ⟨(some 27), none, false, .mv (.t 29), .none⟩])
    (.cond (.t 27)
     (.region false [⟨(some 30), none, false, .mv (.t 0), .none⟩,
       ⟨(some 31), none, false, .mv (.t 1), .none⟩,
       ⟨(some 32), none, false, .callF 41 [(.t 30), (.t 31)], .none⟩])
     (.seq (.region false [⟨(some 34), none, false, .mv (.t 1), .none⟩,
       ⟨(some 35), none, false, .bin .geq (.t 34) (.c (.int .u8 60)), .none⟩,
       ⟨(some 36), none, false, .mv (.t 35), .none⟩,
       ⟨(some 37), (some (36, true)), false, .mv (.t 4), .none⟩,
       ⟨(some 38), none, false, .pick (.t 36) (.t 37) (.c (.bool false)), .none⟩,
       ⟨(some 33), none, false, .mv (.t 38), .none⟩])
     (.cond (.t 33)
      (.region false [⟨(some 39), none, false, .mv (.t 0), .none⟩,
        ⟨(some 40), none, false, .mv (.t 1), .none⟩,
        ⟨(some 41), none, false, .nilCheck (.t 39), .none⟩,
        ⟨(some 42), none, false, .fieldAddr 4 (.t 41), .none⟩,
        ⟨(some 43), none, false, .fieldAddr 3 (.t 42), .none⟩,
        ⟨none, none, false, .store 1 (.t 43) (.t 40), .none⟩])
      (.seq (.region false [⟨(some 45), none, false, .mv (.t 1), .none⟩,
        ⟨(some 46), none, false, .bin .eql (.t 45) (.c (.int .u8 58)), .none⟩,
        ⟨(some 47), none, false, .mv (.t 46), .none⟩,
        ⟨(some 48), (some (47, false)), false, .mv (.t 1), .none⟩,
        ⟨(some 49), (some (47, false)), false, .bin .geq (.t 48) (.c (.int .u8 60)), .none⟩,
        ⟨(some 50), none, false, .pick (.t 47) (.c (.bool true)) (.t 49), .none⟩,
        ⟨(some 51), none, false, .mv (.t 50), .none⟩,
        ⟨(some 52), (some (51, false)), false, .mv (.t 0), .none⟩,
        ⟨(some 53), (some (51, false)), false, .nilCheck (.t 52), .none⟩,
        ⟨(some 54), (some (51, false)), false, .fieldAddr 4 (.t 53), .none⟩,
        ⟨(some 55), (some (51, false)), false, .fieldAddr 4 (.t 54), .none⟩,
        ⟨(some 56), (some (51, false)), false, .load false 1 (.t 55) .copy, .none⟩,
        ⟨(some 57), (some (51, false)), false, .bin .neq (.t 56) (.c (.str [])), .none⟩,
        ⟨(some 58), none, false, .pick (.t 51) (.c (.bool true)) (.t 57), .none⟩,
        ⟨(some 44), none, false, .mv (.t 58), .none⟩])
      (.cond (.t 44)
       (.region false [⟨(some 59), none, false, .mv (.t 0), .none⟩,
         ⟨(some 60), none, false, .nilCheck (.t 59), .none⟩,
         ⟨(some 61), none, false, .fieldAddr 2 (.t 60), .none⟩,
         ⟨none, none, false, .store 1 (.t 61) (.c (.bool true)), .none⟩])
       (.region false [⟨(some 12), none, false, .mv (.t 0), .none⟩,
         ⟨(some 13), none, false, .mv (.t 1), .none⟩,
         ⟨(some 14), none, false, .callF 42 [(.t 12), (.t 13)], .none⟩])))))))))))))⟩
theorem c33 : cFunc Go.Proofs.Tryd.prog p33 33 = some a33 := by decide +kernel
def p34 : Plan := ⟨[], 0, [((6, 6), { mode := .peek }),
    ((7, 4), { mode := .take }),
    ((7, 7), { uses := [(40, .take), (42, .take)] }),
    ((7, 10), { uses := [(43, .take)] })],
  []⟩
def a34 : AFunc := ⟨2, 46, 0, [],
  .block 0 (.seq (.region false [⟨(some 5), none, false, .mv (.t 1), .none⟩,
    ⟨(some 6), none, false, .bin .eql (.t 5) (.c (.int .u8 7)), .none⟩,
    ⟨(some 4), none, false, .mv (.t 6), .none⟩])
  (.cond (.t 4)
   (.region false [⟨(some 7), none, false, .mv (.t 0), .none⟩,
     ⟨(some 8), none, false, .callF 43 [(.t 7)], .none⟩])
   (.seq (.region false [⟨(some 10), none, false, .mv (.t 1), .none⟩,
     ⟨(some 11), none, false, .bin .eql (.t 10) (.c (.int .u8 27)), .none⟩,
     ⟨(some 9), none, false, .mv (.t 11), .none⟩])
   (.cond (.t 9)
    (.region false [⟨(some 12), none, false, .mv (.t 0), .none⟩,
      ⟨(some 13), none, false, .nilCheck (.t 12), .none⟩,
      ⟨(some 14), none, false, .fieldAddr 1 (.t 13), .none⟩,
      ⟨none, none, false, .store 1 (.t 14) (.c (.int .i64 4)), .none⟩])
    (.seq (.region false [⟨(some 16), none, false, .mv (.t 1), .none⟩,
      ⟨(some 17), none, false, .bin .eql (.t 16) (.c (.int .u8 24)), .none⟩,
      ⟨(some 18), none, false, .mv (.t 17), .none⟩,
      ⟨(some 19), (some (18, false)), false, .mv (.t 1), .none⟩,
      ⟨(some 20), (some (18, false)), false, .bin .eql (.t 19) (.c (.int .u8 26)), .none⟩,
      ⟨(some 21), none, false, .pick (.t 18) (.c (.bool true)) (.t 20), .none⟩,
      ⟨(some 15), none, false, .mv (.t 21), .none⟩])
    (.cond (.t 15)
     (.region false [⟨(some 22), none, false, .mv (.t 0), .none⟩,
       ⟨(some 23), none, false, .nilCheck (.t 22), .none⟩,
       ⟨(some 24), none, false, .fieldAddr 1 (.t 23), .none⟩,
       ⟨none, none, false, .store 1 (.t 24) (.c (.int .i64 0)), .none⟩])
     (.seq (.region false [⟨(some 26), none, false, .mv (.t 1), .none⟩,
       ⟨(some 27), none, false, .bin .geq (.t 26) (.c (.int .u8 32)), .none⟩,
       ⟨(some 28), none, false, .mv (.t 27), .none⟩,
       ⟨(some 29), (some (28, true)), false, .mv (.t 0), .none⟩,
       ⟨(some 30), (some (28, true)), false, .nilCheck (.t 29), .none⟩,
       ⟨(some 31), (some (28, true)), false, .fieldAddr 12 (.t 30), .none⟩,
       ⟨(some 32), (some (28, true)), false, .load false 1 (.t 31) .peek, .none⟩,
       ⟨(some 33), (some (28, true)), false, .lenSl (.t 32), .none⟩,
       ⟨(some 34), (some (28, true)), false, .bin .lss (.t 33) (.c (.int .i64 256)), .none⟩,
       ⟨(some 35), none, false, .pick (.t 28) (.t 34) (.c (.bool false)), .none⟩,
       ⟨(some 25), none, false, .mv (.t 35), .none⟩])
     (.cond (.t 25)
      (.region false [⟨(some 36), none, false, .mv (.t 0), .none⟩,
        ⟨(some 37), none, false, .mv (.t 0), .none⟩,
        ⟨(some 38), none, false, .nilCheck (.t 37), .none⟩,
        ⟨(some 39), none, false, .fieldAddr 12 (.t 38), .none⟩,
        ⟨(some 40), none, false, .load false 1 (.t 39) .take, .none⟩,
        ⟨(some 41), none, false, .mv (.t 1), .none⟩,
        ⟨(some 42), none, false, .buildSlice 1 [(.int .u8 0)] 1 [(0, (.t 41))], .none⟩,
        ⟨(some 43), none, false, .append 1 (.u 40 .take) (.u 42 .take), .none⟩,
        ⟨(some 44), none, false, .nilCheck (.t 36), .none⟩,
        ⟨(some 45), none, false, .fieldAddr 12 (.t 44), .none⟩,
        ⟨none, none, false, .store 1 (.t 45) (.u 43 .take), .none⟩])
      (.skip)))))))))⟩
theorem c34 : cFunc Go.Proofs.Tryd.prog p34 34 = some a34 := by decide +kernel
def p35 : Plan := ⟨[], 0, [],
  []⟩
def a35 : AFunc := ⟨2, 13, 0, [],
  .seq (.seq (.region false [⟨(some 4), none, false, .mv (.t 1), .none⟩,
    ⟨(some 5), none, false, .bin .eql (.t 4) (.c (.int .u8 92)), .none⟩])
  (.cond (.t 5)
   (.seq (.region false [⟨(some 6), none, false, .mv (.t 0), .none⟩,
     ⟨(some 7), none, false, .callF 43 [(.t 6)], .none⟩])
   (.ret))
   (.skip)))
  (.seq (.region false [⟨(some 8), none, false, .mv (.t 0), .none⟩,
    ⟨(some 9), none, false, .callF 27 [(.t 8), (.c (.int .i64 1))], .none⟩])
  (.region false [⟨(some 10), none, false, .mv (.t 0), .none⟩,
    ⟨(some 11), none, false, .mv (.t 1), .none⟩,
    ⟨(some 12), none, false, .callF 18 [(.t 10), (.t 11)], .none⟩]))⟩
theorem c35 : cFunc Go.Proofs.Tryd.prog p35 35 = some a35 := by decide +kernel
def p36 : Plan := ⟨[], 0, [((0, 6), { uses := [(9, .share)] }),
    ((0, 7), { uses := [(10, .share)] })],
  []⟩
def a36 : AFunc := ⟨2, 12, 0, [],
  .region false [⟨(some 4), none, false, .mv (.t 0), .none⟩,
    ⟨(some 5), none, false, .mv (.t 0), .none⟩,
    ⟨(some 6), none, false, .nilCheck (.t 5), .none⟩,
    ⟨(some 7), none, false, .fieldAddr 0 (.t 6), .none⟩,
    ⟨(some 8), none, false, .mv (.t 1), .none⟩,
    ⟨(some 9), none, false, .buildSlice 1 [(.int .u8 0)] 1 [(0, (.t 8))], .none⟩,
    ⟨(some 10), none, false, .callF 44 [(.t 7), (.u 9 .share)], .none⟩,
    ⟨(some 11), none, false, .callF 24 [(.t 4), (.u 10 .share)], .none⟩]⟩
theorem c36 : cFunc Go.Proofs.Tryd.prog p36 36 = some a36 := by decide +kernel
def p39 : Plan := ⟨[], 0, [],
  []⟩
def a39 : AFunc := ⟨2, 26, 0, [],
  .seq (.seq (.region false [⟨(some 4), none, false, .mv (.t 0), .none⟩,
    ⟨(some 5), none, false, .nilCheck (.t 4), .none⟩,
    ⟨(some 6), none, false, .fieldAddr 4 (.t 5), .none⟩,
    ⟨(some 7), none, false, .fieldAddr 4 (.t 6), .none⟩,
    ⟨(some 8), none, false, .load false 1 (.t 7) .copy, .none⟩,
    ⟨(some 9), none, false, .lenStr (.t 8), .none⟩,
    ⟨(some 10), none, false, .bin .eql (.t 9) (.c (.int .i64 2)), .none⟩])
  (.cond (.t 10)
   (.seq (.region false [⟨(some 11), none, false, .mv (.t 0), .none⟩,
     ⟨(some 12), none, false, .nilCheck (.t 11), .none⟩,
     ⟨(some 13), none, false, .fieldAddr 2 (.t 12), .none⟩,
     ⟨none, none, false, .store 1 (.t 13) (.c (.bool true)), .none⟩])
   (.ret))
   (.skip)))
  (.region false [⟨(some 14), none, false, .mv (.t 0), .none⟩,
    ⟨(some 15), none, false, .nilCheck (.t 14), .none⟩,
    ⟨(some 16), none, false, .fieldAddr 4 (.t 15), .none⟩,
    ⟨(some 17), none, false, .fieldAddr 4 (.t 16), .none⟩,
    ⟨(some 18), none, false, .load false 1 (.t 17) .copy, .none⟩,
    ⟨(some 19), none, false, .mv (.t 1), .none⟩,
    ⟨(some 20), none, false, .conv .i32 (.t 19), .none⟩,
    ⟨(some 21), none, false, .intStr (.t 20), .none⟩,
    ⟨(some 22), none, false, .bin .add (.t 18) (.t 21), .none⟩,
    ⟨(some 23), none, false, .nilCheck (.t 14), .none⟩,
    ⟨(some 24), none, false, .fieldAddr 4 (.t 23), .none⟩,
    ⟨(some 25), none, false, .fieldAddr 4 (.t 24), .none⟩,
    ⟨none, none, false, .store 1 (.t 25) (.t 22), .none⟩])⟩
theorem c39 : cFunc Go.Proofs.Tryd.prog p39 39 = some a39 := by decide +kernel
def p40 : Plan := ⟨[], 0, [((1, 2), { uses := [(5, .share)] })],
  []⟩
def a40 : AFunc := ⟨2, 9, 0, [.tmp 4],
  .seq (.region false [⟨(some 4), none, false, .mv (.c (.bool false)), .none⟩])
  (.seq (.region false [⟨(some 5), none, false, .mv (.t 0), .none⟩,
    ⟨(some 6), none, false, .mv (.t 1), .none⟩,
    ⟨(some 7), none, false, .callF 51 [(.u 5 .share), (.t 6)], .none⟩,
    ⟨(some 8), none, false, .bin .geq (.t 7) (.c (.int .i64 0)), .none⟩,
    ⟨(some 4), none, false, .mv (.t 8), .none⟩])
  (.ret))⟩
theorem c40 : cFunc Go.Proofs.Tryd.prog p40 40 = some a40 := by decide +kernel
def p41 : Plan := ⟨[], 0, [((3, 4), { mode := .take }),
    ((3, 5), { uses := [(25, .share)] })],
  []⟩
def a41 : AFunc := ⟨2, 27, 0, [],
  .seq (.region false [⟨(some 4), none, false, .mv (.t 0), .none⟩,
    ⟨(some 5), none, false, .nilCheck (.t 4), .none⟩,
    ⟨(some 6), none, false, .fieldAddr 1 (.t 5), .none⟩,
    ⟨none, none, false, .store 1 (.t 6) (.c (.int .i64 0)), .none⟩])
  (.seq (.region false [⟨(some 7), none, false, .mv (.t 0), .none⟩,
    ⟨(some 8), none, false, .nilCheck (.t 7), .none⟩,
    ⟨(some 9), none, false, .fieldAddr 2 (.t 8), .none⟩,
    ⟨(some 10), none, false, .load false 1 (.t 9) .copy, .none⟩,
    ⟨(some 11), none, false, .un .not (.t 10), .none⟩])
  (.cond (.t 11)
   (.seq (.region false [⟨(some 12), none, false, .mv (.t 0), .none⟩,
     ⟨(some 13), none, false, .mv (.t 0), .none⟩,
     ⟨(some 14), none, false, .mv (.t 1), .none⟩,
     ⟨(some 15), none, false, .nilCheck (.t 12), .none⟩,
     ⟨(some 16), none, false, .fieldAddr 4 (.t 15), .none⟩,
     ⟨(some 17), none, false, .fieldAddr 0 (.t 16), .none⟩,
     ⟨none, none, false, .store 1 (.t 17) (.c (.int .i64 4)), .none⟩,
     ⟨(some 18), none, false, .nilCheck (.t 13), .none⟩,
     ⟨(some 19), none, false, .fieldAddr 4 (.t 18), .none⟩,
     ⟨(some 20), none, false, .fieldAddr 2 (.t 19), .none⟩,
     ⟨none, none, false, .store 1 (.t 20) (.t 14), .none⟩])
   (.region false [⟨(some 21), none, false, .mv (.t 0), .none⟩,
     ⟨(some 22), none, false, .mv (.t 0), .none⟩,
     ⟨(some 23), none, false, .nilCheck (.t 22), .none⟩,
     ⟨(some 24), none, false, .fieldAddr 4 (.t 23), .none⟩,
     ⟨(some 25), none, false, .load true 7 (.t 24) .take, .none⟩,
     ⟨(some 26), none, false, .callF 28 [(.t 21), (.u 25 .share)], .none⟩]))
   (.skip)))⟩
theorem c41 : cFunc Go.Proofs.Tryd.prog p41 41 = some a41 := by decide +kernel
def p42 : Plan := ⟨[], 0, [((2, 5), { uses := [(14, .take)] }),
    ((6, 5), { mode := .take }),
    ((6, 7), { uses := [(37, .take), (38, .take)] }),
    ((6, 11), { uses := [(39, .take)] }),
    ((8, 4), { mode := .peek }),
    ((8, 11), { mark := .mem })],
  []⟩
def a42 : AFunc := ⟨2, 71, 0, [],
  .seq (.seq (.region false [⟨(some 5), none, false, .mv (.t 0), .none⟩,
    ⟨(some 6), none, false, .nilCheck (.t 5), .none⟩,
    ⟨(some 7), none, false, .fieldAddr 11 (.t 6), .none⟩,
    ⟨(some 8), none, false, .load false 1 (.t 7) .copy, .none⟩,
    ⟨(some 9), none, false, .bin .eql (.t 8) (.c (.int .i64 0)), .none⟩])
  (.cond (.t 9)
   (.seq (.region false [⟨(some 10), none, false, .mv (.t 0), .none⟩,
     ⟨(some 11), none, false, .nilCheck (.t 10), .none⟩,
     ⟨(some 12), none, false, .fieldAddr 11 (.t 11), .none⟩,
     ⟨none, none, false, .store 1 (.t 12) (.c (.int .i64 1)), .none⟩])
   (.region false [⟨(some 13), none, false, .mv (.t 0), .none⟩,
     ⟨(some 14), none, false, .buildSlice 1 [(.int .i64 0)] 1 [(0, (.c (.int .i64 (-1))))], .none⟩,
     ⟨(some 15), none, false, .nilCheck (.t 13), .none⟩,
     ⟨(some 16), none, false, .fieldAddr 4 (.t 15), .none⟩,
     ⟨(some 17), none, false, .fieldAddr 5 (.t 16), .none⟩,
     ⟨none, none, false, .store 1 (.t 17) (.u 14 .take), .none⟩]))
   (.skip)))
  (.seq (.seq (.region false [⟨(some 18), none, false, .mv (.t 1), .none⟩,
    ⟨(some 19), none, false, .bin .eql (.t 18) (.c (.int .u8 59)), .none⟩])
  (.cond (.t 19)
   (.seq (.region false [⟨(some 20), none, false, .mv (.t 0), .none⟩,
     ⟨(some 21), none, false, .nilCheck (.t 20), .none⟩,
     ⟨(some 22), none, false, .fieldAddr 11 (.t 21), .none⟩,
     ⟨(some 23), none, false, .load false 1 (.t 22) .copy, .none⟩,
     ⟨(some 24), none, false, .bin .add (.t 23) (.c (.int .i64 1)), .none⟩,
     ⟨(some 25), none, false, .nilCheck (.t 20), .none⟩,
     ⟨(some 26), none, false, .fieldAddr 11 (.t 25), .none⟩,
     ⟨none, none, false, .store 1 (.t 26) (.t 24), .none⟩])
   (.seq (.seq (.region false [⟨(some 27), none, false, .mv (.t 0), .none⟩,
     ⟨(some 28), none, false, .nilCheck (.t 27), .none⟩,
     ⟨(some 29), none, false, .fieldAddr 11 (.t 28), .none⟩,
     ⟨(some 30), none, false, .load false 1 (.t 29) .copy, .none⟩,
     ⟨(some 31), none, false, .bin .leq (.t 30) (.c (.int .i64 16)), .none⟩])
   (.cond (.t 31)
    (.region false [⟨(some 32), none, false, .mv (.t 0), .none⟩,
      ⟨(some 33), none, false, .mv (.t 0), .none⟩,
      ⟨(some 34), none, false, .nilCheck (.t 33), .none⟩,
      ⟨(some 35), none, false, .fieldAddr 4 (.t 34), .none⟩,
      ⟨(some 36), none, false, .fieldAddr 5 (.t 35), .none⟩,
      ⟨(some 37), none, false, .load false 1 (.t 36) .take, .none⟩,
      ⟨(some 38), none, false, .buildSlice 1 [(.int .i64 0)] 1 [(0, (.c (.int .i64 (-1))))], .none⟩,
      ⟨(some 39), none, false, .append 1 (.u 37 .take) (.u 38 .take), .none⟩,
      ⟨(some 40), none, false, .nilCheck (.t 32), .none⟩,
      ⟨(some 41), none, false, .fieldAddr 4 (.t 40), .none⟩,
      ⟨(some 42), none, false, .fieldAddr 5 (.t 41), .none⟩,
      ⟨none, none, false, .store 1 (.t 42) (.u 39 .take), .none⟩])
    (.skip)))
   (.ret)))
   (.skip)))
  (.seq (.region false [⟨(some 43), none, false, .mv (.t 0), .none⟩,
    ⟨(some 44), none, false, .nilCheck (.t 43), .none⟩,
    ⟨(some 45), none, false, .fieldAddr 11 (.t 44), .none⟩,
    ⟨(some 46), none, false, .load false 1 (.t 45) .copy, .none⟩,
    ⟨(some 47), none, false, .bin .leq (.t 46) (.c (.int .i64 16)), .none⟩])
  (.cond (.t 47)
   (.seq (.region true [⟨(some 48), none, false, .mv (.t 0), .none⟩,
     ⟨(some 49), none, false, .nilCheck (.t 48), .none⟩,
     ⟨(some 50), none, false, .fieldAddr 4 (.t 49), .none⟩,
     ⟨(some 51), none, false, .fieldAddr 5 (.t 50), .none⟩,
     ⟨(some 52), none, false, .load false 1 (.t 51) .peek, .none⟩,
     ⟨(some 53), none, false, .mv (.t 0), .none⟩,
     ⟨(some 54), none, false, .nilCheck (.t 53), .none⟩,
     ⟨(some 55), none, false, .fieldAddr 11 (.t 54), .none⟩,
     ⟨(some 56), none, false, .load false 1 (.t 55) .copy, .none⟩,
     ⟨(some 57), none, false, .bin .sub (.t 56) (.c (.int .i64 1)), .none⟩,
     ⟨(some 58), none, false, .indexSl 1 (.t 52) (.t 57), .none⟩,
     ⟨(some 4), none, false, .mv (.t 58), .mem⟩])
   (.region false [⟨(some 59), none, false, .mv (.t 4), .none⟩,
     ⟨(some 60), none, false, .mv (.t 4), .none⟩,
     ⟨(some 61), none, false, .nilCheck (.t 60), .none⟩,
     ⟨(some 62), none, false, .load false 1 (.t 61) .copy, .none⟩,
     ⟨(some 63), none, false, .minMax true (.t 62) [(.c (.int .i64 0))], .none⟩,
     ⟨(some 64), none, false, .bin .mul (.t 63) (.c (.int .i64 10)), .none⟩,
     ⟨(some 65), none, false, .mv (.t 1), .none⟩,
     ⟨(some 66), none, false, .bin .sub (.t 65) (.c (.int .u8 48)), .none⟩,
     ⟨(some 67), none, false, .conv .i64 (.t 66), .none⟩,
     ⟨(some 68), none, false, .bin .add (.t 64) (.t 67), .none⟩,
     ⟨(some 69), none, false, .minMax false (.t 68) [(.c (.int .i64 9999))], .none⟩,
     ⟨(some 70), none, false, .nilCheck (.t 59), .none⟩,
     ⟨none, none, false, .store 1 (.t 70) (.t 69), .none⟩]))
   (.skip))))⟩
theorem c42 : cFunc Go.Proofs.Tryd.prog p42 42 = some a42 := by decide +kernel
def p43 : Plan := ⟨[], 0, [((1, 9), { mode := .peek }),
    ((1, 12), { uses := [(16, .share)] })],
  []⟩
def a43 : AFunc := ⟨1, 18, 0, [],
  .seq (.region false [⟨(some 2), none, false, .mv (.t 0), .none⟩,
    ⟨(some 3), none, false, .nilCheck (.t 2), .none⟩,
    ⟨(some 4), none, false, .fieldAddr 1 (.t 3), .none⟩,
    ⟨none, none, false, .store 1 (.t 4) (.c (.int .i64 0)), .none⟩])
  (.region true [⟨(some 5), none, false, .mv (.t 0), .none⟩,
    ⟨(some 6), none, false, .mv (.t 0), .none⟩,
    ⟨(some 7), none, false, .nilCheck (.t 6), .none⟩,
    ⟨(some 8), none, false, .fieldAddr 4 (.t 7), .none⟩,
    ⟨(some 9), none, false, .fieldAddr 2 (.t 8), .none⟩,
    ⟨(some 10), none, false, .load false 1 (.t 9) .copy, .none⟩,
    ⟨(some 11), none, false, .mv (.t 0), .none⟩,
    ⟨(some 12), none, false, .nilCheck (.t 11), .none⟩,
    ⟨(some 13), none, false, .fieldAddr 12 (.t 12), .none⟩,
    ⟨(some 14), none, false, .load false 1 (.t 13) .peek, .none⟩,
    ⟨(some 15), none, false, .bytesStr (.t 14), .none⟩,
    ⟨(some 16), none, false, .build [(.int .i64 0), (.int .i32 0), (.int .u8 0), (.int .u8 0), (.str []), .nils, (.str [])] [(0, 1, (.c (.int .i64 5))), (2, 1, (.t 10)), (6, 1, (.t 15))], .none⟩,
    ⟨(some 17), none, false, .callF 28 [(.t 5), (.u 16 .share)], .none⟩])⟩
theorem c43 : cFunc Go.Proofs.Tryd.prog p43 43 = some a43 := by decide +kernel
def p44 : Plan := ⟨[], 0, [((2, 4), { uses := [(12, .share)] }),
    ((2, 6), { uses := [(13, .take), (14, .take)] }),
    ((2, 7), { uses := [(15, .share)] }),
    ((3, 1), { uses := [(16, .share)] }),
    ((4, 1), { uses := [(19, .share)] }),
    ((5, 0), { uses := [(5, .take)] }),
    ((5, 3), { uses := [(23, .take), (25, .take)] }),
    ((5, 4), { uses := [(26, .take)] }),
    ((6, 3), { uses := [(29, .share)] }),
    ((7, 2), { uses := [(31, .share)] }),
    ((7, 5), { uses := [(32, .share)] }),
    ((8, 0), { uses := [(5, .take)] }),
    ((8, 1), { uses := [(35, .take)] })],
  [[0, 5, 6]]⟩
def a44 : AFunc := ⟨2, 36, 0, [.tmp 4],
  .seq (.region false [⟨(some 4), none, false, .mv (.c .nils), .none⟩])
  (.seq (.region false [⟨(some 5), none, false, .mv (.c .nils), .none⟩])
  (.seq (.region false [⟨(some 9), none, false, .mv (.t 0), .none⟩,
    ⟨(some 10), none, false, .nilCheck (.t 9), .none⟩,
    ⟨(some 11), none, false, .fieldAddr 0 (.t 10), .none⟩,
    ⟨(some 12), none, false, .load false 1 (.t 11) .copy, .none⟩,
    ⟨(some 13), none, false, .callF 52 [(.u 12 .share)], .none⟩,
    ⟨(some 14), none, false, .mv (.t 1), .none⟩,
    ⟨(some 15), none, false, .append 1 (.u 13 .take) (.u 14 .take), .none⟩,
    ⟨(some 6), none, false, .mv (.u 15 .share), .none⟩])
  (.seq (.block 0 (.loop [0, 5, 6] (.seq (.seq (.region false [⟨(some 16), none, false, .mv (.t 6), .none⟩,
     ⟨(some 17), none, false, .callF 53 [(.u 16 .share)], .none⟩])
   (.cond (.t 17)
    (.skip)
    (.exit 0)))
   (.block 1 (.seq (.region false [⟨(some 19), none, false, .mv (.t 6), .none⟩,
     ⟨(some 20), none, false, .callF 54 [(.u 19 .share)], .none⟩,
     ⟨(some 18), none, false, .mv (.t 20), .none⟩,
     ⟨(some 21), none, false, .extract (.t 18) 0, .none⟩,
     ⟨(some 22), none, false, .extract (.t 18) 1, .none⟩,
     ⟨(some 7), none, false, .mv (.t 21), .none⟩,
     ⟨(some 8), none, false, .mv (.t 22), .none⟩])
   (.seq (.region false [⟨(some 23), none, false, .mv (.u 5 .take), .none⟩,
     ⟨(some 24), none, false, .mv (.t 7), .none⟩,
     ⟨(some 25), none, false, .buildSlice 1 [(.int .i32 0)] 1 [(0, (.t 24))], .none⟩,
     ⟨(some 26), none, false, .append 1 (.u 23 .take) (.u 25 .take), .none⟩,
     ⟨(some 5), none, false, .mv (.u 26 .take), .none⟩])
   (.region false [⟨(some 27), none, false, .mv (.t 6), .none⟩,
     ⟨(some 28), none, false, .mv (.t 8), .none⟩,
     ⟨(some 29), none, false, .sliceV 1 (.t 27) (some (.t 28)) none, .none⟩,
     ⟨(some 6), none, false, .mv (.u 29 .share), .none⟩])))))))
  (.seq (.region false [⟨(some 30), none, false, .mv (.t 0), .none⟩,
    ⟨(some 31), none, false, .mv (.t 6), .none⟩,
    ⟨(some 32), none, false, .callF 52 [(.u 31 .share)], .none⟩,
    ⟨(some 33), none, false, .nilCheck (.t 30), .none⟩,
    ⟨(some 34), none, false, .fieldAddr 0 (.t 33), .none⟩,
    ⟨none, none, false, .store 1 (.t 34) (.u 32 .share), .none⟩])
  (.seq (.region false [⟨(some 35), none, false, .mv (.u 5 .take), .none⟩,
    ⟨(some 4), none, false, .mv (.u 35 .take), .none⟩])
  (.ret))))))⟩
theorem c44 : cFunc Go.Proofs.Tryd.prog p44 44 = some a44 := by decide +kernel
def p51 : Plan := ⟨[], 0, [],
  [[0, 1, 7, 8]]⟩
def a51 : AFunc := ⟨2, 19, 0, [.tmp 4],
  .seq (.region false [⟨(some 4), none, false, .mv (.c (.int .i64 0)), .none⟩])
  (.seq (.seq (.region false [⟨(some 6), none, false, .mv (.t 0), .none⟩,
    ⟨(some 7), none, false, .lenSl (.t 6), .none⟩,
    ⟨(some 8), none, false, .mv (.c (.int .i64 0)), .none⟩])
  (.block 0 (.loop [0, 1, 7, 8] (.seq (.region false [⟨(some 9), none, false, .bin .lss (.t 8) (.t 7), .none⟩])
   (.seq (.cond (.t 9)
    (.skip)
    (.exit 0))
   (.seq (.block 1 (.seq (.region false [⟨(some 10), none, false, .mv (.t 8), .none⟩,
     ⟨(some 5), none, false, .mv (.t 10), .none⟩])
   (.seq (.region false [⟨(some 11), none, false, .mv (.t 1), .none⟩,
     ⟨(some 12), none, false, .mv (.t 0), .none⟩,
     ⟨(some 13), none, false, .mv (.t 5), .none⟩,
     ⟨(some 14), none, false, .indexSl 1 (.t 12) (.t 13), .none⟩,
     ⟨(some 15), none, false, .load false 1 (.t 14) .copy, .none⟩,
     ⟨(some 16), none, false, .bin .eql (.t 11) (.t 15), .none⟩])
   (.cond (.t 16)
    (.seq (.region false [⟨(some 17), none, false, .mv (.t 5), .none⟩,
      ⟨(some 4), none, false, .mv (.t 17), .none⟩])
    (.ret))
    (.skip)))))
   (.region false [⟨(some 18), none, false, .bin .add (.t 8) (.c (.int .i64 1)), .none⟩,
     ⟨(some 8), none, false, .mv (.t 18), .none⟩])))))))
  (.seq (.region false [⟨(some 4), none, false, .mv (.c (.int .i64 (-1))), .none⟩])
  (.ret)))⟩
def v51 : List Nat := [0, 1, 4, 5, 7, 8, 9, 16]
theorem c51 : cFunc Go.Proofs.Tryd.prog p51 51 = some a51 := by decide +kernel
def p52 : Plan := ⟨[], 0, [((3, 2), { uses := [(5, .take), (6, .take)] }),
    ((3, 3), { uses := [(7, .take)] })],
  []⟩
def a52 : AFunc := ⟨1, 8, 0, [.tmp 2],
  .seq (.region false [⟨(some 2), none, false, .mv (.c .nils), .none⟩])
  (.seq (.seq (.region false [⟨(some 3), none, false, .mv (.t 0), .none⟩,
    ⟨(some 4), none, false, .eq false .slice (.t 3) (.c .nils), .none⟩])
  (.cond (.t 4)
   (.seq (.region false [⟨(some 2), none, false, .mv (.c .nils), .none⟩])
   (.ret))
   (.skip)))
  (.seq (.region false [⟨(some 5), none, false, .buildSlice 1 [(.int .u8 0)] 0 [], .none⟩,
    ⟨(some 6), none, false, .mv (.t 0), .none⟩,
    ⟨(some 7), none, false, .append 1 (.u 5 .take) (.u 6 .take), .none⟩,
    ⟨(some 2), none, false, .mv (.u 7 .take), .none⟩])
  (.ret)))⟩
theorem c52 : cFunc Go.Proofs.Tryd.prog p52 52 = some a52 := by decide +kernel
def p53 : Plan := ⟨[], 1, [((7, 4), { box := some 0 })],
  []⟩
def a53 : AFunc := ⟨1, 56, 1, [.tmp 2],
  .seq (.region false [⟨(some 2), none, false, .mv (.c (.bool false)), .none⟩])
  (.seq (.region false [⟨(some 6), none, false, .mv (.t 0), .none⟩,
    ⟨(some 7), none, false, .lenSl (.t 6), .none⟩,
    ⟨(some 3), none, false, .mv (.t 7), .none⟩])
  (.seq (.seq (.region false [⟨(some 8), none, false, .mv (.t 3), .none⟩,
    ⟨(some 9), none, false, .bin .eql (.t 8) (.c (.int .i64 0)), .none⟩])
  (.cond (.t 9)
   (.seq (.region false [⟨(some 2), none, false, .mv (.c (.bool false)), .none⟩])
   (.ret))
   (.skip)))
  (.seq (.region false [⟨(some 10), none, false, .mv (.t 0), .none⟩,
    ⟨(some 11), none, false, .indexSl 1 (.t 10) (.c (.int .i64 0)), .none⟩,
    ⟨(some 12), none, false, .load false 1 (.t 11) .copy, .none⟩,
    ⟨(some 13), none, false, .indexSl 1 (.c (.slice false 1 tab1)) (.t 12), .none⟩,
    ⟨(some 14), none, false, .load false 1 (.t 13) .copy, .none⟩,
    ⟨(some 4), none, false, .mv (.t 14), .none⟩])
  (.seq (.seq (.region false [⟨(some 15), none, false, .mv (.t 3), .none⟩,
    ⟨(some 16), none, false, .mv (.t 4), .none⟩,
    ⟨(some 17), none, false, .bin .and (.t 16) (.c (.int .u8 7)), .none⟩,
    ⟨(some 18), none, false, .conv .i64 (.t 17), .none⟩,
    ⟨(some 19), none, false, .bin .geq (.t 15) (.t 18), .none⟩])
  (.cond (.t 19)
   (.seq (.region false [⟨(some 2), none, false, .mv (.c (.bool true)), .none⟩])
   (.ret))
   (.skip)))
  (.seq (.region false [⟨(some 20), none, false, .mv (.t 4), .none⟩,
    ⟨(some 21), none, false, .bin .shr (.t 20) (.c (.int .u64 4)), .none⟩,
    ⟨(some 22), none, false, .indexSl 2 (.c (.slice false 2 tab2)) (.t 21), .none⟩,
    ⟨(some 23), none, false, .load true 2 (.t 22) .copy, .none⟩,
    ⟨(some 5), none, false, .allocL 0 [(.int .u8 0), (.int .u8 0)], .none⟩,
    ⟨none, none, false, .store 2 (.t 5) (.t 23), .none⟩])
  (.seq (.seq (.region true [⟨(some 24), none, false, .mv (.t 3), .none⟩,
    ⟨(some 25), none, false, .bin .gtr (.t 24) (.c (.int .i64 1)), .none⟩,
    ⟨(some 26), none, false, .mv (.t 25), .none⟩,
    ⟨(some 27), (some (26, true)), false, .mv (.t 0), .none⟩,
    ⟨(some 28), (some (26, true)), false, .indexSl 1 (.t 27) (.c (.int .i64 1)), .none⟩,
    ⟨(some 29), (some (26, true)), false, .load false 1 (.t 28) .copy, .none⟩,
    ⟨(some 30), (some (26, true)), false, .fieldAddr 0 (.t 5), .none⟩,
    ⟨(some 31), (some (26, true)), false, .load false 1 (.t 30) .copy, .none⟩,
    ⟨(some 32), (some (26, true)), false, .bin .lss (.t 29) (.t 31), .none⟩,
    ⟨(some 33), (some (26, true)), false, .mv (.t 32), .none⟩,
    ⟨(some 34), (some (33, false)), false, .fieldAddr 1 (.t 5), .none⟩,
    ⟨(some 35), (some (33, false)), false, .load false 1 (.t 34) .copy, .none⟩,
    ⟨(some 36), (some (33, false)), false, .mv (.t 0), .none⟩,
    ⟨(some 37), (some (33, false)), false, .indexSl 1 (.t 36) (.c (.int .i64 1)), .none⟩,
    ⟨(some 38), (some (33, false)), false, .load false 1 (.t 37) .copy, .none⟩,
    ⟨(some 39), (some (33, false)), false, .bin .lss (.t 35) (.t 38), .none⟩,
    ⟨(some 40), (some (26, true)), false, .pick (.t 33) (.c (.bool true)) (.t 39), .none⟩,
    ⟨(some 41), none, false, .pick (.t 26) (.t 40) (.c (.bool false)), .none⟩])
  (.cond (.t 41)
   (.seq (.region false [⟨(some 2), none, false, .mv (.c (.bool true)), .none⟩])
   (.ret))
   (.seq (.region false [⟨(some 42), none, false, .mv (.t 3), .none⟩,
     ⟨(some 43), none, false, .bin .gtr (.t 42) (.c (.int .i64 2)), .none⟩,
     ⟨(some 44), none, false, .mv (.t 43), .none⟩,
     ⟨(some 45), (some (44, true)), false, .mv (.t 0), .none⟩,
     ⟨(some 46), (some (44, true)), false, .indexSl 1 (.t 45) (.c (.int .i64 2)), .none⟩,
     ⟨(some 47), (some (44, true)), false, .load false 1 (.t 46) .copy, .none⟩,
     ⟨(some 48), (some (44, true)), false, .bin .lss (.t 47) (.c (.int .u8 128)), .none⟩,
     ⟨(some 49), (some (44, true)), false, .mv (.t 48), .none⟩,
     ⟨(some 50), (some (49, false)), false, .mv (.t 0), .none⟩,
     ⟨(some 51), (some (49, false)), false, .indexSl 1 (.t 50) (.c (.int .i64 2)), .none⟩,
     ⟨(some 52), (some (49, false)), false, .load false 1 (.t 51) .copy, .none⟩,
     ⟨(some 53), (some (49, false)), false, .bin .lss (.c (.int .u8 191)) (.t 52), .none⟩,
     ⟨(some 54), (some (44, true)), false, .pick (.t 49) (.c (.bool true)) (.t 53), .none⟩,
     ⟨(some 55), none, false, .pick (.t 44) (.t 54) (.c (.bool false)), .none⟩])
   (.cond (.t 55)
    (.seq (.region false [⟨(some 2), none, false, .mv (.c (.bool true)), .none⟩])
    (.ret))
    (.skip)))))
  (.seq (.region false [⟨(some 2), none, false, .mv (.c (.bool false)), .none⟩])
  (.ret))))))))⟩
def v53 : List Nat := [0, 2, 3, 4, 5, 9, 19, 41, 55]
theorem c53 : cFunc Go.Proofs.Tryd.prog p53 53 = some a53 := by decide +kernel
def p54 : Plan := ⟨[], 0, [((7, 1), { uses := [(18, .share)] })],
  [[0, 6, 7, 8]]⟩
def a54 : AFunc := ⟨1, 22, 0, [.tmp 2, .tmp 3],
  .seq (.region false [⟨(some 2), none, false, .mv (.c (.int .i32 0)), .none⟩,
    ⟨(some 3), none, false, .mv (.c (.int .i64 0)), .none⟩])
  (.seq (.seq (.region false [⟨(some 6), none, false, .mv (.t 0), .none⟩,
    ⟨(some 7), none, false, .lenSl (.t 6), .none⟩,
    ⟨(some 8), none, false, .mv (.c (.int .i64 0)), .none⟩])
  (.block 0 (.loop [0, 6, 7, 8] (.seq (.region false [⟨(some 9), none, false, .bin .lss (.t 8) (.t 7), .none⟩])
   (.seq (.cond (.t 9)
    (.skip)
    (.exit 0))
   (.seq (.block 1 (.seq (.region false [⟨(some 10), none, false, .indexSl 1 (.t 6) (.t 8), .none⟩,
     ⟨(some 11), none, false, .load false 1 (.t 10) .copy, .none⟩,
     ⟨(some 5), none, false, .mv (.t 11), .none⟩])
   (.seq (.seq (.region false [⟨(some 12), none, false, .mv (.t 5), .none⟩,
     ⟨(some 13), none, false, .bin .lss (.t 12) (.c (.int .u8 128)), .none⟩])
   (.cond (.t 13)
    (.seq (.region false [⟨(some 14), none, false, .mv (.t 5), .none⟩,
      ⟨(some 15), none, false, .conv .i32 (.t 14), .none⟩,
      ⟨(some 2), none, false, .mv (.t 15), .none⟩,
      ⟨(some 3), none, false, .mv (.c (.int .i64 1)), .none⟩])
    (.ret))
    (.skip)))
   (.exit 0))))
   (.region false [⟨(some 16), none, false, .bin .add (.t 8) (.c (.int .i64 1)), .none⟩,
     ⟨(some 8), none, false, .mv (.t 16), .none⟩])))))))
  (.seq (.region false [⟨(some 18), none, false, .mv (.t 0), .none⟩,
    ⟨(some 19), none, false, .callF 60 [(.u 18 .share)], .none⟩,
    ⟨(some 17), none, false, .mv (.t 19), .none⟩,
    ⟨(some 20), none, false, .extract (.t 17) 0, .none⟩,
    ⟨(some 21), none, false, .extract (.t 17) 1, .none⟩,
    ⟨(some 2), none, false, .mv (.t 20), .none⟩,
    ⟨(some 3), none, false, .mv (.t 21), .none⟩])
  (.ret)))⟩
theorem c54 : cFunc Go.Proofs.Tryd.prog p54 54 = some a54 := by decide +kernel
def p60 : Plan := ⟨[], 1, [((10, 4), { box := some 0 })],
  []⟩
def a60 : AFunc := ⟨1, 122, 1, [.tmp 2, .tmp 3],
  .seq (.region false [⟨(some 2), none, false, .mv (.c (.int .i32 0)), .none⟩,
    ⟨(some 3), none, false, .mv (.c (.int .i64 0)), .none⟩])
  (.seq (.region false [⟨(some 13), none, false, .mv (.t 0), .none⟩,
    ⟨(some 14), none, false, .lenSl (.t 13), .none⟩,
    ⟨(some 4), none, false, .mv (.t 14), .none⟩])
  (.seq (.seq (.region false [⟨(some 15), none, false, .mv (.t 4), .none⟩,
    ⟨(some 16), none, false, .bin .lss (.t 15) (.c (.int .i64 1)), .none⟩])
  (.cond (.t 16)
   (.seq (.region false [⟨(some 2), none, false, .mv (.c (.int .i32 65533)), .none⟩,
     ⟨(some 3), none, false, .mv (.c (.int .i64 0)), .none⟩])
   (.ret))
   (.skip)))
  (.seq (.region false [⟨(some 17), none, false, .mv (.t 0), .none⟩,
    ⟨(some 18), none, false, .indexSl 1 (.t 17) (.c (.int .i64 0)), .none⟩,
    ⟨(some 19), none, false, .load false 1 (.t 18) .copy, .none⟩,
    ⟨(some 5), none, false, .mv (.t 19), .none⟩])
  (.seq (.region false [⟨(some 20), none, false, .mv (.t 5), .none⟩,
    ⟨(some 21), none, false, .indexSl 1 (.c (.slice false 1 tab1)) (.t 20), .none⟩,
    ⟨(some 22), none, false, .load false 1 (.t 21) .copy, .none⟩,
    ⟨(some 6), none, false, .mv (.t 22), .none⟩])
  (.seq (.seq (.region false [⟨(some 23), none, false, .mv (.t 6), .none⟩,
    ⟨(some 24), none, false, .bin .geq (.t 23) (.c (.int .u8 240)), .none⟩])
  (.cond (.t 24)
   (.seq (.region false [⟨(some 25), none, false, .mv (.t 6), .none⟩,
     ⟨(some 26), none, false, .conv .i32 (.t 25), .none⟩,
     ⟨(some 27), none, false, .bin .shl (.t 26) (.c (.int .u64 31)), .none⟩,
     ⟨(some 28), none, false, .bin .shr (.t 27) (.c (.int .u64 31)), .none⟩,
     ⟨(some 7), none, false, .mv (.t 28), .none⟩])
   (.seq (.region false [⟨(some 29), none, false, .mv (.t 0), .none⟩,
     ⟨(some 30), none, false, .indexSl 1 (.t 29) (.c (.int .i64 0)), .none⟩,
     ⟨(some 31), none, false, .load false 1 (.t 30) .copy, .none⟩,
     ⟨(some 32), none, false, .conv .i32 (.t 31), .none⟩,
     ⟨(some 33), none, false, .mv (.t 7), .none⟩,
     ⟨(some 34), none, false, .bin .andNot (.t 32) (.t 33), .none⟩,
     ⟨(some 35), none, false, .mv (.t 7), .none⟩,
     ⟨(some 36), none, false, .bin .and (.c (.int .i32 65533)) (.t 35), .none⟩,
     ⟨(some 37), none, false, .bin .or (.t 34) (.t 36), .none⟩,
     ⟨(some 2), none, false, .mv (.t 37), .none⟩,
     ⟨(some 3), none, false, .mv (.c (.int .i64 1)), .none⟩])
   (.ret)))
   (.skip)))
  (.seq (.region false [⟨(some 38), none, false, .mv (.t 6), .none⟩,
    ⟨(some 39), none, false, .bin .and (.t 38) (.c (.int .u8 7)), .none⟩,
    ⟨(some 40), none, false, .conv .i64 (.t 39), .none⟩,
    ⟨(some 8), none, false, .mv (.t 40), .none⟩])
  (.seq (.region false [⟨(some 41), none, false, .mv (.t 6), .none⟩,
    ⟨(some 42), none, false, .bin .shr (.t 41) (.c (.int .u64 4)), .none⟩,
    ⟨(some 43), none, false, .indexSl 2 (.c (.slice false 2 tab2)) (.t 42), .none⟩,
    ⟨(some 44), none, false, .load true 2 (.t 43) .copy, .none⟩,
    ⟨(some 9), none, false, .allocL 0 [(.int .u8 0), (.int .u8 0)], .none⟩,
    ⟨none, none, false, .store 2 (.t 9) (.t 44), .none⟩])
  (.seq (.seq (.region false [⟨(some 45), none, false, .mv (.t 4), .none⟩,
    ⟨(some 46), none, false, .mv (.t 8), .none⟩,
    ⟨(some 47), none, false, .bin .lss (.t 45) (.t 46), .none⟩])
  (.cond (.t 47)
   (.seq (.region false [⟨(some 2), none, false, .mv (.c (.int .i32 65533)), .none⟩,
     ⟨(some 3), none, false, .mv (.c (.int .i64 1)), .none⟩])
   (.ret))
   (.skip)))
  (.seq (.region false [⟨(some 48), none, false, .mv (.t 0), .none⟩,
    ⟨(some 49), none, false, .indexSl 1 (.t 48) (.c (.int .i64 1)), .none⟩,
    ⟨(some 50), none, false, .load false 1 (.t 49) .copy, .none⟩,
    ⟨(some 10), none, false, .mv (.t 50), .none⟩])
  (.seq (.seq (.region false [⟨(some 51), none, false, .mv (.t 10), .none⟩,
    ⟨(some 52), none, false, .fieldAddr 0 (.t 9), .none⟩,
    ⟨(some 53), none, false, .load false 1 (.t 52) .copy, .none⟩,
    ⟨(some 54), none, false, .bin .lss (.t 51) (.t 53), .none⟩,
    ⟨(some 55), none, false, .mv (.t 54), .none⟩,
    ⟨(some 56), (some (55, false)), false, .fieldAddr 1 (.t 9), .none⟩,
    ⟨(some 57), (some (55, false)), false, .load false 1 (.t 56) .copy, .none⟩,
    ⟨(some 58), (some (55, false)), false, .mv (.t 10), .none⟩,
    ⟨(some 59), (some (55, false)), false, .bin .lss (.t 57) (.t 58), .none⟩,
    ⟨(some 60), none, false, .pick (.t 55) (.c (.bool true)) (.t 59), .none⟩])
  (.cond (.t 60)
   (.seq (.region false [⟨(some 2), none, false, .mv (.c (.int .i32 65533)), .none⟩,
     ⟨(some 3), none, false, .mv (.c (.int .i64 1)), .none⟩])
   (.ret))
   (.skip)))
  (.seq (.seq (.region false [⟨(some 61), none, false, .mv (.t 8), .none⟩,
    ⟨(some 62), none, false, .bin .leq (.t 61) (.c (.int .i64 2)), .none⟩])
  (.cond (.t 62)
   (.seq (.region false [⟨(some 63), none, false, .mv (.t 5), .none⟩,
     ⟨(some 64), none, false, .bin .and (.t 63) (.c (.int .u8 31)), .none⟩,
     ⟨(some 65), none, false, .conv .i32 (.t 64), .none⟩,
     ⟨(some 66), none, false, .bin .shl (.t 65) (.c (.int .u64 6)), .none⟩,
     ⟨(some 67), none, false, .mv (.t 10), .none⟩,
     ⟨(some 68), none, false, .bin .and (.t 67) (.c (.int .u8 63)), .none⟩,
     ⟨(some 69), none, false, .conv .i32 (.t 68), .none⟩,
     ⟨(some 70), none, false, .bin .or (.t 66) (.t 69), .none⟩,
     ⟨(some 2), none, false, .mv (.t 70), .none⟩,
     ⟨(some 3), none, false, .mv (.c (.int .i64 2)), .none⟩])
   (.ret))
   (.skip)))
  (.seq (.region false [⟨(some 71), none, false, .mv (.t 0), .none⟩,
    ⟨(some 72), none, false, .indexSl 1 (.t 71) (.c (.int .i64 2)), .none⟩,
    ⟨(some 73), none, false, .load false 1 (.t 72) .copy, .none⟩,
    ⟨(some 11), none, false, .mv (.t 73), .none⟩])
  (.seq (.seq (.region false [⟨(some 74), none, false, .mv (.t 11), .none⟩,
    ⟨(some 75), none, false, .bin .lss (.t 74) (.c (.int .u8 128)), .none⟩,
    ⟨(some 76), none, false, .mv (.t 75), .none⟩,
    ⟨(some 77), (some (76, false)), false, .mv (.t 11), .none⟩,
    ⟨(some 78), (some (76, false)), false, .bin .lss (.c (.int .u8 191)) (.t 77), .none⟩,
    ⟨(some 79), none, false, .pick (.t 76) (.c (.bool true)) (.t 78), .none⟩])
  (.cond (.t 79)
   (.seq (.region false [⟨(some 2), none, false, .mv (.c (.int .i32 65533)), .none⟩,
     ⟨(some 3), none, false, .mv (.c (.int .i64 1)), .none⟩])
   (.ret))
   (.skip)))
  (.seq (.seq (.region false [⟨(some 80), none, false, .mv (.t 8), .none⟩,
    ⟨(some 81), none, false, .bin .leq (.t 80) (.c (.int .i64 3)), .none⟩])
  (.cond (.t 81)
   (.seq (.region false [⟨(some 82), none, false, .mv (.t 5), .none⟩,
     ⟨(some 83), none, false, .bin .and (.t 82) (.c (.int .u8 15)), .none⟩,
     ⟨(some 84), none, false, .conv .i32 (.t 83), .none⟩,
     ⟨(some 85), none, false, .bin .shl (.t 84) (.c (.int .u64 12)), .none⟩,
     ⟨(some 86), none, false, .mv (.t 10), .none⟩,
     ⟨(some 87), none, false, .bin .and (.t 86) (.c (.int .u8 63)), .none⟩,
     ⟨(some 88), none, false, .conv .i32 (.t 87), .none⟩,
     ⟨(some 89), none, false, .bin .shl (.t 88) (.c (.int .u64 6)), .none⟩,
     ⟨(some 90), none, false, .bin .or (.t 85) (.t 89), .none⟩,
     ⟨(some 91), none, false, .mv (.t 11), .none⟩,
     ⟨(some 92), none, false, .bin .and (.t 91) (.c (.int .u8 63)), .none⟩,
     ⟨(some 93), none, false, .conv .i32 (.t 92), .none⟩,
     ⟨(some 94), none, false, .bin .or (.t 90) (.t 93), .none⟩,
     ⟨(some 2), none, false, .mv (.t 94), .none⟩,
     ⟨(some 3), none, false, .mv (.c (.int .i64 3)), .none⟩])
   (.ret))
   (.skip)))
  (.seq (.region false [⟨(some 95), none, false, .mv (.t 0), .none⟩,
    ⟨(some 96), none, false, .indexSl 1 (.t 95) (.c (.int .i64 3)), .none⟩,
    ⟨(some 97), none, false, .load false 1 (.t 96) .copy, .none⟩,
    ⟨(some 12), none, false, .mv (.t 97), .none⟩])
  (.seq (.seq (.region false [⟨(some 98), none, false, .mv (.t 12), .none⟩,
    ⟨(some 99), none, false, .bin .lss (.t 98) (.c (.int .u8 128)), .none⟩,
    ⟨(some 100), none, false, .mv (.t 99), .none⟩,
    ⟨(some 101), (some (100, false)), false, .mv (.t 12), .none⟩,
    ⟨(some 102), (some (100, false)), false, .bin .lss (.c (.int .u8 191)) (.t 101), .none⟩,
    ⟨(some 103), none, false, .pick (.t 100) (.c (.bool true)) (.t 102), .none⟩])
  (.cond (.t 103)
   (.seq (.region false [⟨(some 2), none, false, .mv (.c (.int .i32 65533)), .none⟩,
     ⟨(some 3), none, false, .mv (.c (.int .i64 1)), .none⟩])
   (.ret))
   (.skip)))
  (.seq (.region false [⟨(some 104), none, false, .mv (.t 5), .none⟩,
    ⟨(some 105), none, false, .bin .and (.t 104) (.c (.int .u8 7)), .none⟩,
    ⟨(some 106), none, false, .conv .i32 (.t 105), .none⟩,
    ⟨(some 107), none, false, .bin .shl (.t 106) (.c (.int .u64 18)), .none⟩,
    ⟨(some 108), none, false, .mv (.t 10), .none⟩,
    ⟨(some 109), none, false, .bin .and (.t 108) (.c (.int .u8 63)), .none⟩,
    ⟨(some 110), none, false, .conv .i32 (.t 109), .none⟩,
    ⟨(some 111), none, false, .bin .shl (.t 110) (.c (.int .u64 12)), .none⟩,
    ⟨(some 112), none, false, .bin .or (.t 107) (.t 111), .none⟩,
    ⟨(some 113), none, false, .mv (.t 11), .none⟩,
    ⟨(some 114), none, false, .bin .and (.t 113) (.c (.int .u8 63)), .none⟩,
    ⟨(some 115), none, false, .conv .i32 (.t 114), .none⟩,
    ⟨(some 116), none, false, .bin .shl (.t 115) (.c (.int .u64 6)), .none⟩,
    ⟨(some 117), none, false, .bin .or (.t 112) (.t 116), .none⟩,
    ⟨(some 118), none, false, .mv (.t 12), .none⟩,
    ⟨(some 119), none, false, .bin .and (.t 118) (.c (.int .u8 63)), .none⟩,
    ⟨(some 120), none, false, .conv .i32 (.t 119), .none⟩,
    ⟨(some 121), none, false, .bin .or (.t 117) (.t 120), .none⟩,
    ⟨(some 2), none, false, .mv (.t 121), .none⟩,
    ⟨(some 3), none, false, .mv (.c (.int .i64 4)), .none⟩])
  (.ret))))))))))))))))))⟩
theorem c60 : cFunc Go.Proofs.Tryd.prog p60 60 = some a60 := by decide +kernel
def codes : List (Nat × AFunc) := [(3, a3), (4, a4), (5, a5), (6, a6), (7, a7), (8, a8), (9, a9), (10, a10), (11, a11), (12, a12), (13, a13), (14, a14), (15, a15), (16, a16), (17, a17), (18, a18), (19, a19), (20, a20), (21, a21), (22, a22), (23, a23), (24, a24), (25, a25), (26, a26), (27, a27), (28, a28), (29, a29), (30, a30), (32, a32), (33, a33), (34, a34), (35, a35), (36, a36), (39, a39), (40, a40), (41, a41), (42, a42), (43, a43), (44, a44), (51, a51), (52, a52), (53, a53), (54, a54), (60, a60)]
def ET : Table := tableOf codes repX
theorem codes_ok : allOK Go.Proofs.Tryd.prog codes := ⟨cFunc_ok c3, cFunc_ok c4, cFunc_ok c5, cFunc_ok c6, cFunc_ok c7, cFunc_ok c8, cFunc_ok c9, cFunc_ok c10, cFunc_ok c11, cFunc_ok c12, cFunc_ok c13, cFunc_ok c14, cFunc_ok c15, cFunc_ok c16, cFunc_ok c17, cFunc_ok c18, cFunc_ok c19, cFunc_ok c20, cFunc_ok c21, cFunc_ok c22, cFunc_ok c23, cFunc_ok c24, cFunc_ok c25, cFunc_ok c26, cFunc_ok c27, cFunc_ok c28, cFunc_ok c29, cFunc_ok c30, cFunc_ok c32, cFunc_ok c33, cFunc_ok c34, cFunc_ok c35, cFunc_ok c36, cFunc_ok c39, cFunc_ok c40, cFunc_ok c41, cFunc_ok c42, cFunc_ok c43, cFunc_ok c44, cFunc_ok c51, cFunc_ok c52, cFunc_ok c53, cFunc_ok c54, cFunc_ok c60, trivial⟩
end Go.Proofs.YtggbcchebiedjaaDoor.Am.Esc

namespace Go.Proofs
open Go.Shelf
def Tryd.lays288_ren : Go.Shelf.Ren := ⟨fun | 288 => 37 | 283 => 45 | 284 => 46 | 285 => 47 | 286 => 48 | 129 => 56 | 317 => 55 | 318 => 57 | 319 => 58 | 320 => 59 | 337 => 61 | 338 => 62 | n => n, fun | 37 => 22 | 53 => 65 | 3 => 3 | 4 => 4 | 9 => 9 | 171 => 70 | 0 => 0 | 173 => 73 | 212 => 88 | 51 => 75 | 5 => 5 | 20 => 20 | 213 => 89 | 46 => 63 | 232 => 97 | 233 => 98 | n => n, fun | 17 => 0 | 18 => 3 | 19 => 4 | n => n⟩
theorem Tryd.lays288 : Go.Proofs.LaysM.n288 Tryd.prog Tryd.lays288_ren := {
  mixed := by kernel_rfl
  f129 := Tryd.func56.trans (congrArg some (by kernel_rfl))
  f283 := Tryd.func45.trans (congrArg some (by kernel_rfl))
  f284 := Tryd.func46.trans (congrArg some (by kernel_rfl))
  f285 := Tryd.func47.trans (congrArg some (by kernel_rfl))
  f286 := Tryd.func48.trans (congrArg some (by kernel_rfl))
  f288 := Tryd.func37.trans (congrArg some (by kernel_rfl))
  f317 := Tryd.func55.trans (congrArg some (by kernel_rfl))
  f318 := Tryd.func57.trans (congrArg some (by kernel_rfl))
  f319 := Tryd.func58.trans (congrArg some (by kernel_rfl))
  f320 := Tryd.func59.trans (congrArg some (by kernel_rfl))
  f337 := Tryd.func61.trans (congrArg some (by kernel_rfl))
  f338 := Tryd.func62.trans (congrArg some (by kernel_rfl))
  t0 := Tryd.underlying0
  a0 := Tryd.isAgg0
  z0 := Tryd.sizeOf0
  v0 := Tryd.zeroValue0
  t3 := Tryd.underlying3
  a3 := Tryd.isAgg3
  z3 := Tryd.sizeOf3
  v3 := Tryd.zeroValue3
  t4 := Tryd.underlying4
  a4 := Tryd.isAgg4
  z4 := Tryd.sizeOf4
  v4 := Tryd.zeroValue4
  t5 := Tryd.underlying5
  a5 := Tryd.isAgg5
  z5 := Tryd.sizeOf5
  v5 := Tryd.zeroValue5
  t9 := Tryd.underlying9
  a9 := Tryd.isAgg9
  z9 := Tryd.sizeOf9
  v9 := Tryd.zeroValue9
  t20 := Tryd.underlying20
  a20 := Tryd.isAgg20
  z20 := Tryd.sizeOf20
  v20 := Tryd.zeroValue20
  t37 := Tryd.underlying22
  a37 := Tryd.isAgg22
  z37 := Tryd.sizeOf22
  v37 := Tryd.zeroValue22
  t46 := Tryd.underlying63
  a46 := Tryd.isAgg63
  z46 := Tryd.sizeOf63
  v46 := Tryd.zeroValue63
  t51 := Tryd.underlying75
  a51 := Tryd.isAgg75
  z51 := Tryd.sizeOf75
  v51 := Tryd.zeroValue75
  t53 := Tryd.underlying65
  a53 := Tryd.isAgg65
  z53 := Tryd.sizeOf65
  v53 := Tryd.zeroValue65
  t171 := Tryd.underlying70
  a171 := Tryd.isAgg70
  z171 := Tryd.sizeOf70
  v171 := Tryd.zeroValue70
  t173 := Tryd.underlying73
  a173 := Tryd.isAgg73
  z173 := Tryd.sizeOf73
  v173 := Tryd.zeroValue73
  t212 := Tryd.underlying88
  a212 := Tryd.isAgg88
  z212 := Tryd.sizeOf88
  v212 := Tryd.zeroValue88
  t213 := Tryd.underlying89
  a213 := Tryd.isAgg89
  z213 := Tryd.sizeOf89
  t232 := Tryd.underlying97
  a232 := Tryd.isAgg97
  z232 := Tryd.sizeOf97
  v232 := Tryd.zeroValue97
  t233 := Tryd.underlying98
  a233 := Tryd.isAgg98
  z233 := Tryd.sizeOf98
  v233 := Tryd.zeroValue98
  g17 := by kernel_rfl
  g18 := by kernel_rfl
  g19 := by kernel_rfl
  i0 := by kernel_rfl
  i3 := by kernel_rfl
  i4 := by kernel_rfl
  i5 := by kernel_rfl
  i9 := by kernel_rfl
  i20 := by kernel_rfl
  i37 := by kernel_rfl
  i46 := by kernel_rfl
  i51 := by kernel_rfl
  i53 := by kernel_rfl
  i171 := by kernel_rfl
  i173 := by kernel_rfl
  i212 := by kernel_rfl
  i232 := by kernel_rfl
  i233 := by kernel_rfl
  m17 := by kernel_rfl
  m18 := by kernel_rfl
  m19 := by kernel_rfl }
end Go.Proofs

set_option linter.all false
namespace Go.Proofs.YtggbcchebiedjaaDoor.Am
section
variable {P : Program} {g : G} {w : World} {nl : Nat} {fr : Nat → Nat} {S : Nat → Bool} {st : St} {ts : Array Value} {ps : List (V × Value)}
def G.also (g : G) (b : Nat) : G := { g with pers := fun c => g.pers c ∨ c = b }
theorem G.also_ext (g : G) (b : Nat) : GExt g (g.also b) := ⟨fun _ h => .inl h, rfl, rfl, rfl⟩
theorem SR.alsoPers (h : SR g w nl fr S st ts ps) {b : Nat} (h0 : total g w nl fr st ts ps b = 0) (hb : b < w.heap.size) : SR (g.also b) w nl fr S st ts ps := by
  have hg := G.also_ext g b
  have hT : ∀ c, total (g.also b) w nl fr st ts ps c ≤ total g w nl fr st ts ps c + (if c = b then 1 else 0) := fun c => by
    have h1 : cntB (g.also b) w c nl st.l = cntB g w c nl st.l := sumTo_congr fun j _ => by unfold boxOf; rw [hg.lb]
    have h2 : cntM (g.also b) w c st.m = cntM g w c st.m := sumTo_congr fun b' _ => by unfold memOf; rw [hg.mb]
    have h3 : persOf (g.also b) c ≤ persOf g c + (if c = b then 1 else 0) := by
      unfold persOf
      by_cases hp : (g.also b).pers c
      · rw [if_pos hp]
        rcases hp with hq | hq
        · rw [if_pos hq]; omega
        · rw [if_pos hq]; omega
      · rw [if_neg hp]; omega
    unfold total
    rw [h1, h2]
    omega
  refine ⟨fun s => (h.temps s).gext hg, h.dead, h.peeks, fun p hp => (h.pend p hp).gext hg, h.ppeeks, fun j => by rw [hg.lv]; exact h.lvs j, fun j hj => ?_, fun b' hb' => ?_, fun c => ?_, fun c hc => ?_⟩
  · rw [hg.lb]; exact ⟨(h.locs j hj).1, (h.locs j hj).2.gext hg⟩
  · rw [hg.mb]; exact ⟨(h.mem b' hb').1.gext hg, (h.mem b' hb').2⟩
  · have := hT c
    by_cases hc : c = b
    · rw [if_pos hc] at this; subst hc; omega
    · rw [if_neg hc] at this; have := h.one c; omega
  · have := hT c
    rw [if_neg (by omega)] at this
    have := h.out c hc
    omega
theorem SR.also (h : SR g w nl fr S st ts ps) {y : V} {v : Value} (hy : R3 g w st.m.length (tsAt ts) y v) (ho : y.hasOwn = false) (hr : ∀ d, y.root? ≠ some (.tmp d)) : SR g w nl fr S st ts (ps ++ [(y, v)]) := by
  have hT : ∀ c, total g w nl fr st ts (ps ++ [(y, v)]) c = total g w nl fr st ts ps c := fun c => by
    have : cntP c (ps ++ [(y, v)]) = cntP c ps := by
      induction ps with
      | nil => rw [List.nil_append, cntP_cons, cnt2_zero ho]; simp
      | cons p ps ih => rw [List.cons_append, cntP_cons, cntP_cons, ih ⟨h.temps, h.dead, h.peeks, fun q hq => h.pend q (.tail _ hq), fun q hq => h.ppeeks q (.tail _ hq), h.lvs, h.locs, h.mem, fun c => Nat.le_trans (by unfold total; rw [cntP_cons]; omega) (h.one c), fun c hc => Nat.le_zero.1 (by have := h.out c hc; unfold total at this ⊢; rw [cntP_cons] at this; omega)⟩]
    unfold total
    rw [this]
  refine ⟨h.temps, h.dead, h.peeks, fun p hp => ?_, fun p hp d hd => ?_, h.lvs, h.locs, h.mem, fun c => by rw [hT]; exact h.one c, fun c hc => by rw [hT]; exact h.out c hc⟩
  · rcases List.mem_append.1 hp with hp | hp
    · exact h.pend p hp
    · rw [List.mem_singleton.1 hp]; exact hy
  · rcases List.mem_append.1 hp with hp | hp
    · exact h.ppeeks p hp d hd
    · rw [List.mem_singleton.1 hp] at hd; exact absurd hd (hr d)
end
end Go.Proofs.YtggbcchebiedjaaDoor.Am

set_option linter.all false
namespace Go.Proofs.YtggbcchebiedjaaDoor.Am
theorem good_none {P : Program} [Lay P] : Good P (fun _ _ _ => none) := fun _ _ _ _ _ h => by cases h
theorem append_call {P : Program} [Lay P] {g : G} {w : World} {fr : Nat → Nat} {t u e : TypeId} {inf : TypeInfo} {z : List V} (ht : P.underlying t = some (.slice e)) (hi : P.info? e = some inf) (hz : zeroOf P e = some z) (hzl : z.length = inf.size) (hb : inf.bytes ≤ 4096) (hpos : 0 < inf.size)
    (hu : (∃ e', P.underlying u = some (.slice e')) ∨ P.underlying u = some .string) (hL : Laid P g w) {m : List (List V)} {x y : V} {xs ys : List (List V)} {v0 v1 : Value} (hx : (x = .nils ∧ xs = [] ∧ 0 < ys.length) ∨ x = .slice true inf.size xs) (hm : xs.length + ys.length ≤ most)
    (h1 : y.hasOwn = false) (hye : ∀ st, elemsZ inf.size st y = some ys) (hok : ([x, y] : List V).all V.okArg = true) (hokr : okRet (.slice true inf.size (xs ++ ys)) = true)
    (h : SR g w 0 fr (fun _ => false) ⟨fun _ => .undef, fun _ => [], m⟩ #[] [(x, v0), (y, v1)]) :
    ∃ v w' g', (Builtin.append_ #[t, u] t #[v0, v1]).run P w = .ok v w' ∧ SR g' w' 0 fr (fun _ => false) ⟨fun _ => .undef, fun _ => [], m⟩ #[] [(.slice true inf.size (xs ++ ys), v)] ∧ Ext fr m.length g w g' w' := by
  have hS := SR.enter (args := [x, y]) (vs := #[v0, v1]) h rfl hok (fun _ => false) 0 0
  obtain ⟨oc, hoc⟩ : ∃ oc : Oper, oc = { dst := some 0, op := .call { callee := .builtin .append, args := #[.tmp 0, .tmp 1], argTypes := #[t, u] }, type := t, pos := "", after := #[], guard := none } := ⟨_, rfl⟩
  obtain ⟨a, ha⟩ : ∃ a : Act, a = ⟨#[v0, v1] ++ Array.replicate 0 undef, []⟩ := ⟨_, rfl⟩
  have hop := ok_append (P := P) (S := fun _ => false) (nl := 0) (oc := oc) (x := .tmp 0) (y := .tmp 1) (ox := .u 0 .take) (oy := .t 1) (by rw [hoc]) rfl rfl rfl ht hu hi hz hzl hb hpos ⟨rfl, fun h => by cases h⟩ rfl
  have hev : evalOp (fun _ _ _ => none) ⟨fun i => ([x, y] : List V).getD i .undef, fun _ => [], m⟩ (.append inf.size (.u 0 .take) (.t 1)) = some (.slice true inf.size (xs ++ ys), ⟨upd (fun i => ([x, y] : List V).getD i .undef) 0 .undef, fun _ => [], m⟩) := by
    have e0 : getO ⟨fun i => ([x, y] : List V).getD i .undef, fun _ => [], m⟩ (.u 0 .take) = some (x, ⟨upd (fun i => ([x, y] : List V).getD i .undef) 0 .undef, fun _ => [], m⟩) := rfl
    have e1 : getO ⟨upd (fun i => ([x, y] : List V).getD i .undef) 0 .undef, fun _ => [], m⟩ (.t 1) = some (y, ⟨upd (fun i => ([x, y] : List V).getD i .undef) 0 .undef, fun _ => [], m⟩) := by
      show (if y.hasOwn then none else some (y, _)) = _
      rw [h1]; rfl
    simp only [evalOp, e0, e1, Option.bind_some, hye]
    rcases hx with ⟨rfl, rfl, hy⟩ | rfl
    · simp only [List.nil_append]
      rw [if_pos ⟨by simpa using hm, hy⟩]
    · exact if_pos ⟨hm, rfl⟩
  have hwp := hop (fun _ _ _ => none) g w fr _ a _ _ ⟨good_none, hL⟩ (by rw [ha]; exact hS) hev (fun a' w' => ∃ v g', a' = a.put (some 0) v ∧ SR g' w' 0 fr (fun _ => false) ⟨fun _ => .undef, fun _ => [], m⟩ #[] [(.slice true inf.size (xs ++ ys), v)] ∧ Ext fr m.length g w g' w') (fun _ _ _ => False)
    (fun v g' w' h1 h2 h3 => ⟨v, { g' with lv := fun _ => False }, by rw [hoc], h1.leave hokr (.inl rfl), ⟨h2.os, h2.tape, h2.output, h2.size, h2.pers, h2.frame, h2.mb⟩⟩)
  have e : (execOp a.eval oc).run P w = ((Builtin.append_ #[t, u] t #[v0, v1]).run P w).andThen fun v w' => .ok (.value v) w' := by
    rw [hoc, ha]
    have em : Array.map (Act.eval ⟨#[v0, v1] ++ Array.replicate 0 undef, []⟩) #[Operand.tmp 0, Operand.tmp 1] = #[v0, v1] := by
      simp [Act.eval]
    simp only [execOp, resolve, Sem.run_bind, Sem.run_pure, Result.andThen_ok, invoke, builtin, em]
  unfold Oper.wp at hwp
  rw [e] at hwp
  cases hr : (Builtin.append_ #[t, u] t #[v0, v1]).run P w with
  | ok v w' =>
    rw [hr] at hwp
    obtain ⟨v', g', k1, k2, k3⟩ := hwp
    have : v = v' := by
      have := congrArg (fun q : Act => tsAt q.tmps 0) k1
      rw [hoc, ha] at this
      simpa [Act.put, tsAt] using this
    subst this
    exact ⟨v, w', g', rfl, k2, k3⟩
  | halt hh w' =>
    rw [hr] at hwp
    cases hh <;> exact False.elim hwp
end Go.Proofs.YtggbcchebiedjaaDoor.Am

namespace Go.Proofs.EscApp
open Go.Shelf Go.RowKit Go.Sort Go.Lib
set_option linter.all false
theorem wpList_append_run {P : Program} {Q : Exit → Act → World → Prop} {ops : Array Oper} {rest : List Oper} {o : Oper} {a : Act} {w w' : World} {v : Value} (hgd : o.guard = none) (s x : Operand) (t u : TypeId)
    (ho : o.op = .call { callee := .builtin .append, args := #[s, x], argTypes := #[t, u] }) (hr : (Builtin.append_ #[t, u] o.type #[a.eval s, a.eval x]).run P w = .ok v w')
    (h : wpList P ops Q rest (a.put o.dst v) w') : wpList P ops Q (o :: rest) a w :=
  wpList_plain hgd fun K hK => by
    refine Go.Proofs.YtggbcchebiedjaaDoor.Am.wp_value (v := v) (w' := w') ?_ (hK _ _ h)
    simp only [execOp, ho, resolve, Sem.run_bind, Sem.run_pure, Result.andThen_ok, invoke, builtin]
    have em : Array.map a.eval #[s, x] = #[a.eval s, a.eval x] := by simp
    rw [em, hr]; rfl
set_option maxHeartbeats 4000000 in
set_option maxRecDepth 100000 in
theorem appU (u : Nat) (hu : 100 ≤ u) (hu64 : u < 18446744073709551616) (sv : Value) (w : World) (htab : Lib.TabIs Tryd.prog w "internal/strconv.uint64pow10" .u64 Lib.pow10Tab) (R : Ending → World → Prop)
    (hap : ∀ W2, Below w.heap.size w W2 → (∀ j, j < Lib.nDigits u → W2.cell? ⟨w.heap.size, j, none⟩ = some (.int .u8 (((Lib.decDigits u).getD j 0).toNat : Int))) → ∃ v w', (Builtin.append_ #[22, 22] 22 #[sv, .slice (some ⟨w.heap.size, 0, none⟩) (Lib.nDigits u) 24]).run Tryd.prog W2 = .ok v w' ∧ R (.returned v) w') :
    Calls Tryd.prog 37 #[sv, .int .u64 u, .int .i64 10] w R := by
  have L := Tryd.lays288
  have hu1 : 1 ≤ u := by omega
  have hnd20 : Lib.nDigits u ≤ 20 := by have := Lib.numDigits_eq u hu1 hu64; split at this <;> omega
  have hsl : ∀ W, (Instr.sliceAt 70 (.pointer (some ⟨w.heap.size, 0, none⟩)) none (some (.int .i64 (Lib.nDigits u : Int))) none).run Tryd.prog W = .ok (.slice (some ⟨w.heap.size, 0, none⟩) (Lib.nDigits u) 24) W := fun W => by
    rw [run_sliceAt_array_h W 70 ⟨w.heap.size, 0, none⟩ (by kernel_rfl) .i64 (Lib.nDigits u : Int) (by omega) (by rw [show Tryd.prog.arrayLen 70 = 24 by kernel_rfl]; omega)]
    go_simp
  have hH0 := Lib.holds_zero0 w 70 (Lib.nDigits u) (by omega)
  have hfmt := Any.internal_strconv_formatBase10 { L with } w.heap.size 0 24 u (Array.replicate (Lib.nDigits u) 0) (w.alloc (.cells Lib.zeros24 70)) hH0 (by rw [Array.size_replicate]; exact Lib.lt_pow_nDigits u) hu64 (by rw [Array.size_replicate]; omega)
  rw [Array.size_replicate] at hfmt
  have HH0 := Lib.hid hH0
  have iu : (100 : Int) ≤ (u : Int) := by omega
  clear hH0
  go_enter Tryd.func37, Tryd.ntmps37
  go_wp2_with (first
    | (refine (Any.internal_strconv_numDigits { L with } u hu1 hu64 _ (Lib.tabIs_alloc htab _)).mono ?_; rintro e w' ⟨rfl, rfl⟩))
  refine hfmt.mono ?_
  rintro e w' ⟨rfl, k, v', dk, rfl, hF⟩
  obtain ⟨os, eo⟩ := Lib.fin_at w (.cells Lib.zeros24 70) dk k 0
  have hB : Below w.heap.size w ((putRow (fun (b : UInt8) => Value.int .u8 (b.toNat : Int)) (w.alloc (.cells Lib.zeros24 70)) w.heap.size 0 dk).drewN k) := by rw [eo]; exact Lib.below_grow _ w (Nat.le_refl _) k os
  have hc : ∀ j, j < Lib.nDigits u → ((putRow (fun (b : UInt8) => Value.int .u8 (b.toNat : Int)) (w.alloc (.cells Lib.zeros24 70)) w.heap.size 0 dk).drewN k).cell? ⟨w.heap.size, j, none⟩ = some (.int .u8 (((Lib.decDigits u).getD j 0).toNat : Int)) := by
    intro j hj
    have hjl : j < (Lib.decDigits u).length := by rw [Lib.decDigits_length]; exact hj
    rw [World.cell?_drewN]
    have := cell?_putRow (fun (b : UInt8) => Value.int .u8 (b.toNat : Int)) _ w.heap.size 0 _ dk HH0.out (by rw [hF.size, Array.size_replicate]) j (by rw [hF.size]; exact hj)
    rw [Nat.zero_add] at this
    rw [this, List.getD_eq_getElem?_getD, List.getElem?_eq_getElem hjl, Option.getD_some, Lib.row_is_numeral hF j hjl]
  generalize (putRow (fun (b : UInt8) => Value.int .u8 (b.toNat : Int)) (w.alloc (.cells Lib.zeros24 70)) w.heap.size 0 dk).drewN k = W2 at hB hc ⊢
  obtain ⟨v, w', hr, hR⟩ := hap W2 hB hc
  clear eo HH0 hfmt
  go_wp2_with (at_builtin; refine wpList_append_run rfl _ _ 22 22 rfl hr ?_)
  exact hR
set_option maxHeartbeats 4000000 in
set_option maxRecDepth 100000 in
theorem appU0 (u : Nat) (hu : u < 100) (sv : Value) (w : World) (R : Ending → World → Prop)
    (hap : ∃ v w', (Builtin.append_ #[22, 9] 22 #[sv, .string ⟨(Lib.decDigits u).toArray⟩]).run Tryd.prog w = .ok v w' ∧ R (.returned v) w') :
    Calls Tryd.prog 37 #[sv, .int .u64 u, .int .i64 10] w R := by
  have L := Tryd.lays288
  have iu : (u : Int) < 100 := by omega
  have hsm := Any.internal_strconv_small { L with } u hu
  obtain ⟨v, w', hr, hR⟩ := hap
  go_enter Tryd.func37, Tryd.ntmps37
  go_wp2_with (first
    | (refine (hsm _).mono ?_; rintro e w' ⟨rfl, rfl⟩)
    | (at_builtin; refine wpList_append_run rfl _ _ 22 9 rfl hr ?_))
  exact hR
end Go.Proofs.EscApp

namespace Go.Proofs.YtggbcchebiedjaaDoor.Am
inductive Fits (P : Program) : TypeId → List V → Prop
  | bool {t : TypeId} (b : Bool) (h : P.underlying t = some .bool) : Fits P t [.bool b]
  | int {t : TypeId} {k : IntKind} (n : Int) (h : P.underlying t = some (.int k)) (hn : (Lit.int k n).wf = true) : Fits P t [.int k n]
  | str {t : TypeId} (s : List UInt8) (h : P.underlying t = some .string) (hs : s.length ≤ maxLen) : Fits P t [.str s]
  | nils {t e : TypeId} (h : P.underlying t = some (.slice e)) : Fits P t [.nils]
  | slice {t e : TypeId} (xs : List (List V)) (h : P.underlying t = some (.slice e)) (hl : xs.length ≤ maxLen) (hx : ∀ i, i < xs.length → Fits P e (xs.getD i [])) : Fits P t [.slice false (P.cellsOf e) xs]
  | struct {t : TypeId} {fs : Array Field} (cs : List V) (h : P.underlying t = some (.struct fs)) (hl : cs.length = P.cellsOf t) (hf : ∀ f ∈ fs.toList, Fits P f.type ((cs.drop f.offset).take (P.cellsOf f.type))) : Fits P t cs
  | array {t e : TypeId} {n : Nat} (cs : List V) (h : P.underlying t = some (.array n e)) (hl : cs.length = P.cellsOf t) (hf : ∀ i, i < n → Fits P e ((cs.drop (i * P.cellsOf e)).take (P.cellsOf e))) : Fits P t cs
def tiles (P : Program) : Nat → List Field → Nat → Bool
  | n, [], m => n == m
  | n, f :: fs, m => f.offset == n && tiles P (n + P.cellsOf f.type) fs m
def supT (P : Program) : Nat → TypeId → Bool
  | 0, _ => false
  | d + 1, t => match P.underlying t with
    | some .bool | some (.int _) | some .string => P.cellsOf t == 1
    | some (.slice e) => P.cellsOf t == 1 && decide (0 < P.cellsOf e) && supT P d e
    | some (.struct fs) => tiles P 0 fs.toList (P.cellsOf t) && fs.toList.all fun f => supT P d f.type
    | some (.array n e) => P.cellsOf t == n * P.cellsOf e && supT P d e
    | _ => false
section
variable {P : Program} {H : Type} {enc : TypeId × Value → H} {W : World}
def blocksOf (W : World) : Nat → Prop := fun c => c < W.heap.size
theorem cell_block {a : Addr} {v : Value} (h : W.cell? a = some v) : a.block < W.heap.size ∧ a.spot = none := by
  unfold World.cell? at h
  cases hb : W.heap[a.block]? with
  | none => rw [hb] at h; cases h
  | some o =>
    rw [hb] at h
    refine ⟨(Array.getElem?_eq_some_iff.1 hb).1, ?_⟩
    cases o with
    | cells c _ _ =>
      simp only at h
      split at h
      · cases h
      · rename_i hs; simpa using hs
    | _ => cases h
def Reads (P : Program) (W : World) (t : TypeId) (cs : List Value) : Prop :=
  ∃ vs : List V, vs.length = cs.length ∧ Fits P t vs ∧ ∀ k, k < cs.length → RB (blocksOf W) W (vs.getD k .undef) (cs.getD k undef)
theorem trod_array {n : Nat} {e t : TypeId} {base fuel : Nat} {sp : Nat → Bool} {held : Bool} {cs : List Value} {x : DataW H × List MemPlace} (ht : P.underlying t = some (.array n e)) (h : DataW.trod enc P W base sp held fuel t cs = some x) :
    cs.length = P.cellsOf t ∧ ∃ m, ∀ i, i < n → ∃ y, DataW.trod enc P W base sp held m e ((cs.drop (i * P.cellsOf e)).take (P.cellsOf e)) = some y := by
  cases fuel with
  | zero => simp [DataW.trod] at h
  | succ m =>
    unfold DataW.trod at h
    rw [ht] at h
    split at h <;> simp_all
    obtain ⟨hl, xs, hp, hd⟩ := h
    refine ⟨m, fun i hi => ?_⟩
    have h1 := mapM_some_length hp
    have h2 := mapM_some_get hp i i (by simp [hi])
    simp only [List.length_range] at h1
    rw [List.getElem?_eq_getElem (by omega)] at h2
    exact ⟨_, _, h2⟩
def RBs (W : World) (vs : List V) (cs : List Value) : Prop := vs.length = cs.length ∧ ∀ k, k < cs.length → RB (blocksOf W) W (vs.getD k .undef) (cs.getD k undef)
theorem RBs.append {vs us : List V} {cs ds : List Value} (h : RBs W vs cs) (k : RBs W us ds) : RBs W (vs ++ us) (cs ++ ds) := by
  refine ⟨by simp [h.1, k.1], fun i hi => ?_⟩
  simp only [List.getD_eq_getElem?_getD]
  have h1 := h.1
  by_cases hlt : i < cs.length
  · have := h.2 i hlt
    simp only [List.getD_eq_getElem?_getD] at this
    rw [List.getElem?_append_left (by omega), List.getElem?_append_left hlt]; exact this
  · rw [List.length_append] at hi
    have := k.2 (i - cs.length) (by omega)
    simp only [List.getD_eq_getElem?_getD] at this
    rw [List.getElem?_append_right (by omega), List.getElem?_append_right (by omega), h1]; exact this
theorem reads_iff {t : TypeId} {cs : List Value} : Reads P W t cs ↔ ∃ vs, Fits P t vs ∧ RBs W vs cs :=
  ⟨fun ⟨vs, a, b, c⟩ => ⟨vs, b, a, c⟩, fun ⟨vs, b, a, c⟩ => ⟨vs, a, b, c⟩⟩
theorem fields_of {cs : List Value} : ∀ {fs : List Field} {n m : Nat}, tiles P n fs m = true → m ≤ cs.length → (∀ f ∈ fs, Reads P W f.type ((cs.drop f.offset).take (P.cellsOf f.type))) →
    n ≤ m ∧ ∃ vs, RBs W vs ((cs.drop n).take (m - n)) ∧ ∀ f ∈ fs, n ≤ f.offset ∧ Fits P f.type ((vs.drop (f.offset - n)).take (P.cellsOf f.type))
  | [], n, m, ht, hm, _ => by
    have : n = m := by simpa [tiles] using ht
    subst this
    exact ⟨Nat.le_refl _, [], ⟨by simp, fun k hk => absurd hk (by simp)⟩, fun f hf => by cases hf⟩
  | f :: fs, n, m, ht, hm, hr => by
    simp only [tiles, Bool.and_eq_true, beq_iff_eq] at ht
    obtain ⟨h0, ht⟩ := ht
    obtain ⟨hle, vs, hvs, hfs⟩ := fields_of ht hm fun g hg => hr g (.tail _ hg)
    obtain ⟨us, hfit, hus⟩ := reads_iff.1 (hr f (.head _))
    rw [h0] at hus
    have hul : us.length = P.cellsOf f.type := by rw [hus.1]; simp; omega
    have hsplit : (cs.drop n).take (m - n) = (cs.drop n).take (P.cellsOf f.type) ++ (cs.drop (n + P.cellsOf f.type)).take (m - (n + P.cellsOf f.type)) := by
      rw [← List.drop_drop, ← List.take_add]
      congr 1
      omega
    refine ⟨by omega, us ++ vs, by rw [hsplit]; exact hus.append hvs, fun g hg => ?_⟩
    cases hg with
    | head =>
      refine ⟨by omega, ?_⟩
      rw [h0, Nat.sub_self, List.drop_zero, List.take_append_of_le_length (by omega), List.take_of_length_le (by omega)]
      exact hfit
    | tail _ hg =>
      obtain ⟨h1, h2⟩ := hfs g hg
      refine ⟨by omega, ?_⟩
      rw [List.drop_append, List.drop_eq_nil_of_le (by omega), List.nil_append, hul]
      rw [show g.offset - n - P.cellsOf f.type = g.offset - (n + P.cellsOf f.type) from by omega]
      exact h2
theorem elems_of {cs : List Value} {e : TypeId} : ∀ {n : Nat}, n * P.cellsOf e ≤ cs.length → (∀ i, i < n → Reads P W e ((cs.drop (i * P.cellsOf e)).take (P.cellsOf e))) →
    ∃ vs, RBs W vs (cs.take (n * P.cellsOf e)) ∧ ∀ i, i < n → Fits P e ((vs.drop (i * P.cellsOf e)).take (P.cellsOf e))
  | 0, _, _ => ⟨[], ⟨by simp, fun k hk => absurd hk (by simp)⟩, fun i hi => absurd hi (by omega)⟩
  | n + 1, hn, hr => by
    have hs : (n + 1) * P.cellsOf e = n * P.cellsOf e + P.cellsOf e := Nat.succ_mul _ _
    obtain ⟨vs, hvs, hfs⟩ := elems_of (n := n) (by omega) fun i hi => hr i (by omega)
    obtain ⟨us, hfit, hus⟩ := reads_iff.1 (hr n (by omega))
    have hvl : vs.length = n * P.cellsOf e := by rw [hvs.1]; simp; omega
    have hul : us.length = P.cellsOf e := by rw [hus.1]; simp; omega
    refine ⟨vs ++ us, by rw [hs, List.take_add]; exact hvs.append hus, fun i hi => ?_⟩
    by_cases hin : i = n
    · subst hin
      rw [List.drop_append, List.drop_eq_nil_of_le (by omega), List.nil_append, hvl, Nat.sub_self, List.drop_zero, List.take_of_length_le (by omega)]
      exact hfit
    · have h1 := hfs i (by omega)
      have h2 : i * P.cellsOf e + P.cellsOf e ≤ n * P.cellsOf e := by rw [← Nat.succ_mul]; exact Nat.mul_le_mul_right _ (by omega)
      rw [List.drop_append_of_le_length (by omega), List.take_append_of_le_length (by simp; omega)]
      exact h1
theorem list_choose {α : Type} {n : Nat} {p : Nat → α → Prop} (h : ∀ i, i < n → ∃ x, p i x) : ∃ l : List α, l.length = n ∧ ∀ i x, l[i]? = some x → p i x := by
  induction n with
  | zero => exact ⟨[], rfl, fun i x hx => by simp at hx⟩
  | succ n ih =>
    obtain ⟨l, hl, hp⟩ := ih fun i hi => h i (by omega)
    obtain ⟨x, hx⟩ := h n (by omega)
    refine ⟨l ++ [x], by simp [hl], fun i y hy => ?_⟩
    by_cases hi : i < l.length
    · rw [List.getElem?_append_left hi] at hy; exact hp i y hy
    · rw [List.getElem?_append_right (by omega)] at hy
      have : i - l.length = 0 := by
        rcases Nat.eq_zero_or_pos (i - l.length) with h0 | h0
        · exact h0
        · rw [List.getElem?_eq_none (by simp; omega)] at hy; cases hy
      rw [this] at hy
      simp only [List.getElem?_cons_zero, Option.some.injEq] at hy
      subst hy
      have : i = n := by omega
      subst this; exact hx
theorem reads_of : ∀ {d : Nat} {t : TypeId}, supT P d t = true → ∀ {fuel : Nat} {held : Bool} {cs : List Value} {x : DataW H × List MemPlace}, DataW.trod enc P W 0 (fun _ => true) held fuel t cs = some x → Reads P W t cs := by
  intro d
  induction d with
  | zero => intro t h; cases h
  | succ d ih =>
    intro t h fuel held cs x hx
    simp only [supT] at h
    split at h
    · rename_i ht
      obtain ⟨b, rfl, _⟩ := DataW.trod_bool ht hx
      exact ⟨[.bool b], rfl, .bool b ht, fun k hk => by
        have : k = 0 := by simpa using hk
        subst this; exact .bool b⟩
    · rename_i kk ht
      obtain ⟨n, rfl, _, hwf⟩ := DataW.trod_int ht hx
      exact ⟨[.int kk n], rfl, .int n ht hwf, fun k hk => by
        have : k = 0 := by simpa using hk
        subst this; exact .int kk n⟩
    · rename_i ht
      obtain ⟨s, rfl, _, hs⟩ := DataW.trod_string ht hx
      exact ⟨[.str s.data.toList], rfl, .str _ ht (by simpa using hs), fun k hk => by
        have : k = 0 := by simpa using hk
        subst this; exact .str s⟩
    · rename_i e ht
      simp only [Bool.and_eq_true, beq_iff_eq, decide_eq_true_eq] at h
      obtain ⟨⟨_, hpos⟩, hsup⟩ := h
      rcases DataW.trod_slice ht hx with ⟨rfl, _⟩ | ⟨a, len, cap, elems, rest, n, _, rfl, _, _, hlc, hcap, hel, he, hre, _⟩
      · exact ⟨[.nils], rfl, .nils ht, fun k hk => by
          have : k = 0 := by simpa using hk
          subst this; exact .nils⟩
      · have hone : ∀ i, i < len → ∃ vs : List V, Fits P e vs ∧ vs.length = P.cellsOf e ∧ ∀ k, k < P.cellsOf e → ∃ v, W.cell? ((a.add (i * P.cellsOf e)).add k) = some v ∧ RB (blocksOf W) W (vs.getD k .undef) v := fun i hi => by
          have h1 := he i hi
          rw [List.getElem?_eq_getElem (by omega)] at h1
          simp only [Option.bind_eq_some_iff] at h1
          obtain ⟨cs', hc1, hc2⟩ := h1
          obtain ⟨_, hl, hc⟩ := World.cells?_some hc1
          obtain ⟨vs, hf, hr⟩ := reads_iff.1 (ih hsup hc2)
          refine ⟨vs, hf, by rw [hr.1, hl], fun k hk => ⟨cs'.getD k undef, ?_, hr.2 k (by omega)⟩⟩
          rw [hc k hk, List.getD_eq_getElem?_getD, List.getElem?_eq_getElem (by omega)]; rfl
        obtain ⟨xs, hxl, hxs⟩ := list_choose hone
        have hxs' : ∀ i, i < xs.length → Fits P e (xs.getD i []) ∧ (xs.getD i []).length = P.cellsOf e ∧ ∀ k, k < P.cellsOf e → ∃ v, W.cell? ((a.add (i * P.cellsOf e)).add k) = some v ∧ RB (blocksOf W) W ((xs.getD i []).getD k .undef) v := fun i hi => by
          rw [List.getD_eq_getElem?_getD, List.getElem?_eq_getElem hi]
          exact hxs i _ (List.getElem?_eq_getElem hi)
        have hblk : 0 < cap → a.block < W.heap.size ∧ a.spot = none := fun hc0 => by
          have h00 : (a.add (0 * P.cellsOf e)).add 0 = a := by simp [Addr.add]
          have hcell : ∃ v, W.cell? a = some v := by
            by_cases h0 : 0 < len
            · obtain ⟨v, hv, _⟩ := (hxs' 0 (by omega)).2.2 0 hpos
              rw [h00] at hv
              exact ⟨v, hv⟩
            · have h1 := (hre rfl).2 0 (by omega)
              have h2 := (hre rfl).1
              have hl0 : len = 0 := by omega
              subst hl0
              rw [List.getElem?_eq_getElem (by omega)] at h1
              simp only [Option.bind_eq_some_iff] at h1
              obtain ⟨cs', hc1, _⟩ := h1
              obtain ⟨_, hl, hc⟩ := World.cells?_some hc1
              have h3 := hc 0 hpos
              rw [Nat.add_zero, h00, List.getElem?_eq_getElem (by omega)] at h3
              exact ⟨_, h3⟩
          obtain ⟨v, hv⟩ := hcell
          exact cell_block hv
        refine ⟨[.slice false (P.cellsOf e) xs], rfl, .slice xs ht (by omega) (fun i hi => (hxs' i hi).1), fun k hk => ?_⟩
        have : k = 0 := by simpa using hk
        subst this
        simp only [List.getD_cons_zero]
        refine RB.slice_iff.2 ⟨a, cap, by rw [hxl], fun hc0 => (hblk hc0).2, fun hc0 => (hblk hc0).1, by omega, fun i hi => (hxs' i hi).2.1, fun i k hi hk => ?_⟩
        obtain ⟨v, hv, hr⟩ := (hxs' i hi).2.2 k hk
        refine ⟨v, ?_, hr⟩
        have hsp := (hblk (by omega)).2
        rw [addr_add hsp, addr_add rfl] at hv
        rw [← hv]
        simp [Nat.add_assoc]
    · rename_i fs ht
      simp only [Bool.and_eq_true, List.all_eq_true] at h
      obtain ⟨htile, hall⟩ := h
      obtain ⟨xs, n, _, _, hl, hxl, hf⟩ := DataW.trod_struct ht hx
      obtain ⟨_, vs, hvs, hfs⟩ := fields_of (P := P) (W := W) (cs := cs) htile (by omega) fun f hfm => by
        obtain ⟨i, hi⟩ := List.getElem?_of_mem hfm
        have hi' : i < fs.size := by have := (List.getElem?_eq_some_iff.1 hi).1; simpa using this
        have h1 := hf i f (by simpa using hi)
        rw [List.getElem?_eq_getElem (by omega)] at h1
        exact ih (hall f hfm) h1
      rw [List.drop_zero, Nat.sub_zero, List.take_of_length_le (by omega)] at hvs
      exact reads_iff.2 ⟨vs, .struct vs ht (by rw [hvs.1, hl]) (fun f hfm => by simpa using (hfs f hfm).2), hvs⟩
    · rename_i n e ht
      simp only [Bool.and_eq_true, beq_iff_eq] at h
      obtain ⟨hsz, hsup⟩ := h
      obtain ⟨hl, m, hm⟩ := trod_array ht hx
      obtain ⟨vs, hvs, hfs⟩ := elems_of (P := P) (W := W) (cs := cs) (e := e) (n := n) (by omega) fun i hi => by
        obtain ⟨y, hy⟩ := hm i hi
        exact ih hsup hy
      rw [List.take_of_length_le (by omega)] at hvs
      exact reads_iff.2 ⟨vs, .array vs ht (by rw [hvs.1, hl]) hfs, hvs⟩
    · cases h
end
end Go.Proofs.YtggbcchebiedjaaDoor.Am

set_option linter.all false
namespace Go.Proofs.YtggbcchebiedjaaDoor.Am
theorem SR.take1 {g : G} {w : World} {nl : Nat} {fr : Nat → Nat} {S : Nat → Bool} {st : St} {ts : Array Value} {ps : List (V × Value)} {p : V × Value} (h : SR g w nl fr S st ts (p :: ps)) : SR g w nl fr S st ts [p] := by
  have hT : ∀ c, total g w nl fr st ts [p] c ≤ total g w nl fr st ts (p :: ps) c := fun c => by
    unfold total
    rw [cntP_cons, cntP_cons, cntP_nil]; omega
  exact ⟨h.temps, h.dead, h.peeks, fun q hq => by rw [List.mem_singleton.1 hq]; exact h.pend p (.head _), fun q hq => by rw [List.mem_singleton.1 hq]; exact h.ppeeks p (.head _), h.lvs, h.locs, h.mem, fun c => Nat.le_trans (hT c) (h.one c), fun c hc => Nat.le_zero.1 (h.out c hc ▸ hT c)⟩
end Go.Proofs.YtggbcchebiedjaaDoor.Am
namespace Go.Proofs.YtggbcchebiedjaaDoor.Am.Esc
open Go.Proofs
theorem appU_calls {x : V} {xs : List (List V)} {i : Int} (hi : 100 ≤ i ∧ i < 18446744073709551616) (hx : (x = .nils ∧ xs = []) ∨ x = .slice true 1 xs) (hm : xs.length + 20 ≤ most) (hnum : 0 < (Lib.decDigits i.toNat).length ∧ (Lib.decDigits i.toNat).length ≤ 20) (hokr : okRet (.slice true 1 (xs ++ digs i)) = true)
    (hT : ∀ g w, Laid Tryd.prog g w → Lib.TabIs Tryd.prog w "internal/strconv.uint64pow10" .u64 Lib.pow10Tab) (m : List (List V)) : CallOK Tryd.prog 37 [x, .int .u64 i, .int .i64 10] m (.slice true 1 (xs ++ digs i)) m := by
  intro g w fr vs hsz hok hL hS
  obtain ⟨v0, v1, v2, rfl⟩ : ∃ v0 v1 v2, vs = #[v0, v1, v2] := by
    have : vs.size = 3 := hsz
    refine ⟨vs[0], vs[1], vs[2], ?_⟩
    apply Array.ext
    · simpa using this
    · intro i h1 h2
      have : i = 0 ∨ i = 1 ∨ i = 2 := by omega
      rcases this with rfl | rfl | rfl <;> rfl
  have hS : SR g w 0 fr (fun _ => false) ⟨fun _ => .undef, fun _ => [], m⟩ #[] [(x, v0), (.int .u64 i, v1), (.int .i64 10, v2)] := hS
  have h1 := R3.int (hS.pend _ (.tail _ (.head _)))
  have h2 := R3.int (hS.pend _ (.tail _ (.tail _ (.head _))))
  simp only at h1 h2
  subst h1 h2
  have hiu : i = ((i.toNat : Nat) : Int) := by omega
  have hlen : (digs i).length = Lib.nDigits i.toNat := by unfold digs; rw [List.length_map, Lib.decDigits_length]
  have hwalk := Go.Proofs.EscApp.appU i.toNat (by omega) (by omega) v0 w (hT g w hL) (fun e w' => ∃ v g', e = .returned v ∧ SR g' w' 0 fr (fun _ => false) ⟨fun _ => .undef, fun _ => [], m⟩ #[] [(.slice true 1 (xs ++ digs i), v)] ∧
      Ext fr m.length g w g' w' ∧ m.length ≤ m.length ∧ (∀ x, (V.slice true 1 (xs ++ digs i)).root? ≠ some x) ∧ ∀ j o, V.slice true 1 (xs ++ digs i) ≠ .loc j o)
  rw [← hiu] at hwalk
  refine hwalk fun W2 hB hc => ?_
  have h5 : ∀ c, c < w.heap.size → Same w W2 c := fun c hc => hB.block c hc
  have hnd : 0 < Lib.nDigits i.toNat := by rw [← Lib.decDigits_length]; exact hnum.1
  have hlt : w.heap.size < W2.heap.size := (Go.Proofs.YtggbcchebiedjaaDoor.Am.cell_block (hc 0 hnd)).1
  have hW := (hS.take1).world hB.size h5
  have h0 : total g W2 0 fr ⟨fun _ => .undef, fun _ => [], m⟩ #[] [(x, v0)] w.heap.size = 0 := by
    rw [hS.take1.total_world h5]
    exact hS.take1.out _ (Nat.le_refl _)
  have hP := hW.alsoPers h0 hlt
  have hd0 : 0 < (digs i).length := by rw [hlen]; exact hnd
  have hRB : RB (g.also w.heap.size).pers W2 (.slice false 1 (digs i)) (.slice (some ⟨w.heap.size, 0, none⟩) (Lib.nDigits i.toNat) 24) := by
    rw [RB.slice_iff]
    refine ⟨⟨w.heap.size, 0, none⟩, 24, by rw [hlen], fun _ => rfl, fun _ => .inr rfl, by rw [hlen, ← Lib.decDigits_length]; omega, fun k hk => ?_, fun k j hk hj => ?_⟩
    · unfold digs at hk ⊢
      rw [List.getD_eq_getElem?_getD, List.getElem?_eq_getElem hk, Option.getD_some, List.getElem_map]; rfl
    · obtain rfl : j = 0 := by omega
      have hk2 : k < Lib.nDigits i.toNat := by rw [← hlen]; exact hk
      refine ⟨.int .u8 (((Lib.decDigits i.toNat).getD k 0).toNat : Int), ?_, ?_⟩
      · show W2.cell? ⟨w.heap.size, 0 + (k * 1 + 0), none⟩ = _
        rw [show 0 + (k * 1 + 0) = k by omega]
        exact hc k hk2
      · unfold digs at hk ⊢
        rw [List.length_map] at hk
        rw [List.getD_eq_getElem?_getD (l := (Lib.decDigits i.toNat)), List.getElem?_eq_getElem hk, Option.getD_some]
        simp only [List.getD_eq_getElem?_getD, List.getElem?_map, List.getElem?_eq_getElem hk]
        exact .int _ _
  have hA := hP.also (y := .slice false 1 (digs i)) (v := .slice (some ⟨w.heap.size, 0, none⟩) (Lib.nDigits i.toNat) 24) hRB rfl (fun d => by simp [V.root?])
  obtain ⟨inf, hi5, hs5, hb5⟩ : ∃ inf, Tryd.prog.info? 5 = some inf ∧ inf.size = 1 ∧ inf.bytes = 1 := by
    have h : (Tryd.prog.info? 5).map (fun i => (i.size, i.bytes)) = some (1, 1) := by kernel_rfl
    rw [Option.map_eq_some_iff] at h
    obtain ⟨i, h1, h2⟩ := h
    simp only [Prod.mk.injEq] at h2
    exact ⟨i, h1, h2.1, h2.2⟩
  have hz5 : zeroOf Tryd.prog 5 = some [.int .u8 0] := by kernel_rfl
  have u22 : Tryd.prog.underlying 22 = some (.slice 5) := by kernel_rfl
  have hL2 : Laid Tryd.prog (g.also w.heap.size) W2 := hL.mono fun c hc => ⟨.inl hc, h5 c (hS.pers_lt hc)⟩
  have hokd : (V.slice false 1 (digs i)).okArg = true := by simp [V.okArg, V.ok0, digs]
  have hokx : x.okArg = true := List.all_eq_true.1 hok x (.head _)
  have happ := append_call (P := Tryd.prog) (t := 22) (u := 22) (e := 5) (inf := inf) (x := x) (y := .slice false 1 (digs i)) (xs := xs) (ys := digs i) (v0 := v0) (v1 := .slice (some ⟨w.heap.size, 0, none⟩) (Lib.nDigits i.toNat) 24)
    u22 hi5 hz5 (by rw [hs5]; rfl) (by omega) (by omega) (.inl ⟨5, u22⟩) hL2 (by rw [hs5]; rcases hx with ⟨a, b⟩ | a; exact .inl ⟨a, b, hd0⟩; exact .inr a) (by rw [hlen, ← Lib.decDigits_length]; omega) rfl (fun st => by rw [hs5]; rfl)
    (by simp only [List.all_cons, hokx, hokd, List.all_nil]; rfl) (by rw [hs5]; exact hokr) hA
  rw [hs5] at happ
  obtain ⟨v, w', g', r1, r2, r3⟩ := happ
  refine ⟨v, w', r1, v, g', rfl, r2, ?_, Nat.le_refl _, fun x => by simp [V.root?], fun j o => by simp⟩
  exact ⟨r3.os.trans hB.os, r3.tape.trans hB.tape, r3.output.trans hB.output, Nat.le_trans hB.size r3.size, fun c hc => ⟨(r3.pers c (.inl hc)).1, Eq.trans (r3.pers c (.inl hc)).2 (h5 c (hS.pers_lt hc))⟩,
    fun c hc => Eq.trans (r3.frame c hc) (h5 c (hS.fr_lt hc)), r3.mb⟩
theorem appU0_calls {x : V} {xs : List (List V)} {i : Int} (hi : 0 ≤ i ∧ i < 100) (hx : (x = .nils ∧ xs = []) ∨ x = .slice true 1 xs) (hm : xs.length + 20 ≤ most) (hnum : 0 < (Lib.decDigits i.toNat).length ∧ (Lib.decDigits i.toNat).length ≤ 20) (hokr : okRet (.slice true 1 (xs ++ digs i)) = true)
    (m : List (List V)) : CallOK Tryd.prog 37 [x, .int .u64 i, .int .i64 10] m (.slice true 1 (xs ++ digs i)) m := by
  intro g w fr vs hsz hok hL hS
  obtain ⟨v0, v1, v2, rfl⟩ : ∃ v0 v1 v2, vs = #[v0, v1, v2] := by
    have : vs.size = 3 := hsz
    refine ⟨vs[0], vs[1], vs[2], ?_⟩
    apply Array.ext
    · simpa using this
    · intro i h1 h2
      have : i = 0 ∨ i = 1 ∨ i = 2 := by omega
      rcases this with rfl | rfl | rfl <;> rfl
  have hS : SR g w 0 fr (fun _ => false) ⟨fun _ => .undef, fun _ => [], m⟩ #[] [(x, v0), (.int .u64 i, v1), (.int .i64 10, v2)] := hS
  have h1 := R3.int (hS.pend _ (.tail _ (.head _)))
  have h2 := R3.int (hS.pend _ (.tail _ (.tail _ (.head _))))
  simp only at h1 h2
  subst h1 h2
  have hiu : i = ((i.toNat : Nat) : Int) := by omega
  have hlen : (digs i).length = (Lib.decDigits i.toNat).length := by unfold digs; rw [List.length_map]
  have hwalk := Go.Proofs.EscApp.appU0 i.toNat (by omega) v0 w (fun e w' => ∃ v g', e = .returned v ∧ SR g' w' 0 fr (fun _ => false) ⟨fun _ => .undef, fun _ => [], m⟩ #[] [(.slice true 1 (xs ++ digs i), v)] ∧
      Ext fr m.length g w g' w' ∧ m.length ≤ m.length ∧ (∀ x, (V.slice true 1 (xs ++ digs i)).root? ≠ some x) ∧ ∀ j o, V.slice true 1 (xs ++ digs i) ≠ .loc j o)
  rw [← hiu] at hwalk
  refine hwalk ?_
  have hRB : RB g.pers w (.str (Lib.decDigits i.toNat)) (.string ⟨(Lib.decDigits i.toNat).toArray⟩) := by
    have := RB.str (p := g.pers) (w := w) ⟨(Lib.decDigits i.toNat).toArray⟩
    simpa using this
  have hA := hS.take1.also (y := .str (Lib.decDigits i.toNat)) (v := .string ⟨(Lib.decDigits i.toNat).toArray⟩) hRB rfl (fun d => by simp [V.root?])
  obtain ⟨inf, hi5, hs5, hb5⟩ : ∃ inf, Tryd.prog.info? 5 = some inf ∧ inf.size = 1 ∧ inf.bytes = 1 := by
    have h : (Tryd.prog.info? 5).map (fun i => (i.size, i.bytes)) = some (1, 1) := by kernel_rfl
    rw [Option.map_eq_some_iff] at h
    obtain ⟨i, h1, h2⟩ := h
    simp only [Prod.mk.injEq] at h2
    exact ⟨i, h1, h2.1, h2.2⟩
  have hz5 : zeroOf Tryd.prog 5 = some [.int .u8 0] := by kernel_rfl
  have u22 : Tryd.prog.underlying 22 = some (.slice 5) := by kernel_rfl
  have u9 : Tryd.prog.underlying 9 = some .string := by kernel_rfl
  have hokx : x.okArg = true := List.all_eq_true.1 hok x (.head _)
  have happ := append_call (P := Tryd.prog) (t := 22) (u := 9) (e := 5) (inf := inf) (x := x) (y := .str (Lib.decDigits i.toNat)) (xs := xs) (ys := digs i) (v0 := v0) (v1 := .string ⟨(Lib.decDigits i.toNat).toArray⟩)
    u22 hi5 hz5 (by rw [hs5]; rfl) (by omega) (by omega) (.inr u9) hL (by rw [hs5]; rcases hx with ⟨a, b⟩ | a; exact .inl ⟨a, b, by omega⟩; exact .inr a) (by omega) rfl (fun st => by rw [hs5]; rfl)
    (by simp only [List.all_cons, hokx, List.all_nil]; rfl) (by rw [hs5]; exact hokr) hA
  rw [hs5] at happ
  obtain ⟨v, w', g', r1, r2, r3⟩ := happ
  exact ⟨v, w', r1, v, g', rfl, r2, r3, Nat.le_refl _, fun x => by simp [V.root?], fun j o => by simp⟩
theorem tab_is (g : G) (w : World) (h : Laid Tryd.prog g w) : Lib.TabIs Tryd.prog w "internal/strconv.uint64pow10" .u64 Lib.pow10Tab :=
  (h.2 (0, "internal/strconv.uint64pow10", IntKind.u64, Lib.pow10Tab) (.head _)).2.2
theorem app_calls {x : V} {xs : List (List V)} {i : Int} (hx : (x = .nils ∧ xs = []) ∨ x = .slice true 1 xs) (hi : 0 ≤ i ∧ i < 18446744073709551616) (hm : xs.length + 20 ≤ most) (m : List (List V)) :
    CallOK Tryd.prog 37 [x, .int .u64 i, .int .i64 10] m (.slice true 1 (xs ++ digs i)) m := by
  have hnum : 0 < (Lib.decDigits i.toNat).length ∧ (Lib.decDigits i.toNat).length ≤ 20 := by
    rw [Lib.decDigits_length]
    exact ⟨Lib.nDigits_pos _, Lib.nDigits_le20 _ (by omega)⟩
  by_cases h : i < 100
  · exact appU0_calls ⟨hi.1, h⟩ hx hm hnum rfl m
  · exact appU_calls ⟨by omega, hi.2⟩ hx hm hnum rfl tab_is m
end Go.Proofs.YtggbcchebiedjaaDoor.Am.Esc

namespace Go.Proofs.YtggbcchebiedjaaDoor.Am.Esc
open Go.Proofs.EscRep
set_option linter.all false
theorem rep_calls {r k : Int} (hk : 0 ≤ k ∧ k ≤ 3) (m : List (List V)) : CallOK Go.Proofs.Tryd.prog 31 [.slice false 1 [[.int .i32 r]], .int .i64 k] m (.slice true 1 (List.replicate k.toNat [.int .i32 r])) m := by
  intro g w fr vs hsz hok _ hS
  obtain ⟨v0, v1, rfl⟩ : ∃ v0 v1, vs = #[v0, v1] := by
    have : vs.size = 2 := hsz
    refine ⟨vs[0], vs[1], ?_⟩
    apply Array.ext
    · simpa using this
    · intro i h1 h2
      have : i = 0 ∨ i = 1 := by omega
      rcases this with rfl | rfl <;> rfl
  have hS : SR g w 0 fr (fun _ => false) ⟨fun _ => .undef, fun _ => [], m⟩ #[] [(.slice false 1 [[.int .i32 r]], v0), (.int .i64 k, v1)] := hS
  have h1 := R3.int (hS.pend _ (.tail _ (.head _)))
  simp only at h1
  subst h1
  have hr : RB g.pers w (.slice false 1 [[.int .i32 r]]) v0 := hS.pend _ (.head _)
  rw [RB.slice_iff] at hr
  obtain ⟨a, cap, rfl, hs, hp, hc, hz, he⟩ := hr
  have hc : 1 ≤ cap := hc
  obtain ⟨v, hv, hR⟩ := he 0 0 (by simp) (by omega)
  have hR : RB g.pers w (.int .i32 r) v := hR
  cases hR
  have hcell : w.cell? ⟨a.block, a.off, none⟩ = some (.int .i32 r) := by simpa using hv
  have fin : ∀ (n : Nat) (r' : Int) (hr' : n = 0 ∨ r' = r) (e : Ending) (w' : World), (e = .returned (.slice (some ⟨w.heap.size, 0, none⟩) n n) ∧ w'.heap[w.heap.size]? = some (.cells (repL r' n n).toArray 21 (0, 0)) ∧ RowKit.Below w.heap.size w w') →
      ∃ v g', e = .returned v ∧ SR g' w' 0 fr (fun _ => false) ⟨fun _ => .undef, fun _ => [], m⟩ #[] [(.slice true 1 (List.replicate n [.int .i32 r]), v)] ∧ Ext fr m.length g w g' w' ∧ m.length ≤ m.length ∧ (∀ x, (V.slice true 1 (List.replicate n [.int .i32 r])).root? ≠ some x) ∧ ∀ j o, V.slice true 1 (List.replicate n [.int .i32 r]) ≠ .loc j o := by
    rintro n r' hr' e w' ⟨rfl, hh, hB⟩
    have h5 : ∀ c, c < w.heap.size → Same w w' c := fun c hc => hB.block c hc
    have hD := (hS.world hB.size h5).drop.drop
    refine ⟨_, g, rfl, ?_, ⟨hB.os, hB.tape, hB.output, hB.size, fun c hc => ⟨hc, h5 c (hS.pers_lt hc)⟩, fun c hc => h5 c (hS.fr_lt hc), fun _ _ => rfl⟩, Nat.le_refl _, fun x => by simp [V.root?], fun j o => by simp⟩
    have hlt : w.heap.size < w'.heap.size := (Array.getElem?_eq_some_iff.1 hh).1
    have hlen : (List.replicate n [V.int .i32 r]).length = n := by simp
    have hx : OwnS g.pers w' 1 (List.replicate n [V.int .i32 r]) (.slice (some ⟨w.heap.size, 0, none⟩) n n) := by
      refine ⟨⟨w.heap.size, 0, none⟩, n, (repL r' n n).toArray, 21, by rw [hlen], rfl, by rw [hlen]; exact Nat.le_refl _, ⟨_, hh, fun k _ h => by omega, Nat.le_refl _⟩, by simp [repL], fun i hi => ?_, fun i k hi hk => ?_⟩
      · have hi' : i < n := by simpa using hi
        simp [List.getD_eq_getElem?_getD, hi']
      · have hi' : i < n := by simpa using hi
        have hk0 : k = 0 := by omega
        subst hk0
        have hrr : r' = r := by rcases hr' with h | h; omega; exact h
        subst hrr
        refine ⟨.int .i32 r', ?_, by simp only [List.getD_eq_getElem?_getD, List.getElem?_replicate, hi', if_true, Option.getD_some]; exact .int _ _⟩
        simp [World.cell?, hh, repL, hi']
    refine hD.newOwn ?_ hlt hx
    rw [hS.drop.drop.total_world h5]
    exact hS.drop.drop.out _ (Nat.le_refl _)
  have hpl : a.spot = none ∧ a.block < w.heap.size := ⟨hs (by omega), hS.pers_lt (hp (by omega))⟩
  have hcase : k = 0 ∨ k = 1 ∨ k = 2 ∨ k = 3 := by omega
  rcases hcase with rfl | rfl | rfl | rfl
  · exact (rep0 w a cap).mono (fin 0 0 (.inl rfl))
  · exact (rep1 w a cap hc hpl.1 hpl.2 r hcell).mono (fin 1 r (.inr rfl))
  · exact (rep2 w a cap hc hpl.1 hpl.2 r hcell).mono (fin 2 r (.inr rfl))
  · exact (rep3 w a cap hc hpl.1 hpl.2 r hcell).mono (fin 3 r (.inr rfl))
theorem good_rep : Good Go.Proofs.Tryd.prog repX := by
  intro f args m r m' h
  unfold repX at h
  split at h
  · split at h
    · rename_i hc
      simp only [Option.some.injEq, Prod.mk.injEq] at h
      obtain ⟨rfl, rfl⟩ := h
      exact ⟨⟨_, Go.Proofs.Tryd.func31, rfl, rfl⟩, rep_calls hc m⟩
    · cases h
  · split at h
    · rename_i hc
      simp only [Option.some.injEq, Prod.mk.injEq] at h
      obtain ⟨rfl, rfl⟩ := h
      exact ⟨⟨_, Go.Proofs.Tryd.func37, rfl, rfl⟩, app_calls (.inr rfl) hc.1 hc.2 m⟩
    · cases h
  · split at h
    · rename_i hc
      simp only [Option.some.injEq, Prod.mk.injEq] at h
      obtain ⟨rfl, rfl⟩ := h
      exact ⟨⟨_, Go.Proofs.Tryd.func37, rfl, rfl⟩, app_calls (xs := []) (.inl ⟨rfl, rfl⟩) hc (by decide) m⟩
    · cases h
  · cases h
theorem ET_ok : TableOK Go.Proofs.Tryd.prog ET := tableOf_ok codes_ok good_rep
end Go.Proofs.YtggbcchebiedjaaDoor.Am.Esc

namespace Go.Proofs.YtggbcchebiedjaaDoor.Am.T
open Go.Proofs.YtggbcchebiedjaaDoor.Am
inductive TV where
  | undef
  | bool (b : Bool)
  | int (k : IntKind) (n : Int)
  | str (s : List Int)
  | nilp
  | ptr (b off : Nat)
  | loc (j off : Nat)
  | ro (cells : List TV) (off : Nat)
  | el (r : Root) (sz i k : Nat)
  | place (r : Root)
  | nils
  | sl (own : Bool) (sz : Nat) (xs : List (List TV))
  | agg (cells : List TV)
  | tuple (vs : List TV)
  | func (f : Nat) (captured : List TV)
  | nilf
  | nili
  deriving Inhabited
inductive Pw {α β : Type} (R : α → β → Prop) : List α → List β → Prop
  | nil : Pw R [] []
  | cons {a b l l'} (h : R a b) (t : Pw R l l') : Pw R (a :: l) (b :: l')
def byteI (b : UInt8) : Int := b.toNat
inductive Den0 : TV → V → Prop
  | undef (v : V) : Den0 .undef v
  | bool (b : Bool) : Den0 (.bool b) (.bool b)
  | int (k : IntKind) (n : Int) : Den0 (.int k n) (.int k n)
  | str (s : List UInt8) : Den0 (.str (s.map byteI)) (.str s)
  | nilp : Den0 .nilp .nilp
  | nils : Den0 .nils .nils
  | sl (own : Bool) (sz : Nat) {xs ys} (h : Pw (Pw Den0) xs ys) : Den0 (.sl own sz xs) (.slice own sz ys)
  | sln (own : Bool) (sz : Nat) : Den0 (.sl own sz []) .nils
  | func (f : Nat) : Den0 (.func f []) (.func f [])
  | nilf : Den0 .nilf .nilf
  | nili : Den0 .nili .nili
inductive RootR (ρ : List Nat) : Root → Root → Prop
  | mem {i b : Nat} (o : Nat) (h : ρ[i]? = some b) : RootR ρ (.mem i o) (.mem b o)
  | loc (j o : Nat) : RootR ρ (.loc j o) (.loc j o)
  | tmp (s : Nat) : RootR ρ (.tmp s) (.tmp s)
inductive Den (ρ : List Nat) : TV → V → Prop
  | base {t v} (h : Den0 t v) : Den ρ t v
  | ptr {i b : Nat} (o : Nat) (h : ρ[i]? = some b) : Den ρ (.ptr i o) (.ptr b o)
  | loc (j o : Nat) : Den ρ (.loc j o) (.loc j o)
  | ro {cs cs'} (o : Nat) (h : Pw (Den ρ) cs cs') : Den ρ (.ro cs o) (.ro cs' o)
  | el {r r'} (sz i k : Nat) (h : RootR ρ r r') : Den ρ (.el r sz i k) (.el r' sz i k)
  | place {r r'} (h : RootR ρ r r') : Den ρ (.place r) (.place r')
  | agg {cs cs'} (h : Pw (Den ρ) cs cs') : Den ρ (.agg cs) (.agg cs')
  | tuple {cs cs'} (h : Pw (Den ρ) cs cs') : Den ρ (.tuple cs) (.tuple cs')
  | func (f : Nat) {cs cs'} (h : Pw (Den ρ) cs cs') : Den ρ (.func f cs) (.func f cs')
section pw
variable {α β γ : Type} {R : α → β → Prop}
theorem Pw.length {l : List α} {l' : List β} (h : Pw R l l') : l.length = l'.length := by
  induction h with
  | nil => rfl
  | cons _ _ ih => simp [ih]
theorem Pw.get {l : List α} {l' : List β} (h : Pw R l l') : ∀ {i : Nat} {x : α}, l[i]? = some x → ∃ y, l'[i]? = some y ∧ R x y := by
  induction h with
  | nil => intro i x hx; simp at hx
  | cons hr _ ih =>
    intro i x hx
    cases i with
    | zero => simp only [List.getElem?_cons_zero, Option.some.injEq] at hx; subst hx; exact ⟨_, rfl, hr⟩
    | succ i => simp only [List.getElem?_cons_succ] at hx; exact ih hx
theorem Pw.append {l m : List α} {l' m' : List β} (h : Pw R l l') (g : Pw R m m') : Pw R (l ++ m) (l' ++ m') := by
  induction h with
  | nil => exact g
  | cons hr _ ih => exact .cons hr ih
theorem Pw.drop {l : List α} {l' : List β} (h : Pw R l l') : ∀ n, Pw R (l.drop n) (l'.drop n) := by
  induction h with
  | nil => intro n; simpa using Pw.nil
  | cons hr t ih =>
    intro n
    cases n with
    | zero => exact .cons hr t
    | succ n => exact ih n
theorem Pw.take {l : List α} {l' : List β} (h : Pw R l l') : ∀ n, Pw R (l.take n) (l'.take n) := by
  induction h with
  | nil => intro n; simpa using Pw.nil
  | cons hr t ih =>
    intro n
    cases n with
    | zero => exact .nil
    | succ n => exact .cons hr (ih n)
theorem Pw.set {l : List α} {l' : List β} (h : Pw R l l') {x : α} {y : β} (hxy : R x y) : ∀ n, Pw R (l.set n x) (l'.set n y) := by
  induction h with
  | nil => intro n; simpa using Pw.nil
  | cons hr t ih =>
    intro n
    cases n with
    | zero => exact .cons hxy t
    | succ n => exact .cons hr (ih n)
theorem Pw.mono {R' : α → β → Prop} (hm : ∀ x y, R x y → R' x y) {l : List α} {l' : List β} (h : Pw R l l') : Pw R' l l' := by
  induction h with
  | nil => exact .nil
  | cons hr _ ih => exact .cons (hm _ _ hr) ih
theorem Pw.maps {α' β' : Type} {R' : α' → β' → Prop} {f : α → α'} {g : β → β'} (hm : ∀ x y, R x y → R' (f x) (g y)) {l : List α} {l' : List β} (h : Pw R l l') : Pw R' (l.map f) (l'.map g) := by
  induction h with
  | nil => exact .nil
  | cons hr _ ih => exact .cons (hm _ _ hr) ih
theorem Pw.replicate {x : α} {y : β} (h : R x y) : ∀ n, Pw R (List.replicate n x) (List.replicate n y)
  | 0 => .nil
  | n + 1 => .cons h (Pw.replicate h n)
theorem Pw.all {p : α → Bool} {q : β → Bool} (hm : ∀ x y, R x y → p x = true → q y = true) {l : List α} {l' : List β} (h : Pw R l l') (ha : l.all p = true) : l'.all q = true := by
  induction h with
  | nil => rfl
  | cons hr _ ih =>
    simp only [List.all_cons, Bool.and_eq_true] at ha ⊢
    exact ⟨hm _ _ hr ha.1, ih ha.2⟩
theorem Pw.any {p : α → Bool} {q : β → Bool} (hm : ∀ x y, R x y → p x = false → q y = false) {l : List α} {l' : List β} (h : Pw R l l') (ha : l.any p = false) : l'.any q = false := by
  induction h with
  | nil => rfl
  | cons hr _ ih =>
    simp only [List.any_cons, Bool.or_eq_false_iff] at ha ⊢
    exact ⟨hm _ _ hr ha.1, ih ha.2⟩
end pw
theorem Den.mono {ρ : List Nat} (e : List Nat) {t : TV} {v : V} (h : Den ρ t v) : Den (ρ ++ e) t v := by
  have key : ∀ {i b : Nat}, ρ[i]? = some b → (ρ ++ e)[i]? = some b := fun {i b} h => by
    rw [List.getElem?_append_left (lt_of_get h)]; exact h
  have rt : ∀ {r r'}, RootR ρ r r' → RootR (ρ ++ e) r r' := fun h => by
    cases h with
    | mem o h => exact .mem o (key h)
    | loc j o => exact .loc j o
    | tmp s => exact .tmp s
  refine Den.rec (motive_1 := fun t v _ => Den (ρ ++ e) t v) (motive_2 := fun l l' _ => Pw (Den (ρ ++ e)) l l') ?_ ?_ ?_ ?_ ?_ ?_ ?_ ?_ ?_ ?_ ?_ h
  · intro t v h; exact .base h
  · intro i b o h; exact .ptr o (key h)
  · intro j o; exact .loc j o
  · intro cs cs' o _ h; exact .ro o h
  · intro r r' sz i k h; exact .el sz i k (rt h)
  · intro r r' h; exact .place (rt h)
  · intro cs cs' _ h; exact .agg h
  · intro cs cs' _ h; exact .tuple h
  · intro f cs cs' _ h; exact .func f h
  · exact .nil
  · intro a b l l' _ _ h1 h2; exact .cons h1 h2
section tv
def TV.cells : TV → List TV
  | .agg cs => cs
  | v => [v]
def TV.own0 : TV → Bool
  | .sl true _ _ => true
  | .undef => true
  | _ => false
def TV.own1 : TV → Bool
  | .agg cs => cs.any TV.own0
  | v => v.own0
def TV.hasOwn : TV → Bool
  | .tuple vs => vs.any TV.own1
  | v => v.own1
def TV.share0 : TV → TV
  | .sl _ sz xs => .sl false sz xs
  | v => v
def TV.share : TV → TV
  | .agg cs => .agg (cs.map TV.share0)
  | v => v.share0
def TV.good : TV → Bool
  | .bool _ | .int _ _ | .str _ | .nilp | .nils | .sl false _ _ | .nilf | .nili => true
  | .func _ cs => cs.isEmpty
  | _ => false
def TV.left : TV → TV
  | .sl true _ _ => .undef
  | v => v
def TV.low0 : TV → Bool
  | .bool _ | .int _ _ | .str _ | .nilp | .nils | .sl _ _ _ | .nilf | .nili => true
  | .func _ cs => cs.isEmpty
  | _ => false
def TV.low1 : TV → Bool
  | .agg cs => cs.all TV.low0
  | v => v.low0
def TV.low2 : TV → Bool
  | .tuple vs => vs.all TV.low1
  | v => v.low1
def okCapT : TV → Bool
  | .ptr _ _ => true
  | _ => false
def TV.ok0 : TV → Bool
  | .bool _ | .int _ _ | .str _ | .nilp | .ptr _ _ | .nils | .sl _ _ _ | .nilf | .nili => true
  | .func _ cs => cs.all okCapT
  | _ => false
def TV.ok1 : TV → Bool
  | .agg cs => cs.all TV.ok0
  | v => v.ok0
def TV.okArg : TV → Bool
  | .agg cs => cs.all TV.ok0
  | .place (.mem _ _) | .el (.mem _ _) _ _ _ => true
  | v => v.ok0
def rootOkT (lean : Bool) : TV → Bool
  | .place (.tmp _) | .el (.tmp _) _ _ _ => false
  | .place _ | .el _ _ _ _ => !lean
  | .undef => false
  | _ => true
def killV : TV → TV
  | .place (.mem _ _) | .place (.loc _ _) | .el (.mem _ _) _ _ _ | .el (.loc _ _) _ _ _ => .undef
  | v => v
def killMV : TV → TV
  | .place (.mem _ _) | .el (.mem _ _) _ _ _ => .undef
  | v => v
def killTV (d : Nat) : TV → TV
  | .place (.tmp s) => bif Nat.beq s d then .undef else .place (.tmp s)
  | .el (.tmp s) z i k => bif Nat.beq s d then .undef else .el (.tmp s) z i k
  | v => v
def killLV (j : Nat) : TV → TV
  | .loc j' o => bif Nat.beq j' j then .undef else .loc j' o
  | .place (.loc j' o) => bif Nat.beq j' j then .undef else .place (.loc j' o)
  | .el (.loc j' o) z i k => bif Nat.beq j' j then .undef else .el (.loc j' o) z i k
  | v => v
def selfPlaceT (d : Option Nat) : TV → Bool
  | .place (.tmp s) => d == some s
  | .el (.tmp s) _ _ _ => d == some s
  | _ => false
variable {ρ : List Nat} {t : TV} {v : V}
theorem Den.undef' (v : V) : Den ρ .undef v := .base (.undef v)
theorem Den.cells (h : Den ρ t v) (ho : t.ok1 = true) : Pw (Den ρ) t.cells v.cells := by
  cases h with
  | agg h => exact h
  | base h0 =>
    have hh := Den.base (ρ := ρ) h0
    cases h0 with
    | undef v => cases ho
    | _ => exact .cons hh .nil
  | ptr o h => exact .cons (.ptr o h) .nil
  | loc j o => exact .cons (.loc j o) .nil
  | ro o h => exact .cons (.ro o h) .nil
  | el sz i k h => exact .cons (.el sz i k h) .nil
  | place h => exact .cons (.place h) .nil
  | tuple h => exact .cons (.tuple h) .nil
  | func f h => exact .cons (.func f h) .nil
theorem Den.own0 (h : Den ρ t v) (ho : t.own0 = false) : v.own0 = false := by
  cases h with
  | base h0 =>
    cases h0 with
    | undef v => cases ho
    | sl own sz _ => cases own <;> first | rfl | cases ho
    | _ => rfl
  | _ => rfl
theorem Den.own1 (h : Den ρ t v) (ho : t.own1 = false) : v.own1 = false := by
  cases h with
  | agg h => exact Pw.any (p := TV.own0) (q := V.own0) (fun _ _ h ho => Den.own0 h ho) h ho
  | base h0 =>
    cases h0 with
    | undef v => cases ho
    | sl own sz _ => cases own <;> first | rfl | cases ho
    | _ => rfl
  | _ => rfl
theorem Den.hasOwn (h : Den ρ t v) (ho : t.hasOwn = false) : v.hasOwn = false := by
  cases h with
  | tuple h => exact Pw.any (p := TV.own1) (q := V.own1) (fun _ _ h ho => Den.own1 h ho) h ho
  | agg h => exact (Den.agg h).own1 ho
  | base h0 =>
    cases h0 with
    | undef v => cases ho
    | sl own sz _ => cases own <;> first | rfl | cases ho
    | _ => rfl
  | _ => rfl
theorem Den.share0 (h : Den ρ t v) : Den ρ t.share0 v.share0 := by
  cases h with
  | base h0 =>
    cases h0 with
    | undef v => exact .undef' _
    | sl own sz h => exact .base (.sl false sz h)
    | sln own sz => exact .base (.sln false sz)
    | bool b => exact .base (.bool b)
    | int k n => exact .base (.int k n)
    | str s => exact .base (.str s)
    | nilp => exact .base .nilp
    | nils => exact .base .nils
    | func f => exact .base (.func f)
    | nilf => exact .base .nilf
    | nili => exact .base .nili
  | ptr o h => exact .ptr o h
  | loc j o => exact .loc j o
  | ro o h => exact .ro o h
  | el sz i k h => exact .el sz i k h
  | place h => exact .place h
  | tuple h => exact .tuple h
  | func f h => exact .func f h
  | agg h => exact .agg h
theorem Den.share (h : Den ρ t v) : Den ρ t.share v.share := by
  cases h with
  | agg h => exact .agg (Pw.maps (f := TV.share0) (g := V.share0) (fun _ _ h => Den.share0 h) h)
  | base h0 =>
    cases h0 with
    | undef v => exact .undef' _
    | sl own sz h => exact .base (.sl false sz h)
    | sln own sz => exact .base (.sln false sz)
    | bool b => exact .base (.bool b)
    | int k n => exact .base (.int k n)
    | str s => exact .base (.str s)
    | nilp => exact .base .nilp
    | nils => exact .base .nils
    | func f => exact .base (.func f)
    | nilf => exact .base .nilf
    | nili => exact .base .nili
  | ptr o h => exact .ptr o h
  | loc j o => exact .loc j o
  | ro o h => exact .ro o h
  | el sz i k h => exact .el sz i k h
  | place h => exact .place h
  | tuple h => exact .tuple h
  | func f h => exact .func f h
theorem Den.left (h : Den ρ t v) : Den ρ t.left v.left := by
  cases h with
  | base h0 =>
    cases h0 with
    | undef v => exact .undef' _
    | sl own sz h => cases own with
      | true => exact .undef' _
      | false => exact .base (.sl false sz h)
    | sln own sz => cases own with
      | true => exact .undef' _
      | false => exact .base (.sln false sz)
    | bool b => exact .base (.bool b)
    | int k n => exact .base (.int k n)
    | str s => exact .base (.str s)
    | nilp => exact .base .nilp
    | nils => exact .base .nils
    | func f => exact .base (.func f)
    | nilf => exact .base .nilf
    | nili => exact .base .nili
  | ptr o h => exact .ptr o h
  | loc j o => exact .loc j o
  | ro o h => exact .ro o h
  | el sz i k h => exact .el sz i k h
  | place h => exact .place h
  | tuple h => exact .tuple h
  | func f h => exact .func f h
  | agg h => exact .agg h
theorem Den0.good (h : Den0 t v) (hg : t.good = true) : v.good = true := by
  cases h with
  | undef v => cases hg
  | sl own sz _ => cases own <;> first | rfl | cases hg
  | func f => rfl
  | _ => rfl
theorem Den.good (h : Den ρ t v) (hg : t.good = true) : Den0 t v ∧ v.good = true := by
  cases h with
  | base h0 => exact ⟨h0, h0.good hg⟩
  | func f h =>
    cases h with
    | nil => exact ⟨.func f, rfl⟩
    | cons _ _ => cases hg
  | _ => cases hg
theorem Den.okCap (h : Den ρ t v) (hg : okCapT t = true) : Am.okCap v = true := by
  cases h with
  | base h0 => cases h0 <;> cases hg
  | ptr o h => rfl
  | _ => cases hg
theorem Den.ok0 (h : Den ρ t v) (hg : t.ok0 = true) : v.ok0 = true := by
  cases h with
  | base h0 => cases h0 <;> first | rfl | cases hg
  | ptr o h => rfl
  | func f h => exact Pw.all (p := okCapT) (q := Am.okCap) (fun _ _ h ho => Den.okCap h ho) h hg
  | _ => cases hg
theorem Den.ok1 (h : Den ρ t v) (hg : t.ok1 = true) : v.ok1 = true := by
  cases h with
  | base h0 => cases h0 <;> first | rfl | cases hg
  | ptr o h => rfl
  | func f h => exact Pw.all (p := okCapT) (q := Am.okCap) (fun _ _ h ho => Den.okCap h ho) h hg
  | agg h => exact Pw.all (p := TV.ok0) (q := V.ok0) (fun _ _ h ho => Den.ok0 h ho) h hg
  | _ => cases hg
theorem Den.okArg (h : Den ρ t v) (hg : t.okArg = true) : v.okArg = true := by
  cases h with
  | base h0 => cases h0 <;> first | rfl | cases hg
  | ptr o h => rfl
  | func f h => exact Pw.all (p := okCapT) (q := Am.okCap) (fun _ _ h ho => Den.okCap h ho) h hg
  | agg h => exact Pw.all (p := TV.ok0) (q := V.ok0) (fun _ _ h ho => Den.ok0 h ho) h hg
  | place h => cases h <;> first | rfl | cases hg
  | el sz i k h => cases h <;> first | rfl | cases hg
  | _ => cases hg
theorem Den.rootOk {lean : Bool} (h : Den ρ t v) (hg : rootOkT lean t = true) : Am.rootOk lean v = true := by
  cases h with
  | base h0 => cases h0 <;> first | rfl | cases hg
  | place h => cases h <;> first | exact hg | rfl
  | el sz i k h => cases h <;> first | exact hg | rfl
  | _ => rfl
theorem Den.killV (h : Den ρ t v) : Den ρ (T.killV t) (Am.killV v) := by
  cases h with
  | base h0 => cases h0 with
    | undef v => exact .undef' _
    | _ => exact .base (by constructor <;> assumption)
  | place h => cases h with
    | tmp s => exact .place (.tmp s)
    | _ => exact .undef' _
  | el sz i k h => cases h with
    | tmp s => exact .el _ _ _ (.tmp s)
    | _ => exact .undef' _
  | ptr o h => exact .ptr o h
  | loc j o => exact .loc j o
  | ro o h => exact .ro o h
  | tuple h => exact .tuple h
  | func f h => exact .func f h
  | agg h => exact .agg h
theorem Den.killMV (h : Den ρ t v) : Den ρ (T.killMV t) (Am.killMV v) := by
  cases h with
  | base h0 => cases h0 with
    | undef v => exact .undef' _
    | _ => exact .base (by constructor <;> assumption)
  | place h => cases h with
    | tmp s => exact .place (.tmp s)
    | loc j o => exact .place (.loc j o)
    | mem o h => exact .undef' _
  | el sz i k h => cases h with
    | tmp s => exact .el _ _ _ (.tmp s)
    | loc j o => exact .el _ _ _ (.loc j o)
    | mem o h => exact .undef' _
  | ptr o h => exact .ptr o h
  | loc j o => exact .loc j o
  | ro o h => exact .ro o h
  | tuple h => exact .tuple h
  | func f h => exact .func f h
  | agg h => exact .agg h
theorem beq_if {α : Type} {a b : Nat} {x y : α} : (bif Nat.beq a b then x else y) = if a = b then x else y := by
  by_cases h : a = b
  · subst h; simp
  · have : Nat.beq a b = false := by
      cases hb : Nat.beq a b with
      | false => rfl
      | true => exact absurd (Nat.eq_of_beq_eq_true hb) h
    simp [h, this]
theorem Den.killTV (d : Nat) (h : Den ρ t v) : Den ρ (T.killTV d t) (Am.killTV d v) := by
  cases h with
  | base h0 => cases h0 with
    | undef v => exact .undef' _
    | _ => exact .base (by constructor <;> assumption)
  | place h => cases h with
    | tmp s =>
      show Den ρ (bif Nat.beq s d then .undef else .place (.tmp s)) (if s = d then .undef else .place (.tmp s))
      rw [beq_if]; split
      · exact .undef' _
      · exact .place (.tmp s)
    | loc j o => exact .place (.loc j o)
    | mem o h => exact .place (.mem o h)
  | el sz i k h => cases h with
    | tmp s =>
      show Den ρ (bif Nat.beq s d then .undef else .el (.tmp s) sz i k) (if s = d then .undef else .el (.tmp s) sz i k)
      rw [beq_if]; split
      · exact .undef' _
      · exact .el _ _ _ (.tmp s)
    | loc j o => exact .el _ _ _ (.loc j o)
    | mem o h => exact .el _ _ _ (.mem o h)
  | ptr o h => exact .ptr o h
  | loc j o => exact .loc j o
  | ro o h => exact .ro o h
  | tuple h => exact .tuple h
  | func f h => exact .func f h
  | agg h => exact .agg h
theorem Den.killLV (d : Nat) (h : Den ρ t v) : Den ρ (T.killLV d t) (Am.killLV d v) := by
  cases h with
  | base h0 => cases h0 with
    | undef v => exact .undef' _
    | _ => exact .base (by constructor <;> assumption)
  | place h => cases h with
    | loc j o =>
      show Den ρ (bif Nat.beq j d then .undef else .place (.loc j o)) (if j = d then .undef else .place (.loc j o))
      rw [beq_if]; split
      · exact .undef' _
      · exact .place (.loc j o)
    | tmp s => exact .place (.tmp s)
    | mem o h => exact .place (.mem o h)
  | el sz i k h => cases h with
    | loc j o =>
      show Den ρ (bif Nat.beq j d then .undef else .el (.loc j o) sz i k) (if j = d then .undef else .el (.loc j o) sz i k)
      rw [beq_if]; split
      · exact .undef' _
      · exact .el _ _ _ (.loc j o)
    | tmp s => exact .el _ _ _ (.tmp s)
    | mem o h => exact .el _ _ _ (.mem o h)
  | ptr o h => exact .ptr o h
  | loc j o =>
    show Den ρ (bif Nat.beq j d then .undef else .loc j o) (if j = d then .undef else .loc j o)
    rw [beq_if]; split
    · exact .undef' _
    · exact .loc j o
  | ro o h => exact .ro o h
  | tuple h => exact .tuple h
  | func f h => exact .func f h
  | agg h => exact .agg h
theorem Den.selfPlace {d : Option Nat} (h : Den ρ t v) (hu : t ≠ .undef) (hg : selfPlaceT d t = false) : Am.selfPlace d v = false := by
  cases h with
  | base h0 => cases h0 <;> first | rfl | exact absurd rfl hu
  | place h => cases h <;> first | exact hg | rfl
  | el sz i k h => cases h <;> first | exact hg | rfl
  | _ => rfl
theorem Den0.low (h : Den0 t v) (hg : t.low0 = true) : v.top = 0 := by
  cases h <;> first | rfl | cases hg
theorem Den.low (h : Den ρ t v) (hg : t.low0 = true) : v.top = 0 := by
  cases h with
  | base h0 => exact h0.low hg
  | func f h => cases h with
    | nil => rfl
    | cons _ _ => cases hg
  | _ => cases hg
theorem tops_low {cs : List TV} {cs' : List V} (h : Pw (Den ρ) cs cs') (hg : cs.all TV.low0 = true) : tops cs' = 0 := by
  induction h with
  | nil => rfl
  | cons hr _ ih =>
    simp only [List.all_cons, Bool.and_eq_true] at hg
    have e1 := hr.low hg.1
    have e2 := ih hg.2
    unfold tops at e2 ⊢
    simp only [List.foldr_cons, e1, e2]; rfl
theorem Den.low1 (h : Den ρ t v) (hg : t.low1 = true) : v.top1 = 0 := by
  cases h with
  | base h0 => cases h0 <;> first | rfl | cases hg
  | func f h => cases h with
    | nil => rfl
    | cons _ _ => cases hg
  | agg h => exact tops_low h hg
  | _ => cases hg
theorem Den.low2 (h : Den ρ t v) (hg : t.low2 = true) : v.top2 = 0 := by
  cases h with
  | base h0 => cases h0 <;> first | rfl | cases hg
  | func f h => cases h with
    | nil => rfl
    | cons _ _ => cases hg
  | agg h => exact tops_low h hg
  | tuple h =>
    show List.foldr (fun (v : V) (n : Nat) => max v.top1 n) 0 _ = 0
    have hg' : List.all _ TV.low1 = true := hg
    clear hg
    induction h with
    | nil => rfl
    | cons hr _ ih =>
      simp only [List.all_cons, Bool.and_eq_true] at hg'
      simp only [List.foldr_cons, hr.low1 hg'.1, ih hg'.2]; rfl
  | _ => cases hg
theorem Den.bool_inv {b : Bool} (h : Den ρ (.bool b) v) : v = .bool b := by
  cases h with
  | base h0 => cases h0; rfl
theorem Den.int_inv {k : IntKind} {n : Int} (h : Den ρ (.int k n) v) : v = .int k n := by
  cases h with
  | base h0 => cases h0; rfl
theorem Den.str_inv {s : List Int} (h : Den ρ (.str s) v) : ∃ b : List UInt8, v = .str b ∧ s = b.map byteI := by
  cases h with
  | base h0 => cases h0 with
    | str b => exact ⟨b, rfl, rfl⟩
theorem Den.agg_inv {cs : List TV} (h : Den ρ (.agg cs) v) : ∃ cs', v = .agg cs' ∧ Pw (Den ρ) cs cs' := by
  cases h with
  | base h0 => cases h0
  | agg h => exact ⟨_, rfl, h⟩
theorem Den.tuple_inv {cs : List TV} (h : Den ρ (.tuple cs) v) : ∃ cs', v = .tuple cs' ∧ Pw (Den ρ) cs cs' := by
  cases h with
  | base h0 => cases h0
  | tuple h => exact ⟨_, rfl, h⟩
theorem Den.ptr_inv {i o : Nat} (h : Den ρ (.ptr i o) v) : ∃ b, v = .ptr b o ∧ ρ[i]? = some b := by
  cases h with
  | base h0 => cases h0
  | ptr o h => exact ⟨_, rfl, h⟩
theorem Den.loc_inv {i o : Nat} (h : Den ρ (.loc i o) v) : v = .loc i o := by
  cases h with
  | base h0 => cases h0
  | loc j o => rfl
theorem Den.ro_inv {cs : List TV} {o : Nat} (h : Den ρ (.ro cs o) v) : ∃ cs', v = .ro cs' o ∧ Pw (Den ρ) cs cs' := by
  cases h with
  | base h0 => cases h0
  | ro o h => exact ⟨_, rfl, h⟩
theorem Den.el_inv {r : Root} {sz i k : Nat} (h : Den ρ (.el r sz i k) v) : ∃ r', v = .el r' sz i k ∧ RootR ρ r r' := by
  cases h with
  | base h0 => cases h0
  | el sz i k h => exact ⟨_, rfl, h⟩
theorem Den.place_inv {r : Root} (h : Den ρ (.place r) v) : ∃ r', v = .place r' ∧ RootR ρ r r' := by
  cases h with
  | base h0 => cases h0
  | place h => exact ⟨_, rfl, h⟩
theorem Den.func_inv {f : Nat} {cs : List TV} (h : Den ρ (.func f cs) v) : ∃ cs', v = .func f cs' ∧ Pw (Den ρ) cs cs' := by
  cases h with
  | base h0 => cases h0 with
    | func f => exact ⟨_, rfl, .nil⟩
  | func f h => exact ⟨_, rfl, h⟩
theorem Den.nils_inv (h : Den ρ .nils v) : v = .nils := by
  cases h with
  | base h0 => cases h0; rfl
theorem Den.nilp_inv (h : Den ρ .nilp v) : v = .nilp := by
  cases h with
  | base h0 => cases h0; rfl
theorem Den.nilf_inv (h : Den ρ .nilf v) : v = .nilf := by
  cases h with
  | base h0 => cases h0; rfl
theorem Den.sl_inv {own : Bool} {sz : Nat} {xs : List (List TV)} (h : Den ρ (.sl own sz xs) v) : (∃ ys, v = .slice own sz ys ∧ Pw (Pw Den0) xs ys) ∨ (v = .nils ∧ xs = []) := by
  cases h with
  | base h0 => cases h0 with
    | sl own sz h => exact .inl ⟨_, rfl, h⟩
    | sln own sz => exact .inr ⟨rfl, rfl⟩
theorem Pw.base {cs : List TV} {cs' : List V} (h : Pw Den0 cs cs') : Pw (Den ρ) cs cs' := h.mono fun _ _ h => .base h
end tv
end Go.Proofs.YtggbcchebiedjaaDoor.Am.T

namespace Go.Proofs.YtggbcchebiedjaaDoor.Am.T
open Go.Proofs.YtggbcchebiedjaaDoor.Am
abbrev Ts := List (Nat × TV)
abbrev Bs := List (Nat × List TV)
abbrev Ms := List (List TV)
def mapK (f : TV → TV) : Ts → (Ts → Prop) → Prop
  | [], k => k []
  | (s, v) :: r, k => mapK f r fun r' => k ((s, f v) :: r')
def rdP (v : TV) (p : Prop) : Prop :=
  match v with
  | .undef => False
  | .sl true _ _ => False
  | .agg cs => bif cs.any TV.own0 then False else p
  | .tuple vs => bif vs.any TV.own1 then False else p
  | _ => p
def rdV (v : TV) (k : TV → Prop) : Prop := rdP v (k v)
def cV0 : V → TV
  | .bool b => .bool b
  | .int k n => .int k n
  | .str s => .str (s.map byteI)
  | _ => .undef
def cV : V → TV
  | .slice false z xs => .sl false z (xs.map fun cs => cs.map cV0)
  | .bool b => .bool b
  | .int k n => .int k n
  | .str s => .str (s.map byteI)
  | .nilp => .nilp
  | .nils => .nils
  | .func f [] => .func f []
  | .nilf => .nilf
  | .nili => .nili
  | _ => .undef
inductive NilOk : TV → Prop
  | nils : NilOk .nils
  | sl (o : Bool) (z : Nat) : NilOk (.sl o z [])
def cK (v : V) (k : TV → Prop) : Prop :=
  match v with
  | .nils => ∃ t, NilOk t ∧ k t
  | v => k (cV v)
def zeroK : List V → (List TV → Prop) → Prop
  | [], k => k []
  | v :: r, k => cK v fun t => zeroK r fun ts => k (t :: ts)
def forceK {α : Type} : List α → (List α → Prop) → Prop
  | [], k => k []
  | x :: r, k => forceK r fun r' => k (x :: r')
def rdC (L : Ts) (o : Opd) (k : TV → Prop) : Prop :=
  match o with
  | .c v => k (cV v)
  | .t s => match fnd L s with
    | some v => rdV v k
    | none => False
  | .u s .peek => k (.place (.tmp s))
  | .u _ _ => False
def rd (L : Ts) (o : Opd) (k : TV → Ts → Prop) : Prop :=
  match o with
  | .c v => cK v fun t => k t L
  | .t s => match fnd L s with
    | some v => rdV v fun v => k v L
    | none => False
  | .u s .take => match fnd L s with
    | some v => k v ((s, .undef) :: L)
    | none => False
  | .u s .share => match fnd L s with
    | some v => k v.share ((s, .undef) :: L)
    | none => False
  | .u s .peek => k (.place (.tmp s)) L
  | .u s .copy => match fnd L s with
    | some v => rdV v fun v => k v L
    | none => False
def rds (L : Ts) : List Opd → (List TV → Ts → Prop) → Prop
  | [], k => k [] L
  | x :: xs, k => rd L x fun v L1 => rds L1 xs fun vs L2 => k (v :: vs) L2
def rdCs (L : Ts) : List Opd → (List TV → Prop) → Prop
  | [], k => k []
  | x :: xs, k => rdC L x fun v => rdCs L xs fun vs => k (v :: vs)
def lookW (L : Ts) (B : Bs) (m : Ms) (r : Root) (k : TV → Prop) : Prop :=
  match r with
  | .mem b o => match m[b]? with
    | some cs => match cs[o]? with
      | some v => k v
      | none => False
    | none => False
  | .loc j o => match fnd B j with
    | some cs => match cs[o]? with
      | some v => k v
      | none => False
    | none => False
  | .tmp s => match fnd L s with
    | some v => k v
    | none => False
def elemsV (v : TV) (k : List (List TV) → Prop) : Prop :=
  match v with
  | .sl _ _ xs => k xs
  | .nils => k []
  | _ => False
def elemsW (L : Ts) (B : Bs) (m : Ms) (v : TV) (k : List (List TV) → Prop) : Prop :=
  match v with
  | .sl _ _ xs => k xs
  | .nils => k []
  | .place r => lookW L B m r fun v => elemsV v k
  | _ => False
def elemsZV (sz : Nat) (v : TV) (k : List (List TV) → Prop) : Prop :=
  match v with
  | .nils => k []
  | .sl _ z xs => bif Nat.beq z sz then k xs else False
  | _ => False
def by8 (b : Int) : List TV := [.int .u8 b]
def elemsZW (sz : Nat) (L : Ts) (B : Bs) (m : Ms) (v : TV) (k : List (List TV) → Prop) : Prop :=
  match v with
  | .nils => k []
  | .str s => bif Nat.beq sz 1 then k (s.map by8) else False
  | .sl _ z xs => bif Nat.beq z sz then k xs else False
  | .place r => lookW L B m r fun v => elemsZV sz v k
  | _ => False
def lendW (sz : Nat) (L : Ts) (B : Bs) (m : Ms) (v : TV) (k : List (List TV) → Prop) : Prop :=
  match v with
  | .str _ => False
  | v => elemsZW sz L B m v k
def TV.bare : TV → Bool
  | .int _ _ | .bool _ | .str _ => true
  | _ => false
def setT (cs : List TV) (off : Nat) (vs : List TV) : List TV := cs.take off ++ vs ++ cs.drop (off + vs.length)
def ldW (mode : Use) (root : Root) (agg : Bool) (n : Nat) (cs : List TV) (off : Nat) (k : TV → Option (List TV) → Prop) : Prop :=
  match agg with
  | false => bif Nat.beq n 1 then match cs[off]? with
    | some v => match mode with
      | .copy => bif v.own0 then False else k v none
      | .take => forceK (cs.set off v.left) fun c => k v (some c)
      | .share => forceK (cs.set off v.share0) fun c => k v.share0 (some c)
      | .peek => k (.place root) none
    | none => False
    else False
  | true => bif Nat.ble (off + n) cs.length then match mode with
      | .copy => bif ((cs.drop off).take n).any TV.own0 then False else forceK ((cs.drop off).take n) fun d => k (.agg d) none
      | .take => forceK ((cs.drop off).take n) fun d => forceK (setT cs off (d.map TV.left)) fun c => k (.agg d) (some c)
      | .share => forceK (((cs.drop off).take n).map TV.share0) fun d => forceK (setT cs off d) fun c => k (.agg d) (some c)
      | .peek => False
    else False
def loadW (agg : Bool) (n : Nat) (mode : Use) (L : Ts) (B : Bs) (m : Ms) (a : TV) (k : TV → Bs → Ms → Prop) : Prop :=
  match a with
  | .ptr b off => match m[b]? with
    | some cs => ldW mode (.mem b off) agg n cs off fun v c => match c with
      | none => k v B m
      | some c => forceK (m.set b c) fun m' => k v B m'
    | none => False
  | .loc j off => match mode with
    | .share => False
    | mode => match fnd B j with
      | some cs => ldW mode (.loc j off) agg n cs off fun v c => match c with
        | none => k v B m
        | some c => k v ((j, c) :: B) m
      | none => False
  | .ro cs off => match mode with
    | .copy => match agg with
      | false => bif Nat.beq n 1 then (match cs[off]? with
        | some v => k v B m
        | none => False) else False
      | true => bif Nat.ble (off + n) cs.length then forceK ((cs.drop off).take n) fun d => k (.agg d) B m else False
    | _ => False
  | .el r z i o => match mode with
    | .copy => lookW L B m r fun v => match v with
      | .sl true sz xs => bif Nat.beq z sz then ∃ cs, xs[i]? = some cs ∧ match agg with
          | false => bif Nat.beq n 1 then (match cs[o]? with
            | some v => k v B m
            | none => False) else False
          | true => bif Nat.ble (o + n) cs.length then forceK ((cs.drop o).take n) fun d => k (.agg d) B m else False
        else False
      | _ => False
    | _ => False
  | _ => False
def storeW (n : Nat) (cells : List TV) (L : Ts) (B : Bs) (m : Ms) (a : TV) (k : Ts → Bs → Ms → Prop) : Prop :=
  match a with
  | .ptr b off => match m[b]? with
    | some old => bif Nat.ble (off + n) old.length && Nat.beq cells.length n && cells.all TV.ok0 && cells.all TV.low0 then mapK killV L fun L' => forceK (setT old off cells) fun c => forceK (m.set b c) fun m' => k L' B m' else False
    | none => False
  | .loc j off => match fnd B j with
    | some old => bif Nat.ble (off + n) old.length && Nat.beq cells.length n && cells.all TV.ok0 then mapK killV L fun L' => forceK (setT old off cells) fun c => k L' ((j, c) :: B) m else False
    | none => False
  | .el r z i o => bif Nat.beq cells.length n && cells.all TV.good then (match r with
    | .mem b q => match m[b]? with
      | some old => match old[q]? with
        | some (.sl true sz xs) => bif Nat.beq z sz then ∃ cs, xs[i]? = some cs ∧ bif Nat.ble (o + n) cs.length then ∃ zs, zs = xs.set i (setT cs o cells) ∧ forceK (old.set q (.sl true sz zs)) fun c => forceK (m.set b c) fun m' => k L B m' else False else False
        | _ => False
      | none => False
    | .loc j q => match fnd B j with
      | some old => match old[q]? with
        | some (.sl true sz xs) => bif Nat.beq z sz then ∃ cs, xs[i]? = some cs ∧ bif Nat.ble (o + n) cs.length then ∃ zs, zs = xs.set i (setT cs o cells) ∧ forceK (old.set q (.sl true sz zs)) fun c => k L ((j, c) :: B) m else False else False
        | _ => False
      | none => False
    | .tmp s => match fnd L s with
      | some (.sl true sz xs) => bif Nat.beq z sz then ∃ cs, xs[i]? = some cs ∧ bif Nat.ble (o + n) cs.length then ∃ zs, zs = xs.set i (setT cs o cells) ∧ k ((s, .sl true sz zs) :: L) B m else False else False
      | _ => False) else False
  | _ => False
def fillW (L : Ts) (cells : List TV) : List (Nat × Nat × Opd) → (List TV → Ts → Prop) → Prop
  | [], k => k cells L
  | (off, n, x) :: r, k => rd L x fun v L1 => bif Nat.beq v.cells.length n && Nat.ble (off + n) cells.length && v.ok1 then forceK (setT cells off v.cells) fun c => fillW L1 c r k else False
def fillEW (L : Ts) (sz : Nat) (xs : List (List TV)) : List (Nat × Opd) → (List (List TV) → Ts → Prop) → Prop
  | [], k => k xs L
  | (i, x) :: r, k => rd L x fun v L1 => bif Nat.beq v.cells.length sz && Nat.blt i xs.length && v.ok1 && v.cells.all TV.good then forceK (xs.set i v.cells) fun ys => fillEW L1 sz ys r k else False
def bndW (L : Ts) (dflt : Nat) (o : Option Opd) (k : Nat → Prop) : Prop :=
  match o with
  | none => k dflt
  | some x => rdC L x fun v => match v with
    | .int _ i => 0 ≤ i ∧ k i.toNat
    | _ => False
def tell (b : Bool) (k : TV → Prop) : Prop := ∀ c : Bool, b = c → k (.bool c)
def binW (op : BinOp) (x y : TV) (k : TV → Prop) : Prop :=
  match x, y with
  | .int a n, .int b p => match op with
    | .shl => 0 ≤ p ∧ k (.int a (a.wrap (n * 2 ^ min p.toNat a.bits)))
    | .shr => 0 ≤ p ∧ k (.int a (n.fdiv (2 ^ min p.toNat a.bits)))
    | .add => bif decide (a = b) then k (.int a (a.wrap (n + p))) else False
    | .sub => bif decide (a = b) then k (.int a (a.wrap (n - p))) else False
    | .mul => bif decide (a = b) then k (.int a (a.wrap (n * p))) else False
    | .quo => bif decide (a = b) then p ≠ 0 ∧ k (.int a (a.wrap (n.tdiv p))) else False
    | .rem => bif decide (a = b) then p ≠ 0 ∧ k (.int a (n.tmod p)) else False
    | .and => bif decide (a = b) then k (.int a (a.wrap ((BitVec.ofInt a.bits n &&& BitVec.ofInt a.bits p).toNat))) else False
    | .or => bif decide (a = b) then k (.int a (a.wrap ((BitVec.ofInt a.bits n ||| BitVec.ofInt a.bits p).toNat))) else False
    | .xor => bif decide (a = b) then k (.int a (a.wrap ((BitVec.ofInt a.bits n ^^^ BitVec.ofInt a.bits p).toNat))) else False
    | .andNot => bif decide (a = b) then k (.int a (a.wrap ((BitVec.ofInt a.bits n &&& ~~~ (BitVec.ofInt a.bits p)).toNat))) else False
    | .eql => bif decide (a = b) then tell (decide (n = p)) k else False
    | .neq => bif decide (a = b) then tell (decide (n ≠ p)) k else False
    | .lss => bif decide (a = b) then tell (decide (n < p)) k else False
    | .leq => bif decide (a = b) then tell (decide (n ≤ p)) k else False
    | .gtr => bif decide (a = b) then tell (decide (n > p)) k else False
    | .geq => bif decide (a = b) then tell (decide (n ≥ p)) k else False
  | .str s, .str t => match op with
    | .add => s.length + t.length ≤ 4611686018427387904 ∧ ∃ u, u = s ++ t ∧ k (.str u)
    | .eql => tell (decide (s = t)) k
    | .neq => tell (decide (s ≠ t)) k
    | _ => False
  | _, _ => False
def leafT : LK → TV → TV → Option Bool
  | .int, .int k a, .int k' b => bif decide (k = k') then some (decide (a = b)) else none
  | .bool, .bool a, .bool b => some (a == b)
  | .str, .str a, .str b => some (decide (a = b))
  | _, _, _ => none
def leavesT : List LK → List TV → List TV → Option Bool
  | [], [], [] => some true
  | k :: ks, x :: xs, y :: ys => match leafT k x y with
    | some b => match leavesT ks xs ys with
      | some c => some (b && c)
      | none => none
    | none => none
  | _, _, _ => none
def eqT (kind : EqK) (x y : TV) : Option Bool :=
  match kind, x, y with
  | .ptr, .nilp, .nilp => some true
  | .ptr, .nilp, .ptr _ _ | .ptr, .ptr _ _, .nilp | .ptr, .nilp, .loc _ _ | .ptr, .loc _ _, .nilp => some false
  | .slice, .nils, .nils => some true
  | .func, .nilf, .nilf => some true
  | .func, .nilf, .func _ _ | .func, .func _ _, .nilf => some false
  | _, _, _ => none
def eqW (neg : Bool) (kind : EqK) (x y : TV) (k : TV → Prop) : Prop :=
  match kind with
  | .bool => match x, y with
    | .bool a, .bool b => tell (bif neg then !(a == b) else (a == b)) k
    | _, _ => False
  | .plain ks => match x, y with
    | .agg xs, .agg ys => match leavesT ks xs ys with
      | some b => tell (bif neg then !b else b) k
      | none => False
    | _, _ => False
  | .slice => match x, y with
    | .sl _ _ xs, .nils => ∀ c : Bool, (c = true → xs = []) → k (.bool (bif neg then !c else c))
    | .nils, .sl _ _ xs => ∀ c : Bool, (c = true → xs = []) → k (.bool (bif neg then !c else c))
    | .nils, .nils => k (.bool (bif neg then !true else true))
    | _, _ => False
  | kind => match eqT kind x y with
    | some b => k (.bool (bif neg then !b else b))
    | none => False
def unW (op : UnOp) (x : TV) (k : TV → Prop) : Prop :=
  match op, x with
  | .neg, .int kd n => k (.int kd (kd.wrap (0 - n)))
  | .not, .bool b => k (.bool !b)
  | .xor, .int kd n => k (.int kd (kd.wrap ((BitVec.ofInt kd.bits (if kd.signed then -1 else kd.max) ^^^ BitVec.ofInt kd.bits n).toNat)))
  | _, _ => False
def appW (sz : Nat) (ys : List (List TV)) (xs : List (List TV)) (z : Nat) (k : TV → Prop) : Prop :=
  bif Nat.beq z sz then xs.length + ys.length ≤ most ∧ ∃ zs, zs = xs ++ ys ∧ k (.sl true sz zs) else False
def minMaxW (mx : Bool) (v : TV) (vs : List TV) (k : TV → Prop) : Prop :=
  match v, vs with
  | .int kd a, [.int kd' b] => bif decide (kd = kd') then (match mx with
    | false => k (.int kd (min a b))
    | true => k (.int kd (max a b))) else False
  | _, _ => False
def Mg (ρ : List Nat) (M : Ms) (m : Am.Ms) : Prop := ρ.Nodup ∧ ρ.length = M.length ∧ ∀ (i b : Nat), ρ[i]? = some b → ∃ (cs : List TV) (cs' : List V), M[i]? = some cs ∧ m[b]? = some cs' ∧ Pw (Den ρ) cs cs'
def Fr (ρ : List Nat) (m : Am.Ms) (ρ' : List Nat) (m' : Am.Ms) : Prop := (∃ e, ρ' = ρ ++ e ∧ ∀ b ∈ e, m.length ≤ b) ∧ m.length ≤ m'.length ∧ ∀ c : Nat, c < m.length → c ∉ ρ → m'[c]? = m[c]?
def CallT (q : Bool) (cf : CF) (f : Nat) (args : List TV) (M : Ms) (r : TV) (M' : Ms) : Prop :=
  ∀ ρ m args', Mg ρ M m → Pw (Den ρ) args args' → ∃ r' m' ρ', cf f args' m = some (r', m') ∧ Den ρ' r r' ∧ Mg ρ' M' m' ∧ Fr ρ m ρ' m' ∧ (r.low2 = true → m'.length = m.length) ∧ (q = true → m' = m)
def runeT (n : Int) : List Int := (Utf8.encode n).data.toList.map byteI
def wpOp (q : Bool) (cf : CF) (op : AOp) (L : Ts) (B : Bs) (m : Ms) (k : TV → Ts → Bs → Ms → Prop) : Prop :=
  match op with
  | .mv x => rd L x fun v L' => k v L' B m
  | .mvK s => match fnd L s with
    | some (.sl _ z xs) => k (.sl false z xs) ((s, .sl false z xs) :: L) B m
    | some .nils => k .nils L B m
    | _ => False
  | .pick c a b => rdC L c fun v => match v with
    | .bool t => rdC L (bif t then a else b) fun w => k w L B m
    | _ => False
  | .allocL j zero => bif zero.all V.ok0 then zeroK zero fun z => mapK (killLV j) L fun L' => k (.loc j 0) L' ((j, z) :: B) m else False
  | .allocM zero => bif zero.all V.ok0 then zeroK zero fun z => bif z.all TV.low0 then forceK (m ++ [z]) fun m' => k (.ptr m.length 0) L B m' else False else False
  | .boxL j x => rd L x fun v L1 => bif v.ok1 then mapK (killLV j) L1 fun L' => k (.loc j 0) L' ((j, v.cells) :: B) m else False
  | .boxM x => rd L x fun v L1 => bif v.ok1 then forceK (m ++ [v.cells]) fun m' => k (.ptr m.length 0) L1 B m' else False
  | .build zero parts => zeroK zero fun z => fillW L z parts fun cs L' => k (.agg cs) L' B m
  | .buildSlice sz zero len parts => bif Nat.beq zero.length sz && zero.all V.good then zeroK zero fun z => bif z.all TV.good then fillEW L sz (List.replicate len z) parts fun xs L' => ∃ zs, zs = xs ∧ k (.sl true sz zs) L' B m else False else False
  | .load agg n p mode => rdC L p fun a => loadW agg n mode L B m a fun v B' m' => k v L B' m'
  | .store n p x => rd L x fun v L1 => rdC L1 p fun a => bif v.ok1 then storeW n v.cells L1 B m a fun L' B' m' => k .undef L' B' m' else False
  | .nilCheck x => rdC L x fun v => match v with
    | .ptr .. | .loc .. | .ro .. | .el .. | .func .. => k v L B m
    | _ => False
  | .bin op x y => rdC L x fun a => rdC L y fun b => binW op a b fun v => k v L B m
  | .eq neg kind x y => rdC L x fun a => rdC L y fun b => eqW neg kind a b fun v => k v L B m
  | .un op x => rdC L x fun a => unW op a fun v => k v L B m
  | .conv kd x => rdC L x fun a => match a with
    | .int _ n => k (.int kd (kd.wrap n)) L B m
    | _ => False
  | .strStr x => rdC L x fun a => match a with
    | .str s => k (.str s) L B m
    | _ => False
  | .strBytes x => rdC L x fun a => match a with
    | .str s => k (.sl true 1 (s.map by8)) L B m
    | _ => False
  | .bytesStr x => rdC L x fun a => elemsW L B m a fun xs => ∃ s : List Int, (xs = s.map by8 ∧ ∀ b ∈ s, 0 ≤ b ∧ b < 256) ∧ k (.str s) L B m
  | .intStr x => rdC L x fun a => match a with
    | .int _ n => k (.str (runeT n)) L B m
    | _ => False
  | .convB x => rd L x fun v L1 => match v with
    | .sl true z xs => bif Nat.beq z 1 then xs ≠ [] ∧ k (.sl true 1 xs) L1 B m else False
    | _ => False
  | .makeSlice sz zero l c => rdC L l fun a => rdC L c fun b => match a, b with
    | .int _ n, .int _ q => (0 ≤ n ∧ n ≤ q ∧ q ≤ (most : Int)) ∧ bif Nat.beq zero.length sz && zero.all V.good then zeroK zero fun z => bif z.all TV.good then ∃ zs, zs = List.replicate n.toNat z ∧ k (.sl true sz zs) L B m else False else False
    | _, _ => False
  | .sliceS x lo hi => rdC L x fun a => match a with
    | .str s => bndW L s.length hi fun h => bndW L 0 lo fun l => (l ≤ h ∧ h ≤ s.length) ∧ ∃ t, t = (s.drop l).take (h - l) ∧ k (.str t) L B m
    | _ => False
  | .sliceV sz x lo hi => rd L x fun v L1 => match v with
    | .nils => bndW L1 0 hi fun h => bndW L1 0 lo fun l => (l = 0 ∧ h = 0) ∧ k .nils L1 B m
    | .sl o z xs => bif Nat.beq z sz then bndW L1 xs.length hi fun h => bndW L1 0 lo fun l => (l ≤ h ∧ h ≤ xs.length) ∧ ∃ zs, zs = (xs.drop l).take (h - l) ∧ k (.sl o sz zs) L1 B m else False
    | _ => False
  | .fieldAddr off x => rdC L x fun v => match v with
    | .ptr b o => k (.ptr b (o + off)) L B m
    | .loc j o => k (.loc j (o + off)) L B m
    | .ro cs o => k (.ro cs (o + off)) L B m
    | .el r z i q => k (.el r z i (q + off)) L B m
    | _ => False
  | .field agg n off x => rdC L x fun v => match v with
    | .agg cs => match agg with
      | false => bif Nat.beq n 1 then (match cs[off]? with
        | some v => k v L B m
        | none => False) else False
      | true => bif Nat.ble (off + n) cs.length then forceK ((cs.drop off).take n) fun d => k (.agg d) L B m else False
    | _ => False
  | .indexArr len sz x i => rdC L x fun v => rdC L i fun n => match n with
    | .int _ i => (0 ≤ i ∧ i < len) ∧ match v with
      | .ptr b o => k (.ptr b (o + i.toNat * sz)) L B m
      | .loc j o => k (.loc j (o + i.toNat * sz)) L B m
      | .ro cs o => k (.ro cs (o + i.toNat * sz)) L B m
      | .el r z e q => k (.el r z e (q + i.toNat * sz)) L B m
      | _ => False
    | _ => False
  | .indexSl sz x i => rdC L x fun v => rdC L i fun n => match n with
    | .int _ i => match v with
      | .sl false z xs => bif Nat.beq z sz then 0 ≤ i ∧ ∃ cs, xs[i.toNat]? = some cs ∧ k (.ro cs 0) L B m else False
      | .place r => lookW L B m r fun v => match v with
        | .sl false z xs => bif Nat.beq z sz then 0 ≤ i ∧ ∃ cs, xs[i.toNat]? = some cs ∧ k (.ro cs 0) L B m else False
        | .sl true z xs => bif Nat.beq z sz then (0 ≤ i ∧ i.toNat < xs.length) ∧ k (.el r sz i.toNat 0) L B m else False
        | _ => False
      | _ => False
    | _ => False
  | .indexAgg agg len sz x i => rdC L x fun v => rdC L i fun n => match v, n with
    | .agg cs, .int _ i => (0 ≤ i ∧ i < len ∧ i.toNat * sz + sz ≤ cs.length) ∧ match agg with
      | false => bif Nat.beq sz 1 then ∃ v, cs[i.toNat * sz]? = some v ∧ k v L B m else False
      | true => k (.agg ((cs.drop (i.toNat * sz)).take sz)) L B m
    | _, _ => False
  | .indexStr x i => rdC L x fun v => rdC L i fun n => match v, n with
    | .str s, .int _ i => 0 ≤ i ∧ ∃ c, s[i.toNat]? = some c ∧ k (.int .u8 c) L B m
    | _, _ => False
  | .extract x i => rd L x fun v L1 => match v with
    | .tuple vs => match vs[i]? with
      | some v => k v L1 B m
      | none => False
    | _ => False
  | .lend f sz x lo => rdC L x fun a => lendW sz L B m a fun xs => lo < xs.length ∧ ∃ zs, zs = xs.drop lo ∧ ∃ r, CallT true cf f [.sl false sz zs] [] r [] ∧ bif Nat.ble 1 sz && r.bare then k r L B m else False
  | .callF f args => rds L args fun vs L1 => bif vs.all TV.okArg then ∃ r m', CallT q cf f vs m r m' ∧ mapK killMV L1 fun L' => k r L' B m' else False
  | .callV f args => rdC L f fun v => match v with
    | .func g cap => rds L args fun vs L1 => bif vs.all TV.okArg then cap.all TV.okArg = true ∧ ∃ r m', CallT q cf g (vs ++ cap) m r m' ∧ mapK killMV L1 fun L' => k r L' B m' else False
    | _ => False
  | .lenStr x => rdC L x fun a => match a with
    | .str s => k (.int .i64 s.length) L B m
    | _ => False
  | .lenSl x => rdC L x fun a => elemsW L B m a fun xs => ∃ n : Nat, n = xs.length ∧ k (.int .i64 n) L B m
  | .lenC n => k (.int .i64 n) L B m
  | .append sz x y => rd L x fun p L1 => rd L1 y fun q L2 => elemsZW sz L2 B m q fun ys => match p with
    | .nils => appW sz ys [] sz fun v => k v L2 B m
    | .sl true z xs => appW sz ys xs z fun v => k v L2 B m
    | .place (.tmp s) => match fnd L2 s with
      | some (.sl true z xs) => appW sz ys xs z fun v => k v ((s, .undef) :: L2) B m
      | some .nils => appW sz ys [] sz fun v => k v L2 B m
      | _ => False
    | .place (.mem b o) => match m[b]? with
      | some cs => match cs[o]? with
        | some (.sl true z xs) => appW sz ys xs z fun v => forceK (cs.set o .undef) fun c => forceK (m.set b c) fun m' => k v L2 B m'
        | some .nils => appW sz ys [] sz fun v => k v L2 B m
        | _ => False
      | none => False
    | .place (.loc j o) => match fnd B j with
      | some cs => match cs[o]? with
        | some (.sl true z xs) => appW sz ys xs z fun v => forceK (cs.set o .undef) fun c => k v L2 ((j, c) :: B) m
        | some .nils => appW sz ys [] sz fun v => k v L2 B m
        | _ => False
      | none => False
    | _ => False
  | .minMax mx x ys => rdC L x fun v => rdCs L ys fun vs => minMaxW mx v vs fun r => k r L B m
  | .mkFunc f captured => rdCs L captured fun vs => bif vs.all okCapT then k (.func f vs) L B m else False
def putW (o : AOper) (v : TV) (L : Ts) (k : Ts → Prop) : Prop :=
  match o.dst with
  | none => bif o.kt then (bif selfPlaceT none v then False else match v with
    | .undef => False
    | _ => k L) else k L
  | some d => bif o.kt then (bif selfPlaceT (some d) v then False else match v with
    | .undef => False
    | v => mapK (killTV d) L fun L' => k ((d, v) :: L')) else k ((d, v) :: L)
def skipW (o : AOper) (L : Ts) (k : Ts → Prop) : Prop :=
  match o.dst with
  | none => k L
  | some d => bif o.kt then mapK (killTV d) L fun L' => k ((d, .tuple []) :: L') else k ((d, .tuple []) :: L)
def wpOps (cf : CF) : List AOper → Ts → Bs → Ms → (Ts → Bs → Ms → Prop) → Prop
  | [], L, B, m, k => k L B m
  | o :: os, L, B, m, k => match o.guard with
    | none => wpOp false cf o.op L B m fun v L1 B1 m1 => putW o v L1 fun L2 => wpOps cf os L2 B1 m1 k
    | some (g, want) => match fnd L g with
      | some (.bool b) => bif b == want then wpOp false cf o.op L B m fun v L1 B1 m1 => putW o v L1 fun L2 => wpOps cf os L2 B1 m1 k
        else skipW o L fun L2 => wpOps cf os L2 B m k
      | some (.tuple []) => skipW o L fun L2 => wpOps cf os L2 B m k
      | _ => False
def rootsW (lean : Bool) (L : Ts) : List Nat → Bool
  | [] => true
  | s :: r => match fnd L s with
    | some v => rootOkT lean v && rootsW lean L r
    | none => false
def isStore (op : AOp) : Bool := match op with
  | .store _ _ _ => true
  | _ => false
def isQuiet (mk : Mark) : Bool := match mk with
  | .quiet => true
  | _ => false
def notLocT : TV → Bool
  | .loc _ _ => false
  | .undef => false
  | _ => true
def coolW (L : Ts) : List Nat → Bool
  | [] => true
  | s :: r => match fnd L s with
    | some v => notLocT v && coolW L r
    | none => false
def resOkT (o : AOper) (v : TV) : Bool := rootOkT o.lean v && (match o.mark with
  | .none => true
  | .quiet => notLocT v && (match v with
    | .place _ | .el _ _ _ _ => false
    | _ => true)
  | _ => notLocT v)
def markW (o : AOper) (L : Ts) (k : Prop) : Prop :=
  match o.mark with
  | .none => k
  | .cool => match o.op.ptr? with
    | none => bif coolW L (slots o.op.opds) then k else False
    | some _ => False
  | .quiet => bif o.op.isCall then k else False
  | mk => match o.op.ptr? with
    | none => k
    | some p => rdC L p fun v => match v with
      | .loc i _ => bif mk == .loc i then k else False
      | .ptr _ _ => bif mk == .mem then k else False
      | .ro _ _ => bif mk == .free then k else False
      | _ => False
def doD (cf : CF) (o : AOper) (L : Ts) (B : Bs) (m : Ms) (k : Ts → Bs → Ms → Prop) : Prop :=
  bif rootsW o.lean L (slots o.op.opds) then wpOp (isQuiet o.mark) cf o.op L B m fun v L1 B1 m1 => bif isStore o.op || resOkT o v then markW o L (putW o v L1 fun L2 => k L2 B1 m1) else False else False
def wpD (cf : CF) : List AOper → Ts → Bs → Ms → (Ts → Bs → Ms → Prop) → Prop
  | [], L, B, m, k => k L B m
  | o :: os, L, B, m, k => match o.guard with
    | none => doD cf o L B m fun L2 B1 m1 => wpD cf os L2 B1 m1 k
    | some (g, want) => match fnd L g with
      | some (.bool b) => bif b == want then doD cf o L B m fun L2 B1 m1 => wpD cf os L2 B1 m1 k
        else skipW o L fun L2 => wpD cf os L2 B m k
      | some (.tuple []) => skipW o L fun L2 => wpD cf os L2 B m k
      | _ => False
def Ag (ρ : List Nat) (L : Ts) (σ : Nat → V) : Prop := ∀ s t, fnd L s = some t → Den ρ t (σ s)
def AgB (ρ : List Nat) (B : Bs) (l : Nat → List V) : Prop := ∀ s t, fnd B s = some t → Pw (Den ρ) t (l s)
structure Rel (ρ : List Nat) (L : Ts) (B : Bs) (M : Ms) (st : St) : Prop where
  a : Ag ρ L st.σ
  b : AgB ρ B st.l
  m : Mg ρ M st.m
structure WP (cf : CF) (c : ACode) (L : Ts) (B : Bs) (M : Ms) (Q : Ex → Ts → Bs → Ms → Prop) : Prop where
  go : ∀ ρ st, Rel ρ L B M st → ∃ e st', exec cf c st = some (e, st') ∧ ∃ ρ' L' B' M', Rel ρ' L' B' M' st' ∧ Fr ρ st.m ρ' st'.m ∧ Q e L' B' M'
end Go.Proofs.YtggbcchebiedjaaDoor.Am.T
