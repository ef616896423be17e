/-
A part of the proof of a law: ks code, ks shelf, ks sort, ks good, tw val, tw wp, tw s.
-/
import Derived.Test.YtdlijnfdkeimlaaDoorAmKeysBackRow3
import Derived.Shelf.Strings.Count
import Derived.Shelf.Strings.Search3
import Derived.Shelf.Small.Bits
import Derived.Ground.NamesProg
import Derived.Test.YtdlijnfdkeimlaaDoorProg
import Derived.WalkKit
import Derived.OwnWalk
import Derived.LoopTactic
import Derived.RangeFuncFrom
import Derived.Deep.RegionLaw
import Derived.Shelf.Abstract
namespace Go.Proofs.YtdlijnfdkeimlaaDoor.Am.Keys
abbrev o_ (d : Nat) (x : AOp) : AOper := ⟨some d, none, false, x, .none⟩
def p4 : Plan := ⟨[], 1, [((4, 22), { mark := .free, pure := true }),
 ((4, 21), { mark := (.loc 0) }),
 ((4, 20), { mark := .free, pure := true }),
 ((4, 19), { mark := (.loc 0) }),
 ((4, 16), { uses := [(23, .share), (25, .share)], mark := .free, pure := true }),
 ((4, 15), { mark := .free, pure := true }),
 ((4, 14), { mark := (.loc 0) }),
 ((4, 13), { mark := .free, pure := true }),
 ((4, 12), { mark := (.loc 0) }),
 ((4, 8), { mark := .free, pure := true }),
 ((4, 7), { mark := (.loc 0) }),
 ((4, 6), { mark := .free, pure := true }),
 ((4, 5), { mark := (.loc 0) }),
 ((4, 3), { uses := [(10, .share), (12, .share)], mark := .free, pure := true }),
 ((4, 2), { uses := [(11, .share)], mark := .free, pure := true }),
 ((0, 0), { box := some 0 }),
 ((1, 0), { pure := true }),
 ((3, 1), { uses := [(8, .share)], pure := true }),
 ((3, 2), { uses := [(9, .share)] })],
 []⟩
def a4 : AFunc := ⟨2, 35, 1, [.tmp 4],
 .seq (.region false [o_ 3 (.boxL 0 (.t 1)),
 o_ 4 (.mv (.c (.bool false)))])
 (.seq (.seq (.region false [o_ 6 (.callP 16 []),
 o_ 7 (.un .not (.t 6))])
 (.cond (.t 7)
 (.seq (.region false [o_ 4 (.mv (.c (.bool false)))])
 (.ret))
 (.skip)))
 (.seq (.region false [o_ 8 (.mv (.t 0)),
 o_ 9 (.callP 17 [(.u 8 .share)]),
 o_ 5 (.mv (.u 9 .share))])
 (.seq (.region true [o_ 10 (.mv (.t 5)),
 o_ 11 (.mv (.t 0)),
 ⟨(some 12), none, false, .callP 19 [(.u 11 .share)], .free⟩,
 ⟨(some 13), none, false, .callP 18 [(.u 10 .share), (.u 12 .share)], .free⟩,
 o_ 14 (.mv (.t 13)),
 ⟨(some 15), (some (14, true)), false, .load true 2 (.t 3) .copy, (.loc 0)⟩,
 ⟨(some 16), (some (14, true)), false, .callP 20 [(.t 15)], .free⟩,
 ⟨(some 17), (some (14, true)), false, .load true 2 (.t 3) .copy, (.loc 0)⟩,
 ⟨(some 18), (some (14, true)), false, .callP 21 [(.t 17)], .free⟩,
 ⟨(some 19), (some (14, true)), false, .eq false .bool (.t 16) (.t 18), .none⟩,
 o_ 20 (.pick (.t 14) (.t 19) (.c (.bool false))),
 o_ 21 (.mv (.t 20)),
 ⟨(some 22), (some (21, true)), false, .load true 2 (.t 3) .copy, (.loc 0)⟩,
 ⟨(some 23), (some (21, true)), false, .callP 22 [(.t 22)], .free⟩,
 ⟨(some 24), (some (21, true)), false, .load true 2 (.t 3) .copy, (.loc 0)⟩,
 ⟨(some 25), (some (21, true)), false, .callP 23 [(.t 24)], .free⟩,
 ⟨(some 26), (some (21, true)), false, .callP 11 [(.u 23 .share), (.u 25 .share)], .free⟩,
 o_ 27 (.pick (.t 21) (.t 26) (.c (.bool false))),
 o_ 28 (.mv (.t 27)),
 ⟨(some 29), (some (28, true)), false, .load true 2 (.t 3) .copy, (.loc 0)⟩,
 ⟨(some 30), (some (28, true)), false, .callP 24 [(.t 29)], .free⟩,
 ⟨(some 31), (some (28, true)), false, .load true 2 (.t 3) .copy, (.loc 0)⟩,
 ⟨(some 32), (some (28, true)), false, .callP 25 [(.t 31)], .free⟩,
 ⟨(some 33), (some (28, true)), false, .bin .eql (.t 30) (.t 32), .none⟩,
 o_ 34 (.pick (.t 28) (.t 33) (.c (.bool false))),
 o_ 4 (.mv (.t 34))])
 (.ret))))⟩
def v4 : List Nat := [0, 1, 3, 4, 5, 7]
def b4 : List Nat := [0]
theorem c4 : cFunc Go.Proofs.Tryd.prog p4 4 = some a4 := by decide +kernel
def p5 : Plan := ⟨[], 0, [((1, 0), { pure := true }),
 ((3, 1), { pure := true }),
 ((3, 5), { uses := [(12, .share)] }),
 ((4, 1), { pure := true }),
 ((4, 5), { uses := [(17, .share)] }),
 ((5, 6), { uses := [(23, .share), (24, .share)], pure := true })],
 []⟩
def a5 : AFunc := ⟨1, 27, 0, [.tmp 2],
 .seq (.region false [o_ 2 (.mv (.c (.bool false)))])
 (.seq (.seq (.region false [o_ 7 (.callP 16 []),
 o_ 8 (.un .not (.t 7))])
 (.cond (.t 8)
 (.seq (.region false [o_ 2 (.mv (.c (.bool false)))])
 (.ret))
 (.skip)))
 (.seq (.region false [o_ 10 (.mv (.t 0)),
 o_ 11 (.callP 26 [(.t 10)]),
 o_ 9 (.mv (.t 11)),
 o_ 12 (.extract (.t 9) 0),
 o_ 13 (.extract (.t 9) 1),
 o_ 3 (.mv (.u 12 .share)),
 o_ 4 (.mv (.t 13))])
 (.seq (.region false [o_ 15 (.mv (.t 0)),
 o_ 16 (.callP 27 [(.t 15)]),
 o_ 14 (.mv (.t 16)),
 o_ 17 (.extract (.t 14) 0),
 o_ 18 (.extract (.t 14) 1),
 o_ 5 (.mv (.u 17 .share)),
 o_ 6 (.mv (.t 18))])
 (.seq (.region false [o_ 19 (.mv (.t 4)),
 o_ 20 (.mv (.t 6)),
 o_ 21 (.bin .eql (.t 19) (.t 20)),
 o_ 22 (.mv (.t 21)),
 ⟨(some 23), (some (22, true)), false, .mv (.t 3), .none⟩,
 ⟨(some 24), (some (22, true)), false, .mv (.t 5), .none⟩,
 ⟨(some 25), (some (22, true)), false, .callP 18 [(.u 23 .share), (.u 24 .share)], .none⟩,
 o_ 26 (.pick (.t 22) (.t 25) (.c (.bool false))),
 o_ 2 (.mv (.t 26))])
 (.ret)))))⟩
def v5 : List Nat := [0, 2, 3, 4, 5, 6, 8]
theorem c5 : cFunc Go.Proofs.Tryd.prog p5 5 = some a5 := by decide +kernel
def p6 : Plan := ⟨[26], 1, [((1, 0), { pure := true }),
 ((3, 1), { uses := [(14, .take)] }),
 ((5, 1), { uses := [(15, .take)] }),
 ((8, 2), { box := some 0 }),
 ((9, 1), { pure := true }),
 ((10, 1), { pure := true }),
 ((10, 2), { uses := [(26, .peek)] }),
 ((10, 6), { pure := true }),
 ((12, 1), { pure := true }),
 ((12, 2), { pure := true }),
 ((12, 6), { uses := [(38, .share)] }),
 ((16, 0), { uses := [(5, .take)] }),
 ((16, 3), { uses := [(57, .take), (59, .take)] }),
 ((16, 4), { uses := [(60, .take)] }),
 ((17, 0), { uses := [(3, .take)] }),
 ((17, 2), { pure := true }),
 ((17, 3), { uses := [(61, .take), (63, .take)] }),
 ((17, 4), { uses := [(64, .take)] }),
 ((18, 3), { pure := true }),
 ((20, 1), { pure := true }),
 ((20, 5), { uses := [(75, .share)] }),
 ((21, 0), { uses := [(3, .take)] }),
 ((21, 1), { uses := [(77, .share)], pure := true }),
 ((21, 2), { mode := .share }),
 ((21, 3), { uses := [(78, .share), (79, .share)], pure := true }),
 ((21, 10), { uses := [(5, .take)] }),
 ((21, 11), { uses := [(86, .share), (87, .share)], pure := true })],
 [[3, 4, 5, 16, 17, 18]]⟩
def a6 : AFunc := ⟨1, 90, 1, [.tmp 2],
 .seq (.region false [o_ 2 (.mv (.c (.bool false)))])
 (.seq (.seq (.region false [o_ 12 (.callP 16 []),
 o_ 13 (.un .not (.t 12))])
 (.cond (.t 13)
 (.seq (.region false [o_ 2 (.mv (.c (.bool false)))])
 (.ret))
 (.skip)))
 (.seq (.region false [o_ 14 (.buildSlice 1 [(.int .u8 0)] 0 []),
 o_ 3 (.mv (.u 14 .take))])
 (.seq (.region false [o_ 4 (.mv (.c (.str [])))])
 (.seq (.region false [o_ 15 (.buildSlice 2 [(.int .i32 0), (.int .i64 0)] 0 []),
 o_ 5 (.mv (.u 15 .take))])
 (.seq (.seq (.region false [o_ 16 (.mv (.t 0)),
 o_ 17 (.lenSl (.t 16)),
 o_ 18 (.mv (.c (.int .i64 0)))])
 (.block 0 (.loop [3, 4, 5, 16, 17, 18] (.seq (.region false [o_ 19 (.bin .lss (.t 18) (.t 17))])
 (.seq (.cond (.t 19)
 (.skip)
 (.exit 0))
 (.seq (.block 1 (.seq (.region false [o_ 20 (.indexSl 2 (.t 16) (.t 18)),
 o_ 21 (.load true 2 (.t 20) .copy),
 o_ 7 (.allocL 0 [(.int .i32 0), (.int .i64 0)]),
 ⟨none, none, false, .store 2 (.t 7) (.t 21), .none⟩])
 (.seq (.seq (.region false [o_ 22 (.load true 2 (.t 7) .copy),
 o_ 23 (.callP 20 [(.t 22)]),
 o_ 24 (.un .not (.t 23))])
 (.cond (.t 24)
 (.seq (.seq (.region false [o_ 25 (.load true 2 (.t 7) .copy),
 ⟨(some 26), none, true, .callP 22 [(.t 25)], .none⟩,
 o_ 27 (.lenSl (.u 26 .peek)),
 o_ 28 (.bin .neq (.t 27) (.c (.int .i64 0))),
 o_ 29 (.mv (.t 28)),
 ⟨(some 30), (some (29, false)), false, .load true 2 (.t 7) .copy, .none⟩,
 ⟨(some 31), (some (29, false)), false, .callP 24 [(.t 30)], .none⟩,
 ⟨(some 32), (some (29, false)), false, .bin .neq (.t 31) (.c (.str [])), .none⟩,
 o_ 33 (.pick (.t 29) (.c (.bool true)) (.t 32))])
 (.cond (.t 33)
 (.seq (.region false [o_ 2 (.mv (.c (.bool false)))])
 (.ret))
 (.skip)))
 (.exit 1))
 (.skip)))
 (.seq (.region false [o_ 35 (.load true 2 (.t 7) .copy),
 o_ 36 (.callP 24 [(.t 35)]),
 o_ 37 (.callP 26 [(.t 36)]),
 o_ 34 (.mv (.t 37)),
 o_ 38 (.extract (.t 34) 0),
 o_ 39 (.extract (.t 34) 1),
 o_ 8 (.mv (.u 38 .share)),
 o_ 9 (.mv (.t 39))])
 (.seq (.seq (.region true [o_ 40 (.mv (.t 9)),
 o_ 41 (.bin .neq (.t 40) (.c (.int .i64 0))),
 o_ 42 (.mv (.t 41)),
 ⟨(some 43), (some (42, false)), false, .mv (.t 8), .none⟩,
 ⟨(some 44), (some (42, false)), false, .lenSl (.t 43), .none⟩,
 ⟨(some 45), (some (42, false)), false, .bin .neq (.t 44) (.c (.int .i64 1)), .none⟩,
 o_ 46 (.pick (.t 42) (.c (.bool true)) (.t 45)),
 o_ 47 (.mv (.t 46)),
 ⟨(some 48), (some (47, false)), false, .mv (.t 8), .none⟩,
 ⟨(some 49), (some (47, false)), false, .indexSl 2 (.t 48) (.c (.int .i64 0)), .none⟩,
 ⟨(some 50), (some (47, false)), false, .load true 2 (.t 49) .copy, .none⟩,
 ⟨(some 51), (some (47, false)), false, .load true 2 (.t 7) .copy, .none⟩,
 ⟨(some 52), (some (47, false)), false, .eq true (.plain [.int, .int]) (.t 50) (.t 51), .none⟩,
 o_ 53 (.pick (.t 47) (.c (.bool true)) (.t 52))])
 (.cond (.t 53)
 (.seq (.region false [o_ 2 (.mv (.c (.bool false)))])
 (.ret))
 (.skip)))
 (.seq (.seq (.region false [o_ 54 (.fieldAddr 0 (.t 7)),
 o_ 55 (.load false 1 (.t 54) .copy),
 o_ 56 (.bin .eql (.t 55) (.c (.int .i32 27)))])
 (.cond (.t 56)
 (.exit 1)
 (.skip)))
 (.seq (.region false [o_ 57 (.mv (.u 5 .take)),
 o_ 58 (.load true 2 (.t 7) .copy),
 o_ 59 (.buildSlice 2 [(.int .i32 0), (.int .i64 0)] 1 [(0, (.t 58))]),
 o_ 60 (.append 2 (.u 57 .take) (.u 59 .take)),
 o_ 5 (.mv (.u 60 .take))])
 (.seq (.region false [o_ 61 (.mv (.u 3 .take)),
 o_ 62 (.load true 2 (.t 7) .copy),
 o_ 63 (.callP 22 [(.t 62)]),
 o_ 64 (.append 1 (.u 61 .take) (.u 63 .take)),
 o_ 3 (.mv (.u 64 .take))])
 (.region false [o_ 65 (.mv (.t 4)),
 o_ 66 (.bin .add (.t 65) (.c (.str [32]))),
 o_ 67 (.load true 2 (.t 7) .copy),
 o_ 68 (.callP 24 [(.t 67)]),
 o_ 69 (.bin .add (.t 66) (.t 68)),
 o_ 70 (.bin .add (.t 69) (.c (.str [32]))),
 o_ 4 (.mv (.t 70))])))))))))
 (.region false [o_ 71 (.bin .add (.t 18) (.c (.int .i64 1))),
 o_ 18 (.mv (.t 71))])))))))
 (.seq (.region false [o_ 73 (.mv (.t 4)),
 o_ 74 (.callP 26 [(.t 73)]),
 o_ 72 (.mv (.t 74)),
 o_ 75 (.extract (.t 72) 0),
 o_ 76 (.extract (.t 72) 1),
 o_ 10 (.mv (.u 75 .share)),
 o_ 11 (.mv (.t 76))])
 (.seq (.region false [o_ 77 (.mv (.u 3 .take)),
 o_ 78 (.callP 17 [(.u 77 .share)]),
 o_ 79 (.mvK 5),
 o_ 80 (.callP 18 [(.u 78 .share), (.u 79 .share)]),
 o_ 81 (.mv (.t 80)),
 ⟨(some 82), (some (81, true)), false, .mv (.t 11), .none⟩,
 ⟨(some 83), (some (81, true)), false, .bin .eql (.t 82) (.c (.int .i64 0)), .none⟩,
 o_ 84 (.pick (.t 81) (.t 83) (.c (.bool false))),
 o_ 85 (.mv (.t 84)),
 ⟨(some 86), (some (85, true)), false, .mv (.t 10), .none⟩,
 ⟨(some 87), (some (85, true)), false, .mv (.u 5 .take), .none⟩,
 ⟨(some 88), (some (85, true)), false, .callP 18 [(.u 86 .share), (.u 87 .share)], .none⟩,
 o_ 89 (.pick (.t 85) (.t 88) (.c (.bool false))),
 o_ 2 (.mv (.t 89))])
 (.ret))))))))⟩
theorem c6 : cFunc Go.Proofs.Tryd.prog p6 6 = some a6 := by decide +kernel
def p7 : Plan := ⟨[6], 1, [((2, 3), { pure := true }),
 ((4, 1), { uses := [(26, .take)] }),
 ((7, 4), { uses := [(33, .share)] }),
 ((8, 3), { pure := true }),
 ((8, 4), { uses := [(35, .share)] }),
 ((9, 0), { uses := [(6, .take)] }),
 ((9, 2), { uses := [(41, .share)] }),
 ((9, 3), { uses := [(40, .take), (42, .take)] }),
 ((9, 4), { uses := [(43, .take)] }),
 ((15, 3), { box := some 0 }),
 ((16, 7), { uses := [(59, .share)] }),
 ((17, 2), { uses := [(61, .share)] }),
 ((23, 0), { uses := [(6, .peek)] }),
 ((25, 2), { uses := [(92, .share)] }),
 ((26, 8), { uses := [(95, .share), (100, .share)], pure := true }),
 ((32, 6), { uses := [(122, .share), (127, .share)], pure := true }),
 ((19, 11), { uses := [(71, .share), (76, .share)], pure := true })],
 [[1, 5, 6, 27, 28, 29], [1, 5, 6, 9, 47, 48, 49], [1, 5, 6, 9, 10, 13, 14, 16, 47, 48, 49, 87, 88, 89]]⟩
def a7 : AFunc := ⟨2, 138, 1, [.tmp 4],
 .seq (.region false [o_ 4 (.mv (.c (.bool false)))])
 (.seq (.region false [o_ 19 (.callF 28 []),
 o_ 5 (.mv (.t 19))])
 (.seq (.seq (.region false [o_ 20 (.mv (.t 5)),
 o_ 21 (.eq false .ptr (.t 20) (.c .nilp)),
 o_ 22 (.mv (.t 21)),
 ⟨(some 23), (some (22, false)), false, .callP 16 [], .none⟩,
 ⟨(some 24), (some (22, false)), false, .un .not (.t 23), .none⟩,
 o_ 25 (.pick (.t 22) (.c (.bool true)) (.t 24))])
 (.cond (.t 25)
 (.seq (.region false [o_ 4 (.mv (.c (.bool false)))])
 (.ret))
 (.skip)))
 (.seq (.region false [o_ 26 (.buildSlice 1 [.nils] 0 []),
 ⟨(some 6), none, true, .mv (.u 26 .take), .none⟩])
 (.seq (.seq (.region false [o_ 27 (.mv (.t 0)),
 o_ 28 (.lenSl (.t 27)),
 o_ 29 (.mv (.c (.int .i64 0)))])
 (.block 0 (.loop [1, 5, 6, 27, 28, 29] (.seq (.region false [o_ 30 (.bin .lss (.t 29) (.t 28))])
 (.seq (.cond (.t 30)
 (.skip)
 (.exit 0))
 (.seq (.block 1 (.seq (.region false [o_ 31 (.mv (.t 29)),
 o_ 32 (.indexSl 1 (.t 27) (.t 29)),
 o_ 33 (.load false 1 (.t 32) .copy),
 o_ 7 (.mv (.t 31)),
 o_ 8 (.mv (.u 33 .share))])
 (.seq (.region false [o_ 34 (.mv (.t 5)),
 o_ 35 (.mv (.t 8)),
 o_ 36 (.mv (.t 7)),
 o_ 37 (.callP 30 [(.t 36)]),
 o_ 38 (.callF 29 [(.t 34), (.c (.str [109])), (.u 35 .share), (.t 37)]),
 o_ 39 (.bin .eql (.t 38) (.c (.int .i64 0)))])
 (.cond (.t 39)
 (.region false [o_ 40 (.mv (.u 6 .take)),
 o_ 41 (.mv (.t 8)),
 o_ 42 (.buildSlice 1 [.nils] 1 [(0, (.u 41 .share))]),
 o_ 43 (.append 1 (.u 40 .take) (.u 42 .take)),
 ⟨(some 6), none, true, .mv (.u 43 .take), .none⟩])
 (.skip)))))
 (.region false [o_ 44 (.bin .add (.t 29) (.c (.int .i64 1))),
 o_ 29 (.mv (.t 44))])))))))
 (.seq (.region false [o_ 45 (.mv (.t 5)),
 o_ 46 (.callF 31 [(.t 45), (.c (.str [109]))])])
 (.seq (.region false [o_ 9 (.mv (.c (.int .i64 0)))])
 (.seq (.seq (.region false [o_ 47 (.mv (.t 1)),
 o_ 48 (.lenSl (.t 47)),
 o_ 49 (.mv (.c (.int .i64 0)))])
 (.block 2 (.loop [1, 5, 6, 9, 47, 48, 49] (.seq (.region false [o_ 50 (.bin .lss (.t 49) (.t 48))])
 (.seq (.cond (.t 50)
 (.skip)
 (.exit 2))
 (.seq (.block 3 (.seq (.region false [o_ 51 (.mv (.t 49)),
 o_ 52 (.indexSl 2 (.t 47) (.t 49)),
 o_ 53 (.load true 2 (.t 52) .copy),
 o_ 11 (.allocL 0 [(.int .i32 0), (.int .i64 0)]),
 o_ 10 (.mv (.t 51)),
 ⟨none, none, false, .store 2 (.t 11) (.t 53), .none⟩])
 (.seq (.region false [o_ 55 (.mv (.t 5)),
 o_ 56 (.load true 2 (.t 11) .copy),
 o_ 57 (.callF 32 [(.t 55), (.t 56)]),
 o_ 54 (.mv (.t 57)),
 o_ 58 (.extract (.t 54) 0),
 o_ 59 (.extract (.t 54) 1),
 o_ 12 (.mv (.t 58)),
 o_ 13 (.mv (.u 59 .share))])
 (.seq (.region false [o_ 60 (.mv (.t 5)),
 o_ 61 (.callF 33 [(.t 60)]),
 o_ 14 (.mv (.u 61 .share))])
 (.seq (.region false [o_ 62 (.mv (.t 10)),
 o_ 63 (.bin .add (.t 62) (.c (.int .i64 1))),
 o_ 64 (.mv (.t 9)),
 o_ 65 (.bin .sub (.t 63) (.t 64)),
 o_ 15 (.mv (.t 65))])
 (.block 4 (.seq (.region false [o_ 85 (.mv (.t 12)),
 o_ 86 (.bin .neq (.t 85) (.c (.str []))),
 o_ 84 (.mv (.t 86))])
 (.cond (.t 84)
 (.seq (.region false [o_ 16 (.mv (.c (.bool false)))])
 (.seq (.seq (.region false [o_ 87 (.mv (.u 6 .peek)),
 o_ 88 (.lenSl (.t 87)),
 o_ 89 (.mv (.c (.int .i64 0)))])
 (.block 5 (.loop [1, 5, 6, 9, 10, 13, 14, 16, 47, 48, 49, 87, 88, 89] (.seq (.region false [o_ 90 (.bin .lss (.t 89) (.t 88))])
 (.seq (.cond (.t 90)
 (.skip)
 (.exit 5))
 (.seq (.block 6 (.seq (.region false [o_ 91 (.indexSl 1 (.t 87) (.t 89)),
 o_ 92 (.load false 1 (.t 91) .copy),
 o_ 18 (.mv (.u 92 .share))])
 (.region false [o_ 93 (.mv (.t 16)),
 o_ 94 (.mv (.t 93)),
 ⟨(some 95), (some (94, false)), false, .mv (.t 18), .none⟩,
 ⟨(some 96), (some (94, false)), false, .mv (.t 1), .none⟩,
 ⟨(some 97), (some (94, false)), false, .mv (.t 9), .none⟩,
 ⟨(some 98), (some (94, false)), false, .mv (.t 10), .none⟩,
 ⟨(some 99), (some (94, false)), false, .bin .add (.t 98) (.c (.int .i64 1)), .none⟩,
 ⟨(some 100), (some (94, false)), false, .sliceV 2 (.t 96) (some (.t 97)) (some (.t 99)), .none⟩,
 ⟨(some 101), (some (94, false)), false, .callP 18 [(.u 95 .share), (.u 100 .share)], .none⟩,
 o_ 102 (.pick (.t 94) (.c (.bool true)) (.t 101)),
 o_ 16 (.mv (.t 102))])))
 (.region false [o_ 103 (.bin .add (.t 89) (.c (.int .i64 1))),
 o_ 89 (.mv (.t 103))])))))))
 (.seq (.seq (.region false [o_ 104 (.mv (.t 16)),
 o_ 105 (.un .not (.t 104)),
 o_ 106 (.mv (.t 105)),
 ⟨(some 107), (some (106, false)), false, .mv (.t 13), .none⟩,
 ⟨(some 108), (some (106, false)), false, .lenSl (.t 107), .none⟩,
 ⟨(some 109), (some (106, false)), false, .bin .neq (.t 108) (.c (.int .i64 0)), .none⟩,
 o_ 110 (.pick (.t 106) (.c (.bool true)) (.t 109)),
 o_ 111 (.mv (.t 110)),
 ⟨(some 112), (some (111, false)), false, .mv (.t 14), .none⟩,
 ⟨(some 113), (some (111, false)), false, .lenSl (.t 112), .none⟩,
 ⟨(some 114), (some (111, false)), false, .bin .neq (.t 113) (.c (.int .i64 0)), .none⟩,
 o_ 115 (.pick (.t 111) (.c (.bool true)) (.t 114))])
 (.cond (.t 115)
 (.seq (.region false [o_ 4 (.mv (.c (.bool false)))])
 (.ret))
 (.skip)))
 (.region false [o_ 116 (.mv (.t 10)),
 o_ 117 (.bin .add (.t 116) (.c (.int .i64 1))),
 o_ 9 (.mv (.t 117))]))))
 (.seq (.region false [o_ 119 (.mv (.t 13)),
 o_ 120 (.lenSl (.t 119)),
 o_ 121 (.bin .gtr (.t 120) (.c (.int .i64 0))),
 o_ 118 (.mv (.t 121))])
 (.cond (.t 118)
 (.seq (.seq (.region false [o_ 122 (.mv (.t 13)),
 o_ 123 (.mv (.t 1)),
 o_ 124 (.mv (.t 9)),
 o_ 125 (.mv (.t 10)),
 o_ 126 (.bin .add (.t 125) (.c (.int .i64 1))),
 o_ 127 (.sliceV 2 (.t 123) (some (.t 124)) (some (.t 126))),
 o_ 128 (.callP 18 [(.u 122 .share), (.u 127 .share)]),
 o_ 129 (.un .not (.t 128)),
 o_ 130 (.mv (.t 129)),
 ⟨(some 131), (some (130, false)), false, .mv (.t 14), .none⟩,
 ⟨(some 132), (some (130, false)), false, .lenSl (.t 131), .none⟩,
 ⟨(some 133), (some (130, false)), false, .bin .neq (.t 132) (.c (.int .i64 0)), .none⟩,
 o_ 134 (.pick (.t 130) (.c (.bool true)) (.t 133))])
 (.cond (.t 134)
 (.seq (.region false [o_ 4 (.mv (.c (.bool false)))])
 (.ret))
 (.skip)))
 (.region false [o_ 135 (.mv (.t 10)),
 o_ 136 (.bin .add (.t 135) (.c (.int .i64 1))),
 o_ 9 (.mv (.t 136))]))
 (.seq (.region false [o_ 66 (.mv (.t 14)),
 o_ 67 (.lenSl (.t 66)),
 o_ 68 (.mv (.t 15)),
 o_ 69 (.bin .neq (.t 67) (.t 68)),
 o_ 70 (.mv (.t 69)),
 ⟨(some 71), (some (70, false)), false, .mv (.t 14), .none⟩,
 ⟨(some 72), (some (70, false)), false, .mv (.t 1), .none⟩,
 ⟨(some 73), (some (70, false)), false, .mv (.t 9), .none⟩,
 ⟨(some 74), (some (70, false)), false, .mv (.t 10), .none⟩,
 ⟨(some 75), (some (70, false)), false, .bin .add (.t 74) (.c (.int .i64 1)), .none⟩,
 ⟨(some 76), (some (70, false)), false, .sliceV 2 (.t 72) (some (.t 73)) (some (.t 75)), .none⟩,
 ⟨(some 77), (some (70, false)), false, .callP 18 [(.u 71 .share), (.u 76 .share)], .none⟩,
 ⟨(some 78), (some (70, false)), false, .un .not (.t 77), .none⟩,
 o_ 79 (.pick (.t 70) (.c (.bool true)) (.t 78)),
 o_ 80 (.mv (.t 79)),
 ⟨(some 81), (some (80, false)), false, .mv (.t 15), .none⟩,
 ⟨(some 82), (some (80, false)), false, .bin .gtr (.t 81) (.c (.int .i64 3)), .none⟩,
 o_ 83 (.pick (.t 80) (.c (.bool true)) (.t 82))])
 (.cond (.t 83)
 (.seq (.region false [o_ 4 (.mv (.c (.bool false)))])
 (.ret))
 (.skip)))))))))))))
 (.region false [o_ 137 (.bin .add (.t 49) (.c (.int .i64 1))),
 o_ 49 (.mv (.t 137))])))))))
 (.seq (.region false [o_ 4 (.mv (.c (.bool true)))])
 (.ret)))))))))⟩
theorem c7 : cFunc Go.Proofs.Tryd.prog p7 7 = some a7 := by decide +kernel
def p8 : Plan := ⟨[71, 154], 2, [((18, 31), { mark := .free }),
 ((18, 27), { mark := .free }),
 ((18, 21), { mark := .free }),
 ((18, 7), { mark := .free }),
 ((6, 5), { uses := [(48, .take), (50, .take)], mark := .quiet }),
 ((6, 4), { mark := .free }),
 ((6, 3), { mark := (.loc 0) }),
 ((6, 2), { uses := [(46, .take), (47, .take)], mark := .quiet }),
 ((6, 0), { mark := .free }),
 ((0, 0), { box := some 0 }),
 ((2, 3), { pure := true }),
 ((4, 2), { uses := [(23, .share)] }),
 ((5, 12), { pure := true }),
 ((6, 6), { uses := [(51, .share)] }),
 ((7, 5), { pure := true }),
 ((7, 10), { uses := [(61, .share)] }),
 ((7, 15), { uses := [(66, .share)] }),
 ((9, 1), { uses := [(71, .peek)] }),
 ((11, 0), { uses := [(71, .peek)] }),
 ((15, 3), { box := some 1 }),
 ((16, 7), { uses := [(92, .share)] }),
 ((22, 2), { uses := [(138, .share)] }),
 ((24, 2), { uses := [(142, .share)] }),
 ((25, 12), { uses := [(154, .peek)] })],
 [[0, 5, 71, 72, 73], [0, 5, 8, 71, 72, 73, 80, 81, 82]]⟩
def a8 : AFunc := ⟨2, 158, 2, [.tmp 4],
 .seq (.region false [o_ 3 (.boxL 0 (.t 1)),
 o_ 4 (.mv (.c (.bool false)))])
 (.seq (.region false [o_ 15 (.callF 28 []),
 o_ 5 (.mv (.t 15))])
 (.seq (.seq (.region false [o_ 16 (.mv (.t 5)),
 o_ 17 (.eq false .ptr (.t 16) (.c .nilp)),
 o_ 18 (.mv (.t 17)),
 ⟨(some 19), (some (18, false)), false, .callP 16 [], .none⟩,
 ⟨(some 20), (some (18, false)), false, .un .not (.t 19), .none⟩,
 o_ 21 (.pick (.t 18) (.c (.bool true)) (.t 20))])
 (.cond (.t 21)
 (.seq (.region false [o_ 4 (.mv (.c (.bool false)))])
 (.ret))
 (.skip)))
 (.seq (.seq (.region false [o_ 22 (.mv (.t 5)),
 o_ 23 (.mv (.t 0)),
 o_ 24 (.callF 29 [(.t 22), (.c (.str [97])), (.u 23 .share), (.c (.str [111, 110, 101]))]),
 o_ 25 (.bin .neq (.t 24) (.c (.int .i64 0)))])
 (.cond (.t 25)
 (.seq (.region false [o_ 26 (.mv (.t 0)),
 o_ 27 (.lenSl (.t 26)),
 o_ 28 (.bin .eql (.t 27) (.c (.int .i64 0))),
 o_ 29 (.mv (.t 28)),
 ⟨(some 30), (some (29, false)), false, .mv (.t 0), .none⟩,
 ⟨(some 31), (some (29, false)), false, .lenSl (.t 30), .none⟩,
 ⟨(some 32), (some (29, false)), false, .bin .gtr (.t 31) (.c (.int .i64 4)), .none⟩,
 o_ 33 (.pick (.t 29) (.c (.bool true)) (.t 32)),
 o_ 34 (.mv (.t 33)),
 ⟨(some 35), (some (34, false)), false, .mv (.t 0), .none⟩,
 ⟨(some 36), (some (34, false)), false, .indexSl 2 (.t 35) (.c (.int .i64 0)), .none⟩,
 ⟨(some 37), (some (34, false)), false, .load true 2 (.t 36) .copy, .none⟩,
 ⟨(some 38), (some (34, false)), false, .callP 20 [(.t 37)], .none⟩,
 ⟨(some 39), (some (34, false)), false, .un .not (.t 38), .none⟩,
 o_ 40 (.pick (.t 34) (.c (.bool true)) (.t 39)),
 o_ 41 (.mv (.t 40)),
 ⟨(some 42), (some (41, false)), false, .mv (.t 0), .none⟩,
 ⟨(some 43), (some (41, false)), false, .lenSl (.t 42), .none⟩,
 ⟨(some 44), (some (41, false)), false, .bin .gtr (.t 43) (.c (.int .i64 1)), .none⟩,
 o_ 45 (.pick (.t 41) (.c (.bool true)) (.t 44)),
 o_ 4 (.mv (.t 45))])
 (.ret))
 (.skip)))
 (.seq (.region true [⟨(some 46), none, false, .buildSlice 2 [(.int .i32 0), (.int .i64 0)] 0 [], .free⟩,
 o_ 47 (.mv (.t 0)),
 ⟨(some 48), none, false, .append 2 (.u 46 .take) (.u 47 .take), .quiet⟩,
 ⟨(some 49), none, false, .load true 2 (.t 3) .copy, (.loc 0)⟩,
 ⟨(some 50), none, false, .buildSlice 2 [(.int .i32 0), (.int .i64 0)] 1 [(0, (.t 49))], .free⟩,
 ⟨(some 51), none, false, .append 2 (.u 48 .take) (.u 50 .take), .quiet⟩,
 o_ 6 (.mv (.u 51 .share))])
 (.seq (.seq (.region false [o_ 52 (.mv (.t 6)),
 o_ 53 (.lenSl (.t 52)),
 o_ 54 (.bin .leq (.t 53) (.c (.int .i64 4))),
 o_ 55 (.mv (.t 54)),
 ⟨(some 56), (some (55, true)), false, .load true 2 (.t 3) .copy, .none⟩,
 ⟨(some 57), (some (55, true)), false, .callP 20 [(.t 56)], .none⟩,
 o_ 58 (.pick (.t 55) (.t 57) (.c (.bool false))),
 o_ 59 (.mv (.t 58)),
 ⟨(some 60), (some (59, true)), false, .mv (.t 5), .none⟩,
 ⟨(some 61), (some (59, true)), false, .mv (.t 6), .none⟩,
 ⟨(some 62), (some (59, true)), false, .callF 29 [(.t 60), (.c (.str [97])), (.u 61 .share), (.c (.str [116, 119, 111]))], .none⟩,
 ⟨(some 63), (some (59, true)), false, .bin .neq (.t 62) (.c (.int .i64 180)), .none⟩,
 ⟨(some 64), (some (59, true)), false, .mv (.t 63), .none⟩,
 ⟨(some 65), (some (64, false)), false, .mv (.t 5), .none⟩,
 ⟨(some 66), (some (64, false)), false, .mv (.t 6), .none⟩,
 ⟨(some 67), (some (64, false)), false, .callF 29 [(.t 65), (.c (.str [98])), (.u 66 .share), (.c (.str [116, 119, 111]))], .none⟩,
 ⟨(some 68), (some (64, false)), false, .bin .neq (.t 67) (.c (.int .i64 0)), .none⟩,
 ⟨(some 69), (some (59, true)), false, .pick (.t 64) (.c (.bool true)) (.t 68), .none⟩,
 o_ 70 (.pick (.t 59) (.t 69) (.c (.bool false)))])
 (.cond (.t 70)
 (.seq (.region false [o_ 4 (.mv (.c (.bool false)))])
 (.ret))
 (.skip)))
 (.seq (.seq (.region false [⟨(some 71), none, true, .buildSlice 1 [(.str [])] 2 [(0, (.c (.str [99]))), (1, (.c (.str [97])))], .none⟩,
 o_ 72 (.lenSl (.u 71 .peek)),
 o_ 73 (.mv (.c (.int .i64 0)))])
 (.block 0 (.loop [0, 5, 71, 72, 73] (.seq (.region false [o_ 74 (.bin .lss (.t 73) (.t 72))])
 (.seq (.cond (.t 74)
 (.skip)
 (.exit 0))
 (.seq (.block 1 (.seq (.region false [o_ 75 (.indexSl 1 (.u 71 .peek) (.t 73)),
 o_ 76 (.load false 1 (.t 75) .copy),
 o_ 8 (.mv (.t 76))])
 (.seq (.region false [o_ 77 (.mv (.t 5)),
 o_ 78 (.mv (.t 8)),
 o_ 79 (.callF 31 [(.t 77), (.t 78)])])
 (.seq (.region false [o_ 80 (.mv (.t 0)),
 o_ 81 (.lenSl (.t 80)),
 o_ 82 (.mv (.c (.int .i64 0)))])
 (.block 2 (.loop [0, 5, 8, 71, 72, 73, 80, 81, 82] (.seq (.region false [o_ 83 (.bin .lss (.t 82) (.t 81))])
 (.seq (.cond (.t 83)
 (.skip)
 (.exit 2))
 (.seq (.block 3 (.seq (.region false [o_ 84 (.mv (.t 82)),
 o_ 85 (.indexSl 2 (.t 80) (.t 82)),
 o_ 86 (.load true 2 (.t 85) .copy),
 o_ 10 (.allocL 1 [(.int .i32 0), (.int .i64 0)]),
 o_ 9 (.mv (.t 84)),
 ⟨none, none, false, .store 2 (.t 10) (.t 86), .none⟩])
 (.seq (.region false [o_ 88 (.mv (.t 5)),
 o_ 89 (.load true 2 (.t 10) .copy),
 o_ 90 (.callF 32 [(.t 88), (.t 89)]),
 o_ 87 (.mv (.t 90)),
 o_ 91 (.extract (.t 87) 0),
 o_ 92 (.extract (.t 87) 1),
 o_ 11 (.mv (.t 91)),
 o_ 12 (.mv (.u 92 .share))])
 (.seq (.region false [o_ 93 (.mv (.t 9)),
 o_ 94 (.mv (.t 0)),
 o_ 95 (.lenSl (.t 94)),
 o_ 96 (.bin .sub (.t 95) (.c (.int .i64 1))),
 o_ 97 (.bin .eql (.t 93) (.t 96)),
 o_ 13 (.mv (.t 97))])
 (.seq (.region true [o_ 98 (.mv (.t 8)),
 o_ 99 (.bin .eql (.t 98) (.c (.str [99]))),
 o_ 100 (.mv (.t 99)),
 ⟨(some 101), (some (100, true)), false, .mv (.t 11), .none⟩,
 ⟨(some 102), (some (100, true)), false, .bin .neq (.t 101) (.c (.str [])), .none⟩,
 ⟨(some 103), (some (100, true)), false, .mv (.t 102), .none⟩,
 ⟨(some 104), (some (103, false)), false, .mv (.t 12), .none⟩,
 ⟨(some 105), (some (103, false)), false, .lenSl (.t 104), .free⟩,
 ⟨(some 106), (some (103, false)), false, .bin .neq (.t 105) (.c (.int .i64 1)), .none⟩,
 ⟨(some 107), (some (100, true)), false, .pick (.t 103) (.c (.bool true)) (.t 106), .none⟩,
 o_ 108 (.pick (.t 100) (.t 107) (.c (.bool false))),
 o_ 109 (.mv (.t 108)),
 ⟨(some 110), (some (109, false)), false, .mv (.t 8), .none⟩,
 ⟨(some 111), (some (109, false)), false, .bin .eql (.t 110) (.c (.str [97])), .none⟩,
 ⟨(some 112), (some (109, false)), false, .mv (.t 111), .none⟩,
 ⟨(some 113), (some (112, true)), false, .mv (.t 11), .none⟩,
 ⟨(some 114), (some (112, true)), false, .bin .eql (.t 113) (.c (.str [111, 110, 101])), .none⟩,
 ⟨(some 115), (some (112, true)), false, .mv (.t 13), .none⟩,
 ⟨(some 116), (some (112, true)), false, .eq true .bool (.t 114) (.t 115), .none⟩,
 ⟨(some 117), (some (112, true)), false, .mv (.t 116), .none⟩,
 ⟨(some 118), (some (117, false)), false, .mv (.t 12), .none⟩,
 ⟨(some 119), (some (117, false)), false, .lenSl (.t 118), .free⟩,
 ⟨(some 120), (some (117, false)), false, .bin .neq (.t 119) (.c (.int .i64 0)), .none⟩,
 ⟨(some 121), (some (112, true)), false, .pick (.t 117) (.c (.bool true)) (.t 120), .none⟩,
 ⟨(some 122), (some (112, true)), false, .mv (.t 121), .none⟩,
 ⟨(some 123), (some (122, false)), false, .mv (.t 5), .none⟩,
 ⟨(some 124), (some (122, false)), false, .callF 33 [(.t 123)], .none⟩,
 ⟨(some 125), (some (122, false)), false, .lenSl (.t 124), .free⟩,
 ⟨(some 126), (some (122, false)), false, .mv (.t 9), .none⟩,
 ⟨(some 127), (some (122, false)), false, .bin .add (.t 126) (.c (.int .i64 1)), .none⟩,
 ⟨(some 128), (some (122, false)), false, .mv (.t 0), .none⟩,
 ⟨(some 129), (some (122, false)), false, .lenSl (.t 128), .free⟩,
 ⟨(some 130), (some (122, false)), false, .bin .rem (.t 127) (.t 129), .none⟩,
 ⟨(some 131), (some (122, false)), false, .bin .neq (.t 125) (.t 130), .none⟩,
 ⟨(some 132), (some (112, true)), false, .pick (.t 122) (.c (.bool true)) (.t 131), .none⟩,
 ⟨(some 133), (some (109, false)), false, .pick (.t 112) (.t 132) (.c (.bool false)), .none⟩,
 o_ 134 (.pick (.t 109) (.c (.bool true)) (.t 133))])
 (.cond (.t 134)
 (.seq (.region false [o_ 4 (.mv (.c (.bool false)))])
 (.ret))
 (.skip)))))))
 (.region false [o_ 135 (.bin .add (.t 82) (.c (.int .i64 1))),
 o_ 82 (.mv (.t 135))]))))))))))
 (.region false [o_ 136 (.bin .add (.t 73) (.c (.int .i64 1))),
 o_ 73 (.mv (.t 136))])))))))
 (.seq (.seq (.region false [o_ 137 (.mv (.t 5)),
 o_ 138 (.mv (.t 0)),
 o_ 139 (.callF 29 [(.t 137), (.c (.str [97])), (.u 138 .share), (.c (.str [116, 104, 114, 101, 101]))]),
 o_ 140 (.bin .neq (.t 139) (.c (.int .i64 0)))])
 (.cond (.t 140)
 (.seq (.region false [o_ 4 (.mv (.c (.bool false)))])
 (.ret))
 (.skip)))
 (.seq (.region false [o_ 141 (.mv (.t 5)),
 o_ 142 (.callF 34 [(.t 141), (.c (.str [97]))]),
 o_ 14 (.mv (.u 142 .share))])
 (.seq (.region false [o_ 143 (.mv (.t 14)),
 o_ 144 (.lenSl (.t 143)),
 o_ 145 (.bin .eql (.t 144) (.c (.int .i64 1))),
 o_ 146 (.mv (.t 145)),
 ⟨(some 147), (some (146, true)), false, .mv (.t 14), .none⟩,
 ⟨(some 148), (some (146, true)), false, .indexSl 1 (.t 147) (.c (.int .i64 0)), .none⟩,
 ⟨(some 149), (some (146, true)), false, .load false 1 (.t 148) .copy, .none⟩,
 ⟨(some 150), (some (146, true)), false, .bin .eql (.t 149) (.c (.str [116, 104, 114, 101, 101])), .none⟩,
 o_ 151 (.pick (.t 146) (.t 150) (.c (.bool false))),
 o_ 152 (.mv (.t 151)),
 ⟨(some 153), (some (152, true)), false, .mv (.t 5), .none⟩,
 ⟨(some 154), (some (152, true)), true, .callF 34 [(.t 153), (.c (.str [99]))], .none⟩,
 ⟨(some 155), (some (152, true)), false, .lenSl (.u 154 .peek), .none⟩,
 ⟨(some 156), (some (152, true)), false, .bin .eql (.t 155) (.c (.int .i64 0)), .none⟩,
 o_ 157 (.pick (.t 152) (.t 156) (.c (.bool false))),
 o_ 4 (.mv (.t 157))])
 (.ret))))))))))⟩
theorem c8 : cFunc Go.Proofs.Tryd.prog p8 8 = some a8 := by decide +kernel
def p11 : Plan := ⟨[], 0, [],
 [[0, 1, 5]]⟩
def a11 : AFunc := ⟨2, 26, 0, [.tmp 4],
 .seq (.region false [o_ 4 (.mv (.c (.bool false)))])
 (.seq (.seq (.region false [o_ 6 (.mv (.t 0)),
 o_ 7 (.lenSl (.t 6)),
 o_ 8 (.mv (.t 1)),
 o_ 9 (.lenSl (.t 8)),
 o_ 10 (.bin .neq (.t 7) (.t 9))])
 (.cond (.t 10)
 (.seq (.region false [o_ 4 (.mv (.c (.bool false)))])
 (.ret))
 (.skip)))
 (.seq (.seq (.region false [o_ 5 (.mv (.c (.int .i64 0)))])
 (.block 0 (.loop [0, 1, 5] (.seq (.seq (.region false [o_ 11 (.mv (.t 5)),
 o_ 12 (.mv (.t 0)),
 o_ 13 (.lenSl (.t 12)),
 o_ 14 (.bin .lss (.t 11) (.t 13))])
 (.cond (.t 14)
 (.skip)
 (.exit 0)))
 (.seq (.block 1 (.seq (.region true [o_ 17 (.mv (.t 0)),
 o_ 18 (.mv (.t 5)),
 o_ 19 (.indexSl 1 (.t 17) (.t 18)),
 o_ 20 (.load false 1 (.t 19) .copy),
 o_ 21 (.mv (.t 1)),
 o_ 22 (.mv (.t 5)),
 o_ 23 (.indexSl 1 (.t 21) (.t 22)),
 o_ 24 (.load false 1 (.t 23) .copy),
 o_ 25 (.bin .neq (.t 20) (.t 24))])
 (.cond (.t 25)
 (.seq (.region false [o_ 4 (.mv (.c (.bool false)))])
 (.ret))
 (.skip))))
 (.region false [o_ 15 (.mv (.t 5)),
 o_ 16 (.bin .add (.t 15) (.c (.int .i64 1))),
 o_ 5 (.mv (.t 16))]))))))
 (.seq (.region false [o_ 4 (.mv (.c (.bool true)))])
 (.ret))))⟩
theorem c11 : cFunc Go.Proofs.Tryd.prog p11 11 = some a11 := by decide +kernel
def p17 : Plan := ⟨[], 1, [((2, 1), { uses := [(7, .share)], pure := true }),
 ((2, 2), { uses := [(8, .share)] }),
 ((8, 4), { pure := true }),
 ((8, 5), { box := some 0 }),
 ((10, 0), { uses := [(3, .take)] }),
 ((10, 3), { uses := [(46, .take), (48, .take)] }),
 ((10, 4), { uses := [(49, .take)] }),
 ((11, 0), { uses := [(3, .take)] }),
 ((11, 5), { pure := true }),
 ((11, 7), { uses := [(50, .take), (56, .take)] }),
 ((11, 8), { uses := [(57, .take)] }),
 ((12, 0), { uses := [(3, .take)] }),
 ((12, 1), { uses := [(58, .take)] })],
 [[3, 4, 5]]⟩
def a17 : AFunc := ⟨1, 59, 1, [.tmp 2],
 .seq (.region false [o_ 2 (.mv (.c .nils))])
 (.seq (.region false [o_ 3 (.mv (.c .nils))])
 (.seq (.region false [o_ 7 (.mv (.t 0)),
 o_ 8 (.callP 47 [(.u 7 .share)]),
 o_ 4 (.mv (.u 8 .share))])
 (.seq (.seq (.region false [o_ 5 (.mv (.c (.int .i64 0)))])
 (.block 0 (.loop [3, 4, 5] (.seq (.seq (.region false [o_ 9 (.mv (.t 5)),
 o_ 10 (.mv (.t 4)),
 o_ 11 (.lenSl (.t 10)),
 o_ 12 (.bin .lss (.t 9) (.t 11))])
 (.cond (.t 12)
 (.skip)
 (.exit 0)))
 (.seq (.block 1 (.seq (.seq (.region false [o_ 15 (.mv (.t 4)),
 o_ 16 (.mv (.t 5)),
 o_ 17 (.indexSl 1 (.t 15) (.t 16)),
 o_ 18 (.load false 1 (.t 17) .copy),
 o_ 19 (.bin .eql (.t 18) (.c (.int .i32 27))),
 o_ 20 (.mv (.t 19)),
 ⟨(some 21), (some (20, true)), false, .mv (.t 5), .none⟩,
 ⟨(some 22), (some (20, true)), false, .bin .add (.t 21) (.c (.int .i64 1)), .none⟩,
 ⟨(some 23), (some (20, true)), false, .mv (.t 4), .none⟩,
 ⟨(some 24), (some (20, true)), false, .lenSl (.t 23), .none⟩,
 ⟨(some 25), (some (20, true)), false, .bin .lss (.t 22) (.t 24), .none⟩,
 o_ 26 (.pick (.t 20) (.t 25) (.c (.bool false))),
 o_ 27 (.mv (.t 26)),
 ⟨(some 28), (some (27, true)), false, .mv (.t 4), .none⟩,
 ⟨(some 29), (some (27, true)), false, .mv (.t 5), .none⟩,
 ⟨(some 30), (some (27, true)), false, .bin .add (.t 29) (.c (.int .i64 1)), .none⟩,
 ⟨(some 31), (some (27, true)), false, .indexSl 1 (.t 28) (.t 30), .none⟩,
 ⟨(some 32), (some (27, true)), false, .load false 1 (.t 31) .copy, .none⟩,
 ⟨(some 33), (some (27, true)), false, .bin .neq (.t 32) (.c (.int .i32 27)), .none⟩,
 o_ 34 (.pick (.t 27) (.t 33) (.c (.bool false)))])
 (.cond (.t 34)
 (.seq (.region false [o_ 35 (.mv (.t 5)),
 o_ 36 (.bin .add (.t 35) (.c (.int .i64 1))),
 o_ 5 (.mv (.t 36))])
 (.seq (.region false [o_ 37 (.mv (.t 4)),
 o_ 38 (.mv (.t 5)),
 o_ 39 (.indexSl 1 (.t 37) (.t 38)),
 o_ 40 (.load false 1 (.t 39) .copy),
 o_ 41 (.callP 48 [(.t 40)]),
 o_ 6 (.allocL 0 [(.int .i32 0), (.int .i64 0)]),
 ⟨none, none, false, .store 2 (.t 6) (.t 41), .none⟩])
 (.seq (.region false [o_ 42 (.fieldAddr 1 (.t 6)),
 o_ 43 (.load false 1 (.t 42) .copy),
 o_ 44 (.bin .or (.t 43) (.c (.int .i64 2))),
 o_ 45 (.fieldAddr 1 (.t 6)),
 ⟨none, none, false, .store 1 (.t 45) (.t 44), .none⟩])
 (.seq (.region false [o_ 46 (.mv (.u 3 .take)),
 o_ 47 (.load true 2 (.t 6) .copy),
 o_ 48 (.buildSlice 2 [(.int .i32 0), (.int .i64 0)] 1 [(0, (.t 47))]),
 o_ 49 (.append 2 (.u 46 .take) (.u 48 .take)),
 o_ 3 (.mv (.u 49 .take))])
 (.exit 1)))))
 (.skip)))
 (.region false [o_ 50 (.mv (.u 3 .take)),
 o_ 51 (.mv (.t 4)),
 o_ 52 (.mv (.t 5)),
 o_ 53 (.indexSl 1 (.t 51) (.t 52)),
 o_ 54 (.load false 1 (.t 53) .copy),
 o_ 55 (.callP 48 [(.t 54)]),
 o_ 56 (.buildSlice 2 [(.int .i32 0), (.int .i64 0)] 1 [(0, (.t 55))]),
 o_ 57 (.append 2 (.u 50 .take) (.u 56 .take)),
 o_ 3 (.mv (.u 57 .take))])))
 (.region false [o_ 13 (.mv (.t 5)),
 o_ 14 (.bin .add (.t 13) (.c (.int .i64 1))),
 o_ 5 (.mv (.t 14))]))))))
 (.seq (.region false [o_ 58 (.mv (.u 3 .take)),
 o_ 2 (.mv (.u 58 .take))])
 (.ret)))))⟩
theorem c17 : cFunc Go.Proofs.Tryd.prog p17 17 = some a17 := by decide +kernel
def p18 : Plan := ⟨[], 0, [((1, 8), { uses := [(11, .share), (12, .share)], pure := true })],
 []⟩
def a18 : AFunc := ⟨2, 15, 0, [.tmp 4],
 .seq (.region false [o_ 4 (.mv (.c (.bool false)))])
 (.seq (.region false [o_ 5 (.mv (.t 0)),
 o_ 6 (.lenSl (.t 5)),
 o_ 7 (.mv (.t 1)),
 o_ 8 (.lenSl (.t 7)),
 o_ 9 (.bin .eql (.t 6) (.t 8)),
 o_ 10 (.mv (.t 9)),
 ⟨(some 11), (some (10, true)), false, .mv (.t 0), .none⟩,
 ⟨(some 12), (some (10, true)), false, .mv (.t 1), .none⟩,
 ⟨(some 13), (some (10, true)), false, .callP 49 [(.u 11 .share), (.u 12 .share)], .none⟩,
 o_ 14 (.pick (.t 10) (.t 13) (.c (.bool false))),
 o_ 4 (.mv (.t 14))])
 (.ret))⟩
theorem c18 : cFunc Go.Proofs.Tryd.prog p18 18 = some a18 := by decide +kernel
def p19 : Plan := ⟨[], 1, [((1, 1), { uses := [(7, .share)], pure := true }),
 ((1, 2), { uses := [(8, .share)] }),
 ((2, 1), { uses := [(9, .take)] }),
 ((8, 4), { pure := true }),
 ((8, 5), { box := some 0 }),
 ((9, 0), { uses := [(4, .take)] }),
 ((9, 8), { uses := [(43, .take), (50, .take)] }),
 ((9, 9), { uses := [(51, .take)] }),
 ((10, 0), { uses := [(4, .take)] }),
 ((10, 5), { pure := true }),
 ((10, 7), { uses := [(52, .take), (58, .take)] }),
 ((10, 8), { uses := [(59, .take)] }),
 ((11, 0), { uses := [(4, .take)] }),
 ((11, 1), { uses := [(60, .take)] })],
 [[3, 4, 5]]⟩
def a19 : AFunc := ⟨1, 61, 1, [.tmp 2],
 .seq (.region false [o_ 2 (.mv (.c .nils))])
 (.seq (.region false [o_ 7 (.mv (.t 0)),
 o_ 8 (.callP 50 [(.u 7 .share)]),
 o_ 3 (.mv (.u 8 .share))])
 (.seq (.region false [o_ 9 (.buildSlice 2 [(.int .i32 0), (.int .i64 0)] 0 []),
 o_ 4 (.mv (.u 9 .take))])
 (.seq (.seq (.region false [o_ 5 (.mv (.c (.int .i64 0)))])
 (.block 0 (.loop [3, 4, 5] (.seq (.seq (.region false [o_ 10 (.mv (.t 5)),
 o_ 11 (.mv (.t 3)),
 o_ 12 (.lenSl (.t 11)),
 o_ 13 (.bin .lss (.t 10) (.t 12))])
 (.cond (.t 13)
 (.skip)
 (.exit 0)))
 (.seq (.block 1 (.seq (.region false [o_ 16 (.mv (.t 3)),
 o_ 17 (.mv (.t 5)),
 o_ 18 (.indexSl 1 (.t 16) (.t 17)),
 o_ 19 (.load false 1 (.t 18) .copy),
 o_ 20 (.bin .eql (.t 19) (.c (.int .i32 27))),
 o_ 21 (.mv (.t 20)),
 ⟨(some 22), (some (21, true)), false, .mv (.t 5), .none⟩,
 ⟨(some 23), (some (21, true)), false, .bin .add (.t 22) (.c (.int .i64 1)), .none⟩,
 ⟨(some 24), (some (21, true)), false, .mv (.t 3), .none⟩,
 ⟨(some 25), (some (21, true)), false, .lenSl (.t 24), .none⟩,
 ⟨(some 26), (some (21, true)), false, .bin .lss (.t 23) (.t 25), .none⟩,
 o_ 27 (.pick (.t 21) (.t 26) (.c (.bool false))),
 o_ 28 (.mv (.t 27)),
 ⟨(some 29), (some (28, true)), false, .mv (.t 3), .none⟩,
 ⟨(some 30), (some (28, true)), false, .mv (.t 5), .none⟩,
 ⟨(some 31), (some (28, true)), false, .bin .add (.t 30) (.c (.int .i64 1)), .none⟩,
 ⟨(some 32), (some (28, true)), false, .indexSl 1 (.t 29) (.t 31), .none⟩,
 ⟨(some 33), (some (28, true)), false, .load false 1 (.t 32) .copy, .none⟩,
 ⟨(some 34), (some (28, true)), false, .bin .neq (.t 33) (.c (.int .i32 27)), .none⟩,
 o_ 35 (.pick (.t 28) (.t 34) (.c (.bool false)))])
 (.cond (.t 35)
 (.seq (.region false [o_ 36 (.mv (.t 5)),
 o_ 37 (.bin .add (.t 36) (.c (.int .i64 1))),
 o_ 5 (.mv (.t 37))])
 (.seq (.region false [o_ 38 (.mv (.t 3)),
 o_ 39 (.mv (.t 5)),
 o_ 40 (.indexSl 1 (.t 38) (.t 39)),
 o_ 41 (.load false 1 (.t 40) .copy),
 o_ 42 (.callP 51 [(.t 41)]),
 o_ 6 (.allocL 0 [(.int .i32 0), (.int .i64 0)]),
 ⟨none, none, false, .store 2 (.t 6) (.t 42), .none⟩])
 (.region false [o_ 43 (.mv (.u 4 .take)),
 o_ 44 (.fieldAddr 0 (.t 6)),
 o_ 45 (.load false 1 (.t 44) .copy),
 o_ 46 (.fieldAddr 1 (.t 6)),
 o_ 47 (.load false 1 (.t 46) .copy),
 o_ 48 (.bin .add (.t 47) (.c (.int .i64 2))),
 o_ 49 (.build [(.int .i32 0), (.int .i64 0)] [(0, 1, (.t 45)), (1, 1, (.t 48))]),
 o_ 50 (.buildSlice 2 [(.int .i32 0), (.int .i64 0)] 1 [(0, (.t 49))]),
 o_ 51 (.append 2 (.u 43 .take) (.u 50 .take)),
 o_ 4 (.mv (.u 51 .take))])))
 (.region false [o_ 52 (.mv (.u 4 .take)),
 o_ 53 (.mv (.t 3)),
 o_ 54 (.mv (.t 5)),
 o_ 55 (.indexSl 1 (.t 53) (.t 54)),
 o_ 56 (.load false 1 (.t 55) .copy),
 o_ 57 (.callP 51 [(.t 56)]),
 o_ 58 (.buildSlice 2 [(.int .i32 0), (.int .i64 0)] 1 [(0, (.t 57))]),
 o_ 59 (.append 2 (.u 52 .take) (.u 58 .take)),
 o_ 4 (.mv (.u 59 .take))]))))
 (.region false [o_ 14 (.mv (.t 5)),
 o_ 15 (.bin .add (.t 14) (.c (.int .i64 1))),
 o_ 5 (.mv (.t 15))]))))))
 (.seq (.region false [o_ 60 (.mv (.u 4 .take)),
 o_ 2 (.mv (.u 60 .take))])
 (.ret)))))⟩
theorem c19 : cFunc Go.Proofs.Tryd.prog p19 19 = some a19 := by decide +kernel
def p20 : Plan := ⟨[], 1, [((0, 0), { box := some 0 }),
 ((4, 2), { pure := true }),
 ((7, 2), { pure := true })],
 []⟩
def a20 : AFunc := ⟨1, 18, 1, [.tmp 2],
 .seq (.region false [o_ 1 (.boxL 0 (.t 0)),
 o_ 2 (.mv (.c (.bool false)))])
 (.seq (.seq (.region false [o_ 3 (.fieldAddr 1 (.t 1)),
 o_ 4 (.load false 1 (.t 3) .copy)])
 (.block 0 (.seq (.seq (.region false [o_ 6 (.bin .eql (.t 4) (.c (.int .i64 0))),
 o_ 5 (.mv (.t 6))])
 (.cond (.t 5)
 (.skip)
 (.region false [o_ 7 (.bin .eql (.t 4) (.c (.int .i64 2))),
 o_ 5 (.mv (.t 7))])))
 (.cond (.t 5)
 (.seq (.region false [o_ 8 (.fieldAddr 0 (.t 1)),
 o_ 9 (.load false 1 (.t 8) .copy),
 o_ 10 (.callP 52 [(.t 9)]),
 o_ 2 (.mv (.t 10))])
 (.ret))
 (.seq (.seq (.region false [o_ 12 (.bin .eql (.t 4) (.c (.int .i64 1))),
 o_ 11 (.mv (.t 12))])
 (.cond (.t 11)
 (.skip)
 (.region false [o_ 13 (.bin .eql (.t 4) (.c (.int .i64 3))),
 o_ 11 (.mv (.t 13))])))
 (.cond (.t 11)
 (.seq (.region false [o_ 14 (.fieldAddr 0 (.t 1)),
 o_ 15 (.load false 1 (.t 14) .copy),
 o_ 16 (.callP 53 [(.t 15)]),
 o_ 17 (.bin .geq (.t 16) (.c (.int .i64 0))),
 o_ 2 (.mv (.t 17))])
 (.ret))
 (.skip)))))))
 (.seq (.region false [o_ 2 (.mv (.c (.bool false)))])
 (.ret)))⟩
theorem c20 : cFunc Go.Proofs.Tryd.prog p20 20 = some a20 := by decide +kernel
def p21 : Plan := ⟨[], 1, [((0, 0), { box := some 0 }),
 ((2, 2), { pure := true }),
 ((6, 27), { pure := true })],
 []⟩
def a21 : AFunc := ⟨1, 56, 1, [.tmp 2],
 .seq (.region false [o_ 1 (.boxL 0 (.t 0)),
 o_ 2 (.mv (.c (.bool false)))])
 (.seq (.seq (.region false [o_ 4 (.fieldAddr 1 (.t 1)),
 o_ 5 (.load false 1 (.t 4) .copy),
 o_ 6 (.bin .eql (.t 5) (.c (.int .i64 1))),
 o_ 7 (.mv (.t 6)),
 ⟨(some 8), (some (7, false)), false, .fieldAddr 1 (.t 1), .none⟩,
 ⟨(some 9), (some (7, false)), false, .load false 1 (.t 8) .copy, .none⟩,
 ⟨(some 10), (some (7, false)), false, .bin .eql (.t 9) (.c (.int .i64 3)), .none⟩,
 o_ 11 (.pick (.t 7) (.c (.bool true)) (.t 10))])
 (.cond (.t 11)
 (.seq (.region false [o_ 12 (.fieldAddr 0 (.t 1)),
 o_ 13 (.load false 1 (.t 12) .copy),
 o_ 14 (.callP 54 [(.t 13)]),
 o_ 15 (.bin .geq (.t 14) (.c (.int .i64 0))),
 o_ 2 (.mv (.t 15))])
 (.ret))
 (.skip)))
 (.seq (.seq (.region false [o_ 16 (.fieldAddr 1 (.t 1)),
 o_ 17 (.load false 1 (.t 16) .copy),
 o_ 18 (.bin .neq (.t 17) (.c (.int .i64 0))),
 o_ 19 (.mv (.t 18)),
 ⟨(some 20), (some (19, true)), false, .fieldAddr 1 (.t 1), .none⟩,
 ⟨(some 21), (some (19, true)), false, .load false 1 (.t 20) .copy, .none⟩,
 ⟨(some 22), (some (19, true)), false, .bin .neq (.t 21) (.c (.int .i64 2)), .none⟩,
 o_ 23 (.pick (.t 19) (.t 22) (.c (.bool false)))])
 (.cond (.t 23)
 (.seq (.region false [o_ 2 (.mv (.c (.bool false)))])
 (.ret))
 (.skip)))
 (.seq (.region false [o_ 24 (.fieldAddr 0 (.t 1)),
 o_ 25 (.load false 1 (.t 24) .copy),
 o_ 3 (.mv (.t 25))])
 (.seq (.region false [o_ 26 (.mv (.t 3)),
 o_ 27 (.bin .eql (.t 26) (.c (.int .i32 9))),
 o_ 28 (.mv (.t 27)),
 ⟨(some 29), (some (28, false)), false, .mv (.t 3), .none⟩,
 ⟨(some 30), (some (28, false)), false, .bin .eql (.t 29) (.c (.int .i32 13)), .none⟩,
 o_ 31 (.pick (.t 28) (.c (.bool true)) (.t 30)),
 o_ 32 (.mv (.t 31)),
 ⟨(some 33), (some (32, false)), false, .mv (.t 3), .none⟩,
 ⟨(some 34), (some (32, false)), false, .bin .eql (.t 33) (.c (.int .i32 27)), .none⟩,
 o_ 35 (.pick (.t 32) (.c (.bool true)) (.t 34)),
 o_ 36 (.mv (.t 35)),
 ⟨(some 37), (some (36, false)), false, .mv (.t 3), .none⟩,
 ⟨(some 38), (some (36, false)), false, .bin .eql (.t 37) (.c (.int .i32 127)), .none⟩,
 o_ 39 (.pick (.t 36) (.c (.bool true)) (.t 38)),
 o_ 40 (.mv (.t 39)),
 ⟨(some 41), (some (40, false)), false, .mv (.t 3), .none⟩,
 ⟨(some 42), (some (40, false)), false, .bin .geq (.t 41) (.c (.int .i32 32)), .none⟩,
 ⟨(some 43), (some (40, false)), false, .mv (.t 42), .none⟩,
 ⟨(some 44), (some (43, true)), false, .mv (.t 3), .none⟩,
 ⟨(some 45), (some (43, true)), false, .bin .leq (.t 44) (.c (.int .i32 126)), .none⟩,
 ⟨(some 46), (some (40, false)), false, .pick (.t 43) (.t 45) (.c (.bool false)), .none⟩,
 o_ 47 (.pick (.t 40) (.c (.bool true)) (.t 46)),
 o_ 48 (.mv (.t 47)),
 ⟨(some 49), (some (48, false)), false, .mv (.t 3), .none⟩,
 ⟨(some 50), (some (48, false)), false, .bin .geq (.t 49) (.c (.int .i32 128)), .none⟩,
 ⟨(some 51), (some (48, false)), false, .mv (.t 50), .none⟩,
 ⟨(some 52), (some (51, true)), false, .mv (.t 3), .none⟩,
 ⟨(some 53), (some (51, true)), false, .callP 55 [(.t 52)], .none⟩,
 ⟨(some 54), (some (48, false)), false, .pick (.t 51) (.t 53) (.c (.bool false)), .none⟩,
 o_ 55 (.pick (.t 48) (.c (.bool true)) (.t 54)),
 o_ 2 (.mv (.t 55))])
 (.ret)))))⟩
theorem c21 : cFunc Go.Proofs.Tryd.prog p21 21 = some a21 := by decide +kernel
def p22 : Plan := ⟨[], 1, [((0, 0), { box := some 0 }),
 ((1, 1), { pure := true }),
 ((5, 0), { uses := [(3, .take)] }),
 ((5, 2), { uses := [(11, .take), (12, .take)] }),
 ((5, 3), { uses := [(13, .take)] }),
 ((7, 0), { uses := [(3, .take)] }),
 ((7, 3), { pure := true }),
 ((7, 6), { uses := [(18, .take), (23, .take)] }),
 ((7, 7), { uses := [(24, .take)] }),
 ((8, 0), { uses := [(3, .take)] }),
 ((8, 4), { uses := [(28, .share)], pure := true }),
 ((8, 5), { uses := [(25, .take), (29, .take)] }),
 ((8, 6), { uses := [(30, .take)] })],
 []⟩
def a22 : AFunc := ⟨1, 31, 1, [.tmp 2],
 .seq (.region false [o_ 1 (.boxL 0 (.t 0)),
 o_ 2 (.mv (.c .nils))])
 (.seq (.seq (.region false [o_ 4 (.load true 2 (.t 1) .copy),
 o_ 5 (.callP 20 [(.t 4)]),
 o_ 6 (.un .not (.t 5))])
 (.cond (.t 6)
 (.seq (.region false [o_ 2 (.mv (.c .nils))])
 (.ret))
 (.skip)))
 (.seq (.region false [o_ 3 (.mv (.c .nils))])
 (.seq (.seq (.region false [o_ 7 (.fieldAddr 1 (.t 1)),
 o_ 8 (.load false 1 (.t 7) .copy),
 o_ 9 (.bin .and (.t 8) (.c (.int .i64 2))),
 o_ 10 (.bin .neq (.t 9) (.c (.int .i64 0)))])
 (.cond (.t 10)
 (.region false [o_ 11 (.mv (.u 3 .take)),
 o_ 12 (.buildSlice 1 [(.int .u8 0)] 1 [(0, (.c (.int .u8 27)))]),
 o_ 13 (.append 1 (.u 11 .take) (.u 12 .take)),
 o_ 3 (.mv (.u 13 .take))])
 (.skip)))
 (.seq (.seq (.region false [o_ 14 (.fieldAddr 1 (.t 1)),
 o_ 15 (.load false 1 (.t 14) .copy),
 o_ 16 (.bin .and (.t 15) (.c (.int .i64 1))),
 o_ 17 (.bin .neq (.t 16) (.c (.int .i64 0)))])
 (.cond (.t 17)
 (.seq (.region false [o_ 18 (.mv (.u 3 .take)),
 o_ 19 (.fieldAddr 0 (.t 1)),
 o_ 20 (.load false 1 (.t 19) .copy),
 o_ 21 (.callP 53 [(.t 20)]),
 o_ 22 (.conv .u8 (.t 21)),
 o_ 23 (.buildSlice 1 [(.int .u8 0)] 1 [(0, (.t 22))]),
 o_ 24 (.append 1 (.u 18 .take) (.u 23 .take)),
 o_ 2 (.mv (.u 24 .take))])
 (.ret))
 (.skip)))
 (.seq (.region false [o_ 25 (.mv (.u 3 .take)),
 o_ 26 (.fieldAddr 0 (.t 1)),
 o_ 27 (.load false 1 (.t 26) .copy),
 o_ 28 (.buildSlice 1 [(.int .i32 0)] 1 [(0, (.t 27))]),
 o_ 29 (.callP 56 [(.u 28 .share)]),
 o_ 30 (.append 1 (.u 25 .take) (.u 29 .take)),
 o_ 2 (.mv (.u 30 .take))])
 (.ret))))))⟩
theorem c22 : cFunc Go.Proofs.Tryd.prog p22 22 = some a22 := by decide +kernel
def p23 : Plan := ⟨[], 1, [((0, 0), { box := some 0 }),
 ((1, 1), { uses := [(6, .take)] }),
 ((2, 1), { pure := true }),
 ((3, 0), { uses := [(3, .take)] }),
 ((3, 1), { uses := [(10, .take)] }),
 ((5, 0), { uses := [(3, .take)] }),
 ((5, 2), { uses := [(14, .take), (15, .take)] }),
 ((5, 3), { uses := [(16, .take)] }),
 ((7, 0), { uses := [(3, .take)] }),
 ((7, 3), { pure := true }),
 ((7, 6), { uses := [(25, .take), (30, .take)] }),
 ((7, 7), { uses := [(31, .take)] }),
 ((8, 3), { uses := [(34, .share)], pure := true }),
 ((8, 4), { uses := [(35, .share)] }),
 ((12, 0), { uses := [(3, .take)] }),
 ((12, 6), { uses := [(42, .take), (47, .take)] }),
 ((12, 7), { uses := [(48, .take)] }),
 ((13, 0), { uses := [(3, .take)] }),
 ((13, 1), { uses := [(49, .take)] })],
 [[3, 4, 5]]⟩
def a23 : AFunc := ⟨1, 50, 1, [.tmp 2],
 .seq (.region false [o_ 1 (.boxL 0 (.t 0)),
 o_ 2 (.mv (.c .nils))])
 (.seq (.region false [o_ 6 (.buildSlice 1 [(.int .u8 0)] 0 []),
 o_ 3 (.mv (.u 6 .take))])
 (.seq (.seq (.region false [o_ 7 (.load true 2 (.t 1) .copy),
 o_ 8 (.callP 21 [(.t 7)]),
 o_ 9 (.un .not (.t 8))])
 (.cond (.t 9)
 (.seq (.region false [o_ 10 (.mv (.u 3 .take)),
 o_ 2 (.mv (.u 10 .take))])
 (.ret))
 (.skip)))
 (.seq (.seq (.region false [o_ 11 (.fieldAddr 1 (.t 1)),
 o_ 12 (.load false 1 (.t 11) .copy),
 o_ 13 (.bin .geq (.t 12) (.c (.int .i64 2)))])
 (.cond (.t 13)
 (.region false [o_ 14 (.mv (.u 3 .take)),
 o_ 15 (.buildSlice 1 [(.int .u8 0)] 1 [(0, (.c (.int .u8 27)))]),
 o_ 16 (.append 1 (.u 14 .take) (.u 15 .take)),
 o_ 3 (.mv (.u 16 .take))])
 (.skip)))
 (.seq (.seq (.region false [o_ 17 (.fieldAddr 1 (.t 1)),
 o_ 18 (.load false 1 (.t 17) .copy),
 o_ 19 (.bin .eql (.t 18) (.c (.int .i64 1))),
 o_ 20 (.mv (.t 19)),
 ⟨(some 21), (some (20, false)), false, .fieldAddr 1 (.t 1), .none⟩,
 ⟨(some 22), (some (20, false)), false, .load false 1 (.t 21) .copy, .none⟩,
 ⟨(some 23), (some (20, false)), false, .bin .eql (.t 22) (.c (.int .i64 3)), .none⟩,
 o_ 24 (.pick (.t 20) (.c (.bool true)) (.t 23))])
 (.cond (.t 24)
 (.seq (.region false [o_ 25 (.mv (.u 3 .take)),
 o_ 26 (.fieldAddr 0 (.t 1)),
 o_ 27 (.load false 1 (.t 26) .copy),
 o_ 28 (.callP 54 [(.t 27)]),
 o_ 29 (.conv .u8 (.t 28)),
 o_ 30 (.buildSlice 1 [(.int .u8 0)] 1 [(0, (.t 29))]),
 o_ 31 (.append 1 (.u 25 .take) (.u 30 .take)),
 o_ 2 (.mv (.u 31 .take))])
 (.ret))
 (.skip)))
 (.seq (.region false [o_ 32 (.fieldAddr 0 (.t 1)),
 o_ 33 (.load false 1 (.t 32) .copy),
 o_ 34 (.buildSlice 1 [(.int .i32 0)] 1 [(0, (.t 33))]),
 o_ 35 (.callP 57 [(.u 34 .share)]),
 o_ 4 (.mv (.u 35 .share))])
 (.seq (.seq (.region false [o_ 5 (.mv (.c (.int .i64 0)))])
 (.block 0 (.loop [3, 4, 5] (.seq (.seq (.region false [o_ 36 (.mv (.t 5)),
 o_ 37 (.mv (.t 4)),
 o_ 38 (.lenSl (.t 37)),
 o_ 39 (.bin .lss (.t 36) (.t 38))])
 (.cond (.t 39)
 (.skip)
 (.exit 0)))
 (.seq (.block 1 (.region false [o_ 42 (.mv (.u 3 .take)),
 o_ 43 (.mv (.t 4)),
 o_ 44 (.mv (.t 5)),
 o_ 45 (.indexSl 1 (.t 43) (.t 44)),
 o_ 46 (.load false 1 (.t 45) .copy),
 o_ 47 (.buildSlice 1 [(.int .u8 0)] 1 [(0, (.t 46))]),
 o_ 48 (.append 1 (.u 42 .take) (.u 47 .take)),
 o_ 3 (.mv (.u 48 .take))]))
 (.region false [o_ 40 (.mv (.t 5)),
 o_ 41 (.bin .add (.t 40) (.c (.int .i64 1))),
 o_ 5 (.mv (.t 41))]))))))
 (.seq (.region false [o_ 49 (.mv (.u 3 .take)),
 o_ 2 (.mv (.u 49 .take))])
 (.ret))))))))⟩
theorem c23 : cFunc Go.Proofs.Tryd.prog p23 23 = some a23 := by decide +kernel
def p24 : Plan := ⟨[], 1, [((0, 0), { box := some 0 }),
 ((1, 1), { pure := true }),
 ((8, 3), { pure := true })],
 []⟩
def a24 : AFunc := ⟨1, 24, 1, [.tmp 2],
 .seq (.region false [o_ 1 (.boxL 0 (.t 0)),
 o_ 2 (.mv (.c (.str [])))])
 (.seq (.seq (.region false [o_ 4 (.load true 2 (.t 1) .copy),
 o_ 5 (.callP 20 [(.t 4)]),
 o_ 6 (.un .not (.t 5))])
 (.cond (.t 6)
 (.seq (.region false [o_ 2 (.mv (.c (.str [])))])
 (.ret))
 (.skip)))
 (.seq (.region false [o_ 3 (.mv (.c (.str [])))])
 (.seq (.seq (.region false [o_ 7 (.fieldAddr 1 (.t 1)),
 o_ 8 (.load false 1 (.t 7) .copy),
 o_ 9 (.bin .and (.t 8) (.c (.int .i64 1))),
 o_ 10 (.bin .neq (.t 9) (.c (.int .i64 0)))])
 (.cond (.t 10)
 (.region false [o_ 11 (.mv (.t 3)),
 o_ 12 (.bin .add (.t 11) (.c (.str [67, 116, 114, 108, 45]))),
 o_ 3 (.mv (.t 12))])
 (.skip)))
 (.seq (.seq (.region false [o_ 13 (.fieldAddr 1 (.t 1)),
 o_ 14 (.load false 1 (.t 13) .copy),
 o_ 15 (.bin .and (.t 14) (.c (.int .i64 2))),
 o_ 16 (.bin .neq (.t 15) (.c (.int .i64 0)))])
 (.cond (.t 16)
 (.region false [o_ 17 (.mv (.t 3)),
 o_ 18 (.bin .add (.t 17) (.c (.str [65, 108, 116, 45]))),
 o_ 3 (.mv (.t 18))])
 (.skip)))
 (.seq (.region false [o_ 19 (.mv (.t 3)),
 o_ 20 (.fieldAddr 0 (.t 1)),
 o_ 21 (.load false 1 (.t 20) .copy),
 o_ 22 (.callP 58 [(.t 21)]),
 o_ 23 (.bin .add (.t 19) (.t 22)),
 o_ 2 (.mv (.t 23))])
 (.ret))))))⟩
theorem c24 : cFunc Go.Proofs.Tryd.prog p24 24 = some a24 := by decide +kernel
def p25 : Plan := ⟨[50], 1, [((0, 0), { box := some 0 }),
 ((1, 1), { pure := true }),
 ((8, 0), { pure := true }),
 ((8, 4), { uses := [(25, .share)] }),
 ((8, 5), { uses := [(26, .share)] }),
 ((14, 4), { uses := [(49, .share)], pure := true }),
 ((14, 5), { uses := [(50, .peek)] })],
 [[1, 3, 4, 5, 6]]⟩
def a25 : AFunc := ⟨1, 53, 1, [.tmp 2],
 .seq (.region false [o_ 1 (.boxL 0 (.t 0)),
 o_ 2 (.mv (.c (.str [])))])
 (.seq (.seq (.region false [o_ 7 (.load true 2 (.t 1) .copy),
 o_ 8 (.callP 21 [(.t 7)]),
 o_ 9 (.un .not (.t 8))])
 (.cond (.t 9)
 (.seq (.region false [o_ 2 (.mv (.c (.str [])))])
 (.ret))
 (.skip)))
 (.seq (.region false [o_ 3 (.mv (.c (.str [])))])
 (.seq (.seq (.region false [o_ 10 (.fieldAddr 1 (.t 1)),
 o_ 11 (.load false 1 (.t 10) .copy),
 o_ 12 (.bin .eql (.t 11) (.c (.int .i64 1))),
 o_ 13 (.mv (.t 12)),
 ⟨(some 14), (some (13, false)), false, .fieldAddr 1 (.t 1), .none⟩,
 ⟨(some 15), (some (13, false)), false, .load false 1 (.t 14) .copy, .none⟩,
 ⟨(some 16), (some (13, false)), false, .bin .eql (.t 15) (.c (.int .i64 3)), .none⟩,
 o_ 17 (.pick (.t 13) (.c (.bool true)) (.t 16))])
 (.cond (.t 17)
 (.region false [o_ 3 (.mv (.c (.str [67, 116, 114, 108, 45])))])
 (.skip)))
 (.seq (.seq (.region false [o_ 18 (.fieldAddr 1 (.t 1)),
 o_ 19 (.load false 1 (.t 18) .copy),
 o_ 20 (.bin .geq (.t 19) (.c (.int .i64 2)))])
 (.cond (.t 20)
 (.region false [o_ 21 (.mv (.t 3)),
 o_ 22 (.bin .add (.t 21) (.c (.str [65, 108, 116, 45]))),
 o_ 3 (.mv (.t 22))])
 (.skip)))
 (.seq (.region false [o_ 24 (.callP 59 []),
 o_ 23 (.mv (.t 24)),
 o_ 25 (.extract (.t 23) 0),
 o_ 26 (.extract (.t 23) 1),
 o_ 4 (.mv (.u 25 .share)),
 o_ 5 (.mv (.u 26 .share))])
 (.seq (.seq (.region false [o_ 6 (.mv (.c (.int .i64 0)))])
 (.block 0 (.loop [1, 3, 4, 5, 6] (.seq (.seq (.region false [o_ 27 (.mv (.t 6)),
 o_ 28 (.mv (.t 4)),
 o_ 29 (.lenSl (.t 28)),
 o_ 30 (.bin .lss (.t 27) (.t 29))])
 (.cond (.t 30)
 (.skip)
 (.exit 0)))
 (.seq (.block 1 (.seq (.region true [o_ 33 (.fieldAddr 0 (.t 1)),
 o_ 34 (.load false 1 (.t 33) .copy),
 o_ 35 (.mv (.t 4)),
 o_ 36 (.mv (.t 6)),
 o_ 37 (.indexSl 1 (.t 35) (.t 36)),
 o_ 38 (.load false 1 (.t 37) .copy),
 o_ 39 (.bin .eql (.t 34) (.t 38))])
 (.cond (.t 39)
 (.seq (.region false [o_ 40 (.mv (.t 3)),
 o_ 41 (.mv (.t 5)),
 o_ 42 (.mv (.t 6)),
 o_ 43 (.indexSl 1 (.t 41) (.t 42)),
 o_ 44 (.load false 1 (.t 43) .copy),
 o_ 45 (.bin .add (.t 40) (.t 44)),
 o_ 2 (.mv (.t 45))])
 (.ret))
 (.skip))))
 (.region false [o_ 31 (.mv (.t 6)),
 o_ 32 (.bin .add (.t 31) (.c (.int .i64 1))),
 o_ 6 (.mv (.t 32))]))))))
 (.seq (.region false [o_ 46 (.mv (.t 3)),
 o_ 47 (.fieldAddr 0 (.t 1)),
 o_ 48 (.load false 1 (.t 47) .copy),
 o_ 49 (.buildSlice 1 [(.int .i32 0)] 1 [(0, (.t 48))]),
 ⟨(some 50), none, true, .callP 57 [(.u 49 .share)], .none⟩,
 o_ 51 (.bytesStr (.u 50 .peek)),
 o_ 52 (.bin .add (.t 46) (.t 51)),
 o_ 2 (.mv (.t 52))])
 (.ret))))))))⟩
theorem c25 : cFunc Go.Proofs.Tryd.prog p25 25 = some a25 := by decide +kernel
def p26 : Plan := ⟨[10], 1, [((2, 1), { pure := true }),
 ((2, 2), { uses := [(10, .peek)] }),
 ((4, 0), { uses := [(10, .peek)] }),
 ((6, 1), { pure := true }),
 ((6, 5), { box := some 0 }),
 ((9, 0), { uses := [(4, .take)] }),
 ((9, 3), { uses := [(25, .take), (27, .take)] }),
 ((9, 4), { uses := [(28, .take)] }),
 ((11, 0), { uses := [(4, .take)] }),
 ((11, 1), { uses := [(30, .share)] })],
 [[4, 10, 11, 12]]⟩
def a26 : AFunc := ⟨1, 31, 1, [.tmp 2, .tmp 3],
 .seq (.region false [o_ 2 (.mv (.c .nils)),
 o_ 3 (.mv (.c (.int .i64 0)))])
 (.seq (.region false [o_ 4 (.mv (.c .nils))])
 (.seq (.seq (.region false [o_ 9 (.mv (.t 0)),
 ⟨(some 10), none, true, .callP 60 [(.t 9), (.c (.str [32]))], .none⟩,
 o_ 11 (.lenSl (.u 10 .peek)),
 o_ 12 (.mv (.c (.int .i64 0)))])
 (.block 0 (.loop [4, 10, 11, 12] (.seq (.region false [o_ 13 (.bin .lss (.t 12) (.t 11))])
 (.seq (.cond (.t 13)
 (.skip)
 (.exit 0))
 (.seq (.block 1 (.seq (.region false [o_ 14 (.indexSl 1 (.u 10 .peek) (.t 12)),
 o_ 15 (.load false 1 (.t 14) .copy),
 o_ 6 (.mv (.t 15))])
 (.seq (.seq (.region false [o_ 16 (.mv (.t 6)),
 o_ 17 (.bin .eql (.t 16) (.c (.str [])))])
 (.cond (.t 17)
 (.exit 1)
 (.skip)))
 (.seq (.region false [o_ 19 (.mv (.t 6)),
 o_ 20 (.callP 61 [(.t 19)]),
 o_ 18 (.mv (.t 20)),
 o_ 21 (.extract (.t 18) 0),
 o_ 22 (.extract (.t 18) 1),
 o_ 7 (.allocL 0 [(.int .i32 0), (.int .i64 0)]),
 ⟨none, none, false, .store 2 (.t 7) (.t 21), .none⟩,
 o_ 8 (.mv (.t 22))])
 (.seq (.seq (.region false [o_ 23 (.mv (.t 8)),
 o_ 24 (.un .not (.t 23))])
 (.cond (.t 24)
 (.seq (.region false [o_ 2 (.mv (.c .nils)),
 o_ 3 (.mv (.c (.int .i64 180)))])
 (.ret))
 (.skip)))
 (.region false [o_ 25 (.mv (.u 4 .take)),
 o_ 26 (.load true 2 (.t 7) .copy),
 o_ 27 (.buildSlice 2 [(.int .i32 0), (.int .i64 0)] 1 [(0, (.t 26))]),
 o_ 28 (.append 2 (.u 25 .take) (.u 27 .take)),
 o_ 4 (.mv (.u 28 .take))]))))))
 (.region false [o_ 29 (.bin .add (.t 12) (.c (.int .i64 1))),
 o_ 12 (.mv (.t 29))])))))))
 (.seq (.region false [o_ 30 (.mv (.u 4 .take)),
 o_ 2 (.mv (.u 30 .share)),
 o_ 3 (.mv (.c (.int .i64 0)))])
 (.ret))))⟩
theorem c26 : cFunc Go.Proofs.Tryd.prog p26 26 = some a26 := by decide +kernel
def p27 : Plan := ⟨[], 1, [((1, 1), { uses := [(9, .take)] }),
 ((9, 4), { pure := true }),
 ((9, 8), { box := some 0 }),
 ((12, 0), { uses := [(4, .take)] }),
 ((12, 3), { uses := [(43, .take), (45, .take)] }),
 ((12, 4), { uses := [(46, .take)] }),
 ((14, 0), { uses := [(4, .take)] }),
 ((14, 1), { uses := [(48, .share)] })],
 [[0, 4, 5], [0, 4, 5, 6]]⟩
def a27 : AFunc := ⟨1, 49, 1, [.tmp 2, .tmp 3],
 .seq (.region false [o_ 2 (.mv (.c .nils)),
 o_ 3 (.mv (.c (.int .i64 0)))])
 (.seq (.region false [o_ 9 (.buildSlice 2 [(.int .i32 0), (.int .i64 0)] 0 []),
 o_ 4 (.mv (.u 9 .take))])
 (.seq (.seq (.region false [o_ 5 (.mv (.c (.int .i64 0)))])
 (.block 0 (.loop [0, 4, 5] (.seq (.seq (.region false [o_ 10 (.mv (.t 5)),
 o_ 11 (.mv (.t 0)),
 o_ 12 (.lenStr (.t 11)),
 o_ 13 (.bin .lss (.t 10) (.t 12))])
 (.cond (.t 13)
 (.skip)
 (.exit 0)))
 (.block 1 (.seq (.seq (.region false [o_ 14 (.mv (.t 0)),
 o_ 15 (.mv (.t 5)),
 o_ 16 (.indexStr (.t 14) (.t 15)),
 o_ 17 (.bin .eql (.t 16) (.c (.int .u8 32)))])
 (.cond (.t 17)
 (.seq (.region false [o_ 18 (.mv (.t 5)),
 o_ 19 (.bin .add (.t 18) (.c (.int .i64 1))),
 o_ 5 (.mv (.t 19))])
 (.exit 1))
 (.skip)))
 (.seq (.region false [o_ 20 (.mv (.t 5)),
 o_ 6 (.mv (.t 20))])
 (.seq (.block 2 (.loop [0, 4, 5, 6] (.seq (.seq (.region false [o_ 21 (.mv (.t 6)),
 o_ 22 (.mv (.t 0)),
 o_ 23 (.lenStr (.t 22)),
 o_ 24 (.bin .lss (.t 21) (.t 23)),
 o_ 25 (.mv (.t 24)),
 ⟨(some 26), (some (25, true)), false, .mv (.t 0), .none⟩,
 ⟨(some 27), (some (25, true)), false, .mv (.t 6), .none⟩,
 ⟨(some 28), (some (25, true)), false, .indexStr (.t 26) (.t 27), .none⟩,
 ⟨(some 29), (some (25, true)), false, .bin .neq (.t 28) (.c (.int .u8 32)), .none⟩,
 o_ 30 (.pick (.t 25) (.t 29) (.c (.bool false)))])
 (.cond (.t 30)
 (.skip)
 (.exit 2)))
 (.block 3 (.region false [o_ 31 (.mv (.t 6)),
 o_ 32 (.bin .add (.t 31) (.c (.int .i64 1))),
 o_ 6 (.mv (.t 32))])))))
 (.seq (.region false [o_ 34 (.mv (.t 0)),
 o_ 35 (.mv (.t 5)),
 o_ 36 (.mv (.t 6)),
 o_ 37 (.sliceS (.t 34) (some (.t 35)) (some (.t 36))),
 o_ 38 (.callP 62 [(.t 37)]),
 o_ 33 (.mv (.t 38)),
 o_ 39 (.extract (.t 33) 0),
 o_ 40 (.extract (.t 33) 1),
 o_ 7 (.allocL 0 [(.int .i32 0), (.int .i64 0)]),
 ⟨none, none, false, .store 2 (.t 7) (.t 39), .none⟩,
 o_ 8 (.mv (.t 40))])
 (.seq (.seq (.region false [o_ 41 (.mv (.t 8)),
 o_ 42 (.un .not (.t 41))])
 (.cond (.t 42)
 (.seq (.region false [o_ 2 (.mv (.c .nils)),
 o_ 3 (.mv (.c (.int .i64 180)))])
 (.ret))
 (.skip)))
 (.seq (.region false [o_ 43 (.mv (.u 4 .take)),
 o_ 44 (.load true 2 (.t 7) .copy),
 o_ 45 (.buildSlice 2 [(.int .i32 0), (.int .i64 0)] 1 [(0, (.t 44))]),
 o_ 46 (.append 2 (.u 43 .take) (.u 45 .take)),
 o_ 4 (.mv (.u 46 .take))])
 (.region false [o_ 47 (.mv (.t 6)),
 o_ 5 (.mv (.t 47))]))))))))))))
 (.seq (.region false [o_ 48 (.mv (.u 4 .take)),
 o_ 2 (.mv (.u 48 .share)),
 o_ 3 (.mv (.c (.int .i64 0)))])
 (.ret))))⟩
theorem c27 : cFunc Go.Proofs.Tryd.prog p27 27 = some a27 := by decide +kernel
def p28 : Plan := ⟨[], 0, [((1, 1), { uses := [(1, .take)] })],
 []⟩
def a28 : AFunc := ⟨0, 3, 0, [.tmp 0],
 .seq (.region false [o_ 0 (.mv (.c .nilp))])
 (.seq (.region false [o_ 1 (.build [.nils, (.str []), .nils] []),
 o_ 2 (.boxM (.u 1 .take)),
 o_ 0 (.mv (.t 2))])
 (.ret))⟩
theorem c28 : cFunc Go.Proofs.Tryd.prog p28 28 = some a28 := by decide +kernel
def p29 : Plan := ⟨[], 1, [((16, 14), { uses := [(93, .take)], mark := .mem }),
 ((16, 10), { uses := [(91, .share)], mark := .free }),
 ((16, 9), { uses := [(89, .share)], mark := .free }),
 ((16, 7), { uses := [(88, .share)], mark := .free, pure := true }),
 ((16, 4), { mode := .take, mark := .mem }),
 ((2, 22), { uses := [(33, .share)] }),
 ((4, 3), { mode := .peek }),
 ((6, 3), { box := some 0 }),
 ((6, 5), { uses := [(45, .share)] }),
 ((8, 3), { uses := [(53, .share), (54, .share)], pure := true }),
 ((9, 3), { mode := .peek }),
 ((11, 3), { uses := [(66, .share), (67, .share)], pure := true }),
 ((11, 8), { uses := [(70, .share), (72, .share)], pure := true }),
 ((14, 3), { mode := .peek }),
 ((16, 11), { uses := [(86, .take), (92, .take)] })],
 [[0, 1, 2, 3, 39, 40, 41]]⟩
def a29 : AFunc := ⟨4, 96, 1, [.tmp 8],
 .seq (.region false [o_ 8 (.mv (.c (.int .i64 0)))])
 (.seq (.region false [o_ 9 (.mv (.c (.func 63 [])))])
 (.seq (.seq (.region false [o_ 12 (.mv (.t 9)),
 o_ 13 (.mv (.t 1)),
 o_ 14 (.callV (.t 12) [(.t 13)]),
 o_ 15 (.un .not (.t 14)),
 o_ 16 (.mv (.t 15)),
 ⟨(some 17), (some (16, false)), false, .mv (.t 9), .none⟩,
 ⟨(some 18), (some (16, false)), false, .mv (.t 3), .none⟩,
 ⟨(some 19), (some (16, false)), false, .callV (.t 17) [(.t 18)], .none⟩,
 ⟨(some 20), (some (16, false)), false, .un .not (.t 19), .none⟩,
 o_ 21 (.pick (.t 16) (.c (.bool true)) (.t 20)),
 o_ 22 (.mv (.t 21)),
 ⟨(some 23), (some (22, false)), false, .mv (.t 2), .none⟩,
 ⟨(some 24), (some (22, false)), false, .lenSl (.t 23), .none⟩,
 ⟨(some 25), (some (22, false)), false, .bin .lss (.t 24) (.c (.int .i64 1)), .none⟩,
 o_ 26 (.pick (.t 22) (.c (.bool true)) (.t 25)),
 o_ 27 (.mv (.t 26)),
 ⟨(some 28), (some (27, false)), false, .mv (.t 2), .none⟩,
 ⟨(some 29), (some (27, false)), false, .lenSl (.t 28), .none⟩,
 ⟨(some 30), (some (27, false)), false, .bin .gtr (.t 29) (.c (.int .i64 4)), .none⟩,
 o_ 31 (.pick (.t 27) (.c (.bool true)) (.t 30)),
 o_ 32 (.mv (.t 31)),
 ⟨(some 33), (some (32, false)), false, .mv (.t 2), .none⟩,
 ⟨(some 34), (some (32, false)), false, .callF 64 [(.u 33 .share), (.c (.func 65 []))], .none⟩,
 o_ 35 (.pick (.t 32) (.c (.bool true)) (.t 34))])
 (.cond (.t 35)
 (.seq (.region false [o_ 8 (.mv (.c (.int .i64 1)))])
 (.ret))
 (.skip)))
 (.seq (.seq (.region false [o_ 36 (.mv (.t 0)),
 o_ 37 (.nilCheck (.t 36)),
 o_ 38 (.fieldAddr 0 (.t 37)),
 o_ 39 (.load false 1 (.t 38) .peek),
 o_ 40 (.lenSl (.t 39)),
 o_ 41 (.mv (.c (.int .i64 0)))])
 (.block 0 (.loop [0, 1, 2, 3, 39, 40, 41] (.seq (.region false [o_ 42 (.bin .lss (.t 41) (.t 40))])
 (.seq (.cond (.t 42)
 (.skip)
 (.exit 0))
 (.seq (.block 1 (.seq (.region false [o_ 43 (.mv (.t 41)),
 o_ 44 (.indexSl 3 (.t 39) (.t 41)),
 o_ 45 (.load true 3 (.t 44) .copy),
 o_ 11 (.allocL 0 [(.str []), .nils, (.str [])]),
 o_ 10 (.mv (.t 43)),
 ⟨none, none, false, .store 3 (.t 11) (.u 45 .share), .none⟩])
 (.block 2 (.seq (.region false [o_ 47 (.fieldAddr 0 (.t 11)),
 o_ 48 (.load false 1 (.t 47) .copy),
 o_ 49 (.mv (.t 1)),
 o_ 50 (.bin .neq (.t 48) (.t 49)),
 o_ 46 (.mv (.t 50))])
 (.cond (.t 46)
 (.skip)
 (.seq (.region false [o_ 52 (.fieldAddr 1 (.t 11)),
 o_ 53 (.load false 1 (.t 52) .copy),
 o_ 54 (.mv (.t 2)),
 o_ 55 (.callP 66 [(.u 53 .share), (.u 54 .share)]),
 o_ 51 (.mv (.t 55))])
 (.cond (.t 51)
 (.seq (.region false [o_ 56 (.mv (.t 0)),
 o_ 57 (.nilCheck (.t 56)),
 o_ 58 (.fieldAddr 0 (.t 57)),
 o_ 59 (.load false 1 (.t 58) .peek),
 o_ 60 (.mv (.t 10)),
 o_ 61 (.mv (.t 3)),
 o_ 62 (.indexSl 3 (.t 59) (.t 60)),
 o_ 63 (.fieldAddr 2 (.t 62)),
 ⟨none, none, false, .store 1 (.t 63) (.t 61), .none⟩])
 (.seq (.region false [o_ 8 (.mv (.c (.int .i64 0)))])
 (.ret)))
 (.seq (.region false [o_ 65 (.fieldAddr 1 (.t 11)),
 o_ 66 (.load false 1 (.t 65) .copy),
 o_ 67 (.mv (.t 2)),
 o_ 68 (.callP 67 [(.u 66 .share), (.u 67 .share)]),
 o_ 69 (.mv (.t 68)),
 ⟨(some 70), (some (69, false)), false, .mv (.t 2), .none⟩,
 ⟨(some 71), (some (69, false)), false, .fieldAddr 1 (.t 11), .none⟩,
 ⟨(some 72), (some (69, false)), false, .load false 1 (.t 71) .copy, .none⟩,
 ⟨(some 73), (some (69, false)), false, .callP 67 [(.u 70 .share), (.u 72 .share)], .none⟩,
 o_ 74 (.pick (.t 69) (.c (.bool true)) (.t 73)),
 o_ 64 (.mv (.t 74))])
 (.cond (.t 64)
 (.seq (.region false [o_ 8 (.mv (.c (.int .i64 180)))])
 (.ret))
 (.skip))))))))))
 (.region false [o_ 75 (.bin .add (.t 41) (.c (.int .i64 1))),
 o_ 41 (.mv (.t 75))])))))))
 (.seq (.seq (.region false [o_ 76 (.mv (.t 0)),
 o_ 77 (.nilCheck (.t 76)),
 o_ 78 (.fieldAddr 0 (.t 77)),
 o_ 79 (.load false 1 (.t 78) .peek),
 o_ 80 (.lenSl (.t 79)),
 o_ 81 (.bin .eql (.t 80) (.c (.int .i64 64)))])
 (.cond (.t 81)
 (.seq (.region false [o_ 8 (.mv (.c (.int .i64 3)))])
 (.ret))
 (.skip)))
 (.seq (.region true [o_ 82 (.mv (.t 0)),
 o_ 83 (.mv (.t 0)),
 o_ 84 (.nilCheck (.t 83)),
 o_ 85 (.fieldAddr 0 (.t 84)),
 ⟨(some 86), none, false, .load false 1 (.t 85) .take, .mem⟩,
 o_ 87 (.mv (.t 1)),
 o_ 88 (.mv (.t 2)),
 ⟨(some 89), none, false, .callP 68 [(.u 88 .share)], .free⟩,
 o_ 90 (.mv (.t 3)),
 ⟨(some 91), none, false, .build [(.str []), .nils, (.str [])] [(0, 1, (.t 87)), (1, 1, (.u 89 .share)), (2, 1, (.t 90))], .free⟩,
 ⟨(some 92), none, false, .buildSlice 3 [(.str []), .nils, (.str [])] 1 [(0, (.u 91 .share))], .free⟩,
 o_ 93 (.append 3 (.u 86 .take) (.u 92 .take)),
 o_ 94 (.nilCheck (.t 82)),
 o_ 95 (.fieldAddr 0 (.t 94)),
 ⟨none, none, false, .store 1 (.t 95) (.u 93 .take), .mem⟩])
 (.seq (.region false [o_ 8 (.mv (.c (.int .i64 0)))])
 (.ret)))))))⟩
theorem c29 : cFunc Go.Proofs.Tryd.prog p29 29 = some a29 := by decide +kernel
def p30 : Plan := ⟨[21], 0, [((9, 4), { uses := [(21, .peek)] })],
 [[0, 3, 4]]⟩
def a30 : AFunc := ⟨1, 31, 0, [.tmp 2],
 .seq (.region false [o_ 2 (.mv (.c (.str [])))])
 (.seq (.seq (.region false [o_ 6 (.mv (.t 0)),
 o_ 7 (.bin .eql (.t 6) (.c (.int .i64 0)))])
 (.cond (.t 7)
 (.seq (.region false [o_ 2 (.mv (.c (.str [48])))])
 (.ret))
 (.skip)))
 (.seq (.region false [o_ 8 (.mv (.t 0)),
 o_ 9 (.bin .lss (.t 8) (.c (.int .i64 0))),
 o_ 3 (.mv (.t 9))])
 (.seq (.region false [o_ 4 (.mv (.c (.str [])))])
 (.seq (.block 0 (.loop [0, 3, 4] (.seq (.seq (.region false [o_ 10 (.mv (.t 0)),
 o_ 11 (.bin .neq (.t 10) (.c (.int .i64 0)))])
 (.cond (.t 11)
 (.skip)
 (.exit 0)))
 (.block 1 (.seq (.region false [o_ 12 (.mv (.t 0)),
 o_ 13 (.bin .rem (.t 12) (.c (.int .i64 10))),
 o_ 5 (.mv (.t 13))])
 (.seq (.seq (.region false [o_ 14 (.mv (.t 5)),
 o_ 15 (.bin .lss (.t 14) (.c (.int .i64 0)))])
 (.cond (.t 15)
 (.region false [o_ 16 (.mv (.t 5)),
 o_ 17 (.un .neg (.t 16)),
 o_ 5 (.mv (.t 17))])
 (.skip)))
 (.seq (.region false [o_ 18 (.mv (.t 5)),
 o_ 19 (.bin .add (.c (.int .i64 48)) (.t 18)),
 o_ 20 (.conv .u8 (.t 19)),
 ⟨(some 21), none, true, .buildSlice 1 [(.int .u8 0)] 1 [(0, (.t 20))], .none⟩,
 o_ 22 (.bytesStr (.u 21 .peek)),
 o_ 23 (.mv (.t 4)),
 o_ 24 (.bin .add (.t 22) (.t 23)),
 o_ 4 (.mv (.t 24))])
 (.region false [o_ 25 (.mv (.t 0)),
 o_ 26 (.bin .quo (.t 25) (.c (.int .i64 10))),
 o_ 0 (.mv (.t 26))]))))))))
 (.seq (.seq (.region false [o_ 27 (.mv (.t 3))])
 (.cond (.t 27)
 (.seq (.region false [o_ 28 (.mv (.t 4)),
 o_ 29 (.bin .add (.c (.str [45])) (.t 28)),
 o_ 2 (.mv (.t 29))])
 (.ret))
 (.skip)))
 (.seq (.region false [o_ 30 (.mv (.t 4)),
 o_ 2 (.mv (.t 30))])
 (.ret)))))))⟩
theorem c30 : cFunc Go.Proofs.Tryd.prog p30 30 = some a30 := by decide +kernel
def p31 : Plan := ⟨[], 0, [],
 []⟩
def a31 : AFunc := ⟨2, 11, 0, [],
 .region false [o_ 4 (.mv (.t 0)),
 o_ 5 (.mv (.t 0)),
 o_ 6 (.mv (.t 1)),
 o_ 7 (.nilCheck (.t 4)),
 o_ 8 (.fieldAddr 1 (.t 7)),
 ⟨none, none, false, .store 1 (.t 8) (.t 6), .none⟩,
 o_ 9 (.nilCheck (.t 5)),
 o_ 10 (.fieldAddr 2 (.t 9)),
 ⟨none, none, false, .store 1 (.t 10) (.c .nils), .none⟩]⟩
theorem c31 : cFunc Go.Proofs.Tryd.prog p31 31 = some a31 := by decide +kernel
def p32 : Plan := ⟨[], 2, [((1, 6), { mark := .free }),
 ((1, 5), { mark := (.loc 0) }),
 ((1, 4), { uses := [(12, .share)], mark := .free, pure := true }),
 ((1, 3), { mark := .mem }),
 ((0, 0), { box := some 0 }),
 ((1, 7), { uses := [(13, .take), (15, .take)] }),
 ((1, 8), { uses := [(16, .share)] }),
 ((3, 3), { mode := .peek }),
 ((5, 2), { box := some 1 }),
 ((5, 3), { uses := [(28, .share)] }),
 ((6, 11), { uses := [(37, .share), (39, .share)], pure := true }),
 ((9, 4), { uses := [(52, .share)] }),
 ((13, 2), { uses := [(61, .share)] })],
 [[0, 6, 23, 24, 25]]⟩
def a32 : AFunc := ⟨2, 62, 2, [.tmp 4, .tmp 5],
 .seq (.region false [o_ 3 (.boxL 0 (.t 1)),
 o_ 4 (.mv (.c (.str []))),
 o_ 5 (.mv (.c .nils))])
 (.seq (.region true [o_ 9 (.mv (.t 0)),
 o_ 10 (.nilCheck (.t 9)),
 o_ 11 (.fieldAddr 2 (.t 10)),
 ⟨(some 12), none, false, .load false 1 (.t 11) .copy, .mem⟩,
 ⟨(some 13), none, false, .callP 68 [(.u 12 .share)], .free⟩,
 ⟨(some 14), none, false, .load true 2 (.t 3) .copy, (.loc 0)⟩,
 ⟨(some 15), none, false, .buildSlice 2 [(.int .i32 0), (.int .i64 0)] 1 [(0, (.t 14))], .free⟩,
 o_ 16 (.append 2 (.u 13 .take) (.u 15 .take)),
 o_ 6 (.mv (.u 16 .share))])
 (.seq (.region false [o_ 17 (.mv (.t 0)),
 o_ 18 (.nilCheck (.t 17)),
 o_ 19 (.fieldAddr 2 (.t 18)),
 ⟨none, none, false, .store 1 (.t 19) (.c .nils), .none⟩])
 (.seq (.seq (.region false [o_ 20 (.mv (.t 0)),
 o_ 21 (.nilCheck (.t 20)),
 o_ 22 (.fieldAddr 0 (.t 21)),
 o_ 23 (.load false 1 (.t 22) .peek),
 o_ 24 (.lenSl (.t 23)),
 o_ 25 (.mv (.c (.int .i64 0)))])
 (.block 0 (.loop [0, 6, 23, 24, 25] (.seq (.region false [o_ 26 (.bin .lss (.t 25) (.t 24))])
 (.seq (.cond (.t 26)
 (.skip)
 (.exit 0))
 (.seq (.block 1 (.seq (.region false [o_ 27 (.indexSl 3 (.t 23) (.t 25)),
 o_ 28 (.load true 3 (.t 27) .copy),
 o_ 8 (.allocL 1 [(.str []), .nils, (.str [])]),
 ⟨none, none, false, .store 3 (.t 8) (.u 28 .share), .none⟩])
 (.seq (.seq (.region true [o_ 29 (.fieldAddr 0 (.t 8)),
 o_ 30 (.load false 1 (.t 29) .copy),
 o_ 31 (.mv (.t 0)),
 o_ 32 (.nilCheck (.t 31)),
 o_ 33 (.fieldAddr 1 (.t 32)),
 o_ 34 (.load false 1 (.t 33) .copy),
 o_ 35 (.bin .neq (.t 30) (.t 34)),
 o_ 36 (.mv (.t 35)),
 ⟨(some 37), (some (36, false)), false, .mv (.t 6), .none⟩,
 ⟨(some 38), (some (36, false)), false, .fieldAddr 1 (.t 8), .none⟩,
 ⟨(some 39), (some (36, false)), false, .load false 1 (.t 38) .copy, .none⟩,
 ⟨(some 40), (some (36, false)), false, .callP 67 [(.u 37 .share), (.u 39 .share)], .none⟩,
 ⟨(some 41), (some (36, false)), false, .un .not (.t 40), .none⟩,
 o_ 42 (.pick (.t 36) (.c (.bool true)) (.t 41))])
 (.cond (.t 42)
 (.exit 1)
 (.skip)))
 (.seq (.seq (.region false [o_ 43 (.mv (.t 6)),
 o_ 44 (.lenSl (.t 43)),
 o_ 45 (.fieldAddr 1 (.t 8)),
 o_ 46 (.load false 1 (.t 45) .copy),
 o_ 47 (.lenSl (.t 46)),
 o_ 48 (.bin .eql (.t 44) (.t 47))])
 (.cond (.t 48)
 (.seq (.region false [o_ 49 (.fieldAddr 2 (.t 8)),
 o_ 50 (.load false 1 (.t 49) .copy),
 o_ 4 (.mv (.t 50)),
 o_ 5 (.mv (.c .nils))])
 (.ret))
 (.skip)))
 (.region false [o_ 51 (.mv (.t 0)),
 o_ 52 (.mv (.t 6)),
 o_ 53 (.nilCheck (.t 51)),
 o_ 54 (.fieldAddr 2 (.t 53)),
 ⟨none, none, false, .store 1 (.t 54) (.u 52 .share), .none⟩])))))
 (.region false [o_ 55 (.bin .add (.t 25) (.c (.int .i64 1))),
 o_ 25 (.mv (.t 55))])))))))
 (.seq (.seq (.region false [o_ 56 (.mv (.t 0)),
 o_ 57 (.nilCheck (.t 56)),
 o_ 58 (.fieldAddr 2 (.t 57)),
 o_ 59 (.load false 1 (.t 58) .copy),
 o_ 60 (.eq true .slice (.t 59) (.c .nils))])
 (.cond (.t 60)
 (.seq (.region false [o_ 4 (.mv (.c (.str []))),
 o_ 5 (.mv (.c .nils))])
 (.ret))
 (.skip)))
 (.seq (.region false [o_ 61 (.mv (.t 6)),
 o_ 4 (.mv (.c (.str []))),
 o_ 5 (.mv (.u 61 .share))])
 (.ret))))))⟩
theorem c32 : cFunc Go.Proofs.Tryd.prog p32 32 = some a32 := by decide +kernel
def p33 : Plan := ⟨[], 0, [((1, 4), { uses := [(6, .share)], pure := true }),
 ((1, 5), { uses := [(7, .share)] })],
 []⟩
def a33 : AFunc := ⟨1, 8, 0, [.tmp 2],
 .seq (.region false [o_ 2 (.mv (.c .nils))])
 (.seq (.region false [o_ 3 (.mv (.t 0)),
 o_ 4 (.nilCheck (.t 3)),
 o_ 5 (.fieldAddr 2 (.t 4)),
 o_ 6 (.load false 1 (.t 5) .copy),
 o_ 7 (.callP 68 [(.u 6 .share)]),
 o_ 2 (.mv (.u 7 .share))])
 (.ret))⟩
theorem c33 : cFunc Go.Proofs.Tryd.prog p33 33 = some a33 := by decide +kernel
def p34 : Plan := ⟨[], 2, [((2, 3), { mode := .peek }),
 ((4, 2), { box := some 0 }),
 ((4, 3), { uses := [(19, .share)] }),
 ((6, 0), { uses := [(5, .take)] }),
 ((6, 2), { uses := [(25, .share)] }),
 ((6, 3), { uses := [(24, .take), (26, .take)] }),
 ((6, 4), { uses := [(27, .take)] }),
 ((8, 0), { mode := .share }),
 ((8, 1), { uses := [(29, .take)] }),
 ((12, 2), { box := some 1 }),
 ((12, 3), { uses := [(36, .share)] }),
 ((13, 0), { uses := [(8, .take)] }),
 ((13, 4), { uses := [(37, .take), (40, .take)] }),
 ((13, 5), { uses := [(41, .take)] }),
 ((15, 0), { uses := [(8, .take)] }),
 ((15, 1), { uses := [(43, .take)] })],
 [[1, 5, 14, 15, 16], [8, 31, 32, 33]]⟩
def a34 : AFunc := ⟨2, 44, 2, [.tmp 4],
 .seq (.region false [o_ 4 (.mv (.c .nils))])
 (.seq (.region false [o_ 5 (.mv (.c .nils))])
 (.seq (.seq (.region false [o_ 11 (.mv (.t 0)),
 o_ 12 (.nilCheck (.t 11)),
 o_ 13 (.fieldAddr 0 (.t 12)),
 o_ 14 (.load false 1 (.t 13) .peek),
 o_ 15 (.lenSl (.t 14)),
 o_ 16 (.mv (.c (.int .i64 0)))])
 (.block 0 (.loop [1, 5, 14, 15, 16] (.seq (.region false [o_ 17 (.bin .lss (.t 16) (.t 15))])
 (.seq (.cond (.t 17)
 (.skip)
 (.exit 0))
 (.seq (.block 1 (.seq (.region false [o_ 18 (.indexSl 3 (.t 14) (.t 16)),
 o_ 19 (.load true 3 (.t 18) .copy),
 o_ 7 (.allocL 0 [(.str []), .nils, (.str [])]),
 ⟨none, none, false, .store 3 (.t 7) (.u 19 .share), .none⟩])
 (.seq (.region false [o_ 20 (.fieldAddr 0 (.t 7)),
 o_ 21 (.load false 1 (.t 20) .copy),
 o_ 22 (.mv (.t 1)),
 o_ 23 (.bin .eql (.t 21) (.t 22))])
 (.cond (.t 23)
 (.region false [o_ 24 (.mv (.u 5 .take)),
 o_ 25 (.load true 3 (.t 7) .copy),
 o_ 26 (.buildSlice 3 [(.str []), .nils, (.str [])] 1 [(0, (.u 25 .share))]),
 o_ 27 (.append 3 (.u 24 .take) (.u 26 .take)),
 o_ 5 (.mv (.u 27 .take))])
 (.skip)))))
 (.region false [o_ 28 (.bin .add (.t 16) (.c (.int .i64 1))),
 o_ 16 (.mv (.t 28))])))))))
 (.seq (.region false [o_ 29 (.mvK 5),
 o_ 30 (.callF 69 [(.u 29 .take), (.c (.func 70 []))])])
 (.seq (.region false [o_ 8 (.mv (.c .nils))])
 (.seq (.seq (.region false [o_ 31 (.mv (.t 5)),
 o_ 32 (.lenSl (.t 31)),
 o_ 33 (.mv (.c (.int .i64 0)))])
 (.block 2 (.loop [8, 31, 32, 33] (.seq (.region false [o_ 34 (.bin .lss (.t 33) (.t 32))])
 (.seq (.cond (.t 34)
 (.skip)
 (.exit 2))
 (.seq (.block 3 (.seq (.region false [o_ 35 (.indexSl 3 (.t 31) (.t 33)),
 o_ 36 (.load true 3 (.t 35) .copy),
 o_ 10 (.allocL 1 [(.str []), .nils, (.str [])]),
 ⟨none, none, false, .store 3 (.t 10) (.u 36 .share), .none⟩])
 (.region false [o_ 37 (.mv (.u 8 .take)),
 o_ 38 (.fieldAddr 2 (.t 10)),
 o_ 39 (.load false 1 (.t 38) .copy),
 o_ 40 (.buildSlice 1 [(.str [])] 1 [(0, (.t 39))]),
 o_ 41 (.append 1 (.u 37 .take) (.u 40 .take)),
 o_ 8 (.mv (.u 41 .take))])))
 (.region false [o_ 42 (.bin .add (.t 33) (.c (.int .i64 1))),
 o_ 33 (.mv (.t 42))])))))))
 (.seq (.region false [o_ 43 (.mv (.u 8 .take)),
 o_ 4 (.mv (.u 43 .take))])
 (.ret)))))))⟩
theorem c34 : cFunc Go.Proofs.Tryd.prog p34 34 = some a34 := by decide +kernel
def p46 : Plan := ⟨[], 0, [],
 [[0, 1, 5]]⟩
def a46 : AFunc := ⟨2, 26, 0, [.tmp 4],
 .seq (.region false [o_ 4 (.mv (.c (.bool false)))])
 (.seq (.seq (.region false [o_ 6 (.mv (.t 0)),
 o_ 7 (.lenSl (.t 6)),
 o_ 8 (.mv (.t 1)),
 o_ 9 (.lenSl (.t 8)),
 o_ 10 (.bin .neq (.t 7) (.t 9))])
 (.cond (.t 10)
 (.seq (.region false [o_ 4 (.mv (.c (.bool false)))])
 (.ret))
 (.skip)))
 (.seq (.seq (.region false [o_ 5 (.mv (.c (.int .i64 0)))])
 (.block 0 (.loop [0, 1, 5] (.seq (.seq (.region false [o_ 11 (.mv (.t 5)),
 o_ 12 (.mv (.t 0)),
 o_ 13 (.lenSl (.t 12)),
 o_ 14 (.bin .lss (.t 11) (.t 13))])
 (.cond (.t 14)
 (.skip)
 (.exit 0)))
 (.seq (.block 1 (.seq (.region true [o_ 17 (.mv (.t 0)),
 o_ 18 (.mv (.t 5)),
 o_ 19 (.indexSl 1 (.t 17) (.t 18)),
 o_ 20 (.load false 1 (.t 19) .copy),
 o_ 21 (.mv (.t 1)),
 o_ 22 (.mv (.t 5)),
 o_ 23 (.indexSl 1 (.t 21) (.t 22)),
 o_ 24 (.load false 1 (.t 23) .copy),
 o_ 25 (.bin .neq (.t 20) (.t 24))])
 (.cond (.t 25)
 (.seq (.region false [o_ 4 (.mv (.c (.bool false)))])
 (.ret))
 (.skip))))
 (.region false [o_ 15 (.mv (.t 5)),
 o_ 16 (.bin .add (.t 15) (.c (.int .i64 1))),
 o_ 5 (.mv (.t 16))]))))))
 (.seq (.region false [o_ 4 (.mv (.c (.bool true)))])
 (.ret))))⟩
def v46 : List Nat := [0, 1, 4, 5, 10, 14, 25]
theorem c46 : cFunc Go.Proofs.Tryd.prog p46 46 = some a46 := by decide +kernel
def p47 : Plan := ⟨[], 0, [((3, 1), { uses := [(10, .share)], pure := true }),
 ((4, 0), { uses := [(3, .take)] }),
 ((4, 3), { uses := [(14, .take), (16, .take)] }),
 ((4, 4), { uses := [(17, .take)] }),
 ((5, 3), { uses := [(20, .share)] }),
 ((6, 0), { uses := [(3, .take)] }),
 ((6, 1), { uses := [(21, .take)] })],
 [[0, 3]]⟩
def a47 : AFunc := ⟨1, 22, 0, [.tmp 2],
 .seq (.region false [o_ 2 (.mv (.c .nils))])
 (.seq (.region false [o_ 3 (.mv (.c .nils))])
 (.seq (.block 0 (.loop [0, 3] (.seq (.seq (.region false [o_ 6 (.mv (.t 0)),
 o_ 7 (.lenSl (.t 6)),
 o_ 8 (.bin .gtr (.t 7) (.c (.int .i64 0)))])
 (.cond (.t 8)
 (.skip)
 (.exit 0)))
 (.block 1 (.seq (.region false [o_ 10 (.mv (.t 0)),
 o_ 11 (.callP 91 [(.u 10 .share)]),
 o_ 9 (.mv (.t 11)),
 o_ 12 (.extract (.t 9) 0),
 o_ 13 (.extract (.t 9) 1),
 o_ 4 (.mv (.t 12)),
 o_ 5 (.mv (.t 13))])
 (.seq (.region false [o_ 14 (.mv (.u 3 .take)),
 o_ 15 (.mv (.t 4)),
 o_ 16 (.buildSlice 1 [(.int .i32 0)] 1 [(0, (.t 15))]),
 o_ 17 (.append 1 (.u 14 .take) (.u 16 .take)),
 o_ 3 (.mv (.u 17 .take))])
 (.region false [o_ 18 (.mv (.t 0)),
 o_ 19 (.mv (.t 5)),
 o_ 20 (.sliceV 1 (.t 18) (some (.t 19)) none),
 o_ 0 (.mv (.u 20 .share))])))))))
 (.seq (.region false [o_ 21 (.mv (.u 3 .take)),
 o_ 2 (.mv (.u 21 .take))])
 (.ret))))⟩
theorem c47 : cFunc Go.Proofs.Tryd.prog p47 47 = some a47 := by decide +kernel
def p48 : Plan := ⟨[], 1, [((0, 0), { box := some 0 })],
 []⟩
def a48 : AFunc := ⟨1, 35, 1, [.cell 2 true 2],
 .seq (.region false [o_ 2 (.allocL 0 [(.int .i32 0), (.int .i64 0)])])
 (.seq (.block 0 (.seq (.region false [o_ 4 (.mv (.t 0)),
 o_ 5 (.bin .eql (.t 4) (.c (.int .i32 9))),
 o_ 6 (.mv (.t 5)),
 ⟨(some 7), (some (6, false)), false, .mv (.t 0), .none⟩,
 ⟨(some 8), (some (6, false)), false, .bin .eql (.t 7) (.c (.int .i32 13)), .none⟩,
 o_ 9 (.pick (.t 6) (.c (.bool true)) (.t 8)),
 o_ 10 (.mv (.t 9)),
 ⟨(some 11), (some (10, false)), false, .mv (.t 0), .none⟩,
 ⟨(some 12), (some (10, false)), false, .bin .eql (.t 11) (.c (.int .i32 27)), .none⟩,
 o_ 13 (.pick (.t 10) (.c (.bool true)) (.t 12)),
 o_ 14 (.mv (.t 13)),
 ⟨(some 15), (some (14, false)), false, .mv (.t 0), .none⟩,
 ⟨(some 16), (some (14, false)), false, .bin .gtr (.t 15) (.c (.int .i32 31)), .none⟩,
 o_ 17 (.pick (.t 14) (.c (.bool true)) (.t 16)),
 o_ 3 (.mv (.t 17))])
 (.cond (.t 3)
 (.seq (.region false [o_ 18 (.mv (.t 0)),
 o_ 19 (.build [(.int .i32 0), (.int .i64 0)] [(0, 1, (.t 18))]),
 ⟨none, none, false, .store 2 (.t 2) (.t 19), .none⟩])
 (.ret))
 (.seq (.region false [o_ 21 (.mv (.t 0)),
 o_ 22 (.bin .eql (.t 21) (.c (.int .i32 0))),
 o_ 20 (.mv (.t 22))])
 (.cond (.t 20)
 (.seq (.region false [o_ 23 (.build [(.int .i32 0), (.int .i64 0)] [(0, 1, (.c (.int .i32 32))), (1, 1, (.c (.int .i64 1)))]),
 ⟨none, none, false, .store 2 (.t 2) (.t 23), .none⟩])
 (.ret))
 (.seq (.region false [o_ 25 (.mv (.t 0)),
 o_ 26 (.bin .lss (.t 25) (.c (.int .i32 27))),
 o_ 24 (.mv (.t 26))])
 (.cond (.t 24)
 (.seq (.region false [o_ 27 (.mv (.t 0)),
 o_ 28 (.bin .add (.c (.int .i32 97)) (.t 27)),
 o_ 29 (.bin .sub (.t 28) (.c (.int .i32 1))),
 o_ 30 (.build [(.int .i32 0), (.int .i64 0)] [(0, 1, (.t 29)), (1, 1, (.c (.int .i64 1)))]),
 ⟨none, none, false, .store 2 (.t 2) (.t 30), .none⟩])
 (.ret))
 (.skip))))))))
 (.seq (.region false [o_ 31 (.mv (.t 0)),
 o_ 32 (.bin .add (.c (.int .i32 92)) (.t 31)),
 o_ 33 (.bin .sub (.t 32) (.c (.int .i32 28))),
 o_ 34 (.build [(.int .i32 0), (.int .i64 0)] [(0, 1, (.t 33)), (1, 1, (.c (.int .i64 1)))]),
 ⟨none, none, false, .store 2 (.t 2) (.t 34), .none⟩])
 (.ret)))⟩
theorem c48 : cFunc Go.Proofs.Tryd.prog p48 48 = some a48 := by decide +kernel
def p49 : Plan := ⟨[], 0, [],
 [[0, 1, 5]]⟩
def a49 : AFunc := ⟨2, 26, 0, [.tmp 4],
 .seq (.region false [o_ 4 (.mv (.c (.bool false)))])
 (.seq (.seq (.region false [o_ 6 (.mv (.t 0)),
 o_ 7 (.lenSl (.t 6)),
 o_ 8 (.mv (.t 1)),
 o_ 9 (.lenSl (.t 8)),
 o_ 10 (.bin .gtr (.t 7) (.t 9))])
 (.cond (.t 10)
 (.seq (.region false [o_ 4 (.mv (.c (.bool false)))])
 (.ret))
 (.skip)))
 (.seq (.seq (.region false [o_ 5 (.mv (.c (.int .i64 0)))])
 (.block 0 (.loop [0, 1, 5] (.seq (.seq (.region false [o_ 11 (.mv (.t 5)),
 o_ 12 (.mv (.t 0)),
 o_ 13 (.lenSl (.t 12)),
 o_ 14 (.bin .lss (.t 11) (.t 13))])
 (.cond (.t 14)
 (.skip)
 (.exit 0)))
 (.seq (.block 1 (.seq (.region true [o_ 17 (.mv (.t 0)),
 o_ 18 (.mv (.t 5)),
 o_ 19 (.indexSl 2 (.t 17) (.t 18)),
 o_ 20 (.load true 2 (.t 19) .copy),
 o_ 21 (.mv (.t 1)),
 o_ 22 (.mv (.t 5)),
 o_ 23 (.indexSl 2 (.t 21) (.t 22)),
 o_ 24 (.load true 2 (.t 23) .copy),
 o_ 25 (.eq true (.plain [.int, .int]) (.t 20) (.t 24))])
 (.cond (.t 25)
 (.seq (.region false [o_ 4 (.mv (.c (.bool false)))])
 (.ret))
 (.skip))))
 (.region false [o_ 15 (.mv (.t 5)),
 o_ 16 (.bin .add (.t 15) (.c (.int .i64 1))),
 o_ 5 (.mv (.t 16))]))))))
 (.seq (.region false [o_ 4 (.mv (.c (.bool true)))])
 (.ret))))⟩
theorem c49 : cFunc Go.Proofs.Tryd.prog p49 49 = some a49 := by decide +kernel
def p50 : Plan := ⟨[], 0, [((1, 1), { uses := [(7, .take)] }),
 ((4, 3), { uses := [(15, .share)], pure := true }),
 ((6, 0), { uses := [(3, .take)] }),
 ((6, 2), { uses := [(21, .take), (22, .take)] }),
 ((6, 3), { uses := [(23, .take)] }),
 ((8, 0), { uses := [(3, .take)] }),
 ((8, 3), { uses := [(26, .take), (28, .take)] }),
 ((8, 4), { uses := [(29, .take)] }),
 ((10, 0), { uses := [(3, .take)] }),
 ((10, 1), { uses := [(33, .take)] })],
 [[0, 3, 4]]⟩
def a50 : AFunc := ⟨1, 34, 0, [.tmp 2],
 .seq (.region false [o_ 2 (.mv (.c .nils))])
 (.seq (.region false [o_ 7 (.buildSlice 1 [(.int .i32 0)] 0 []),
 o_ 3 (.mv (.u 7 .take))])
 (.seq (.seq (.region false [o_ 4 (.mv (.c (.int .i64 0)))])
 (.block 0 (.loop [0, 3, 4] (.seq (.seq (.region false [o_ 8 (.mv (.t 4)),
 o_ 9 (.mv (.t 0)),
 o_ 10 (.lenSl (.t 9)),
 o_ 11 (.bin .lss (.t 8) (.t 10))])
 (.cond (.t 11)
 (.skip)
 (.exit 0)))
 (.block 1 (.seq (.region false [o_ 13 (.mv (.t 0)),
 o_ 14 (.mv (.t 4)),
 o_ 15 (.sliceV 1 (.t 13) (some (.t 14)) none),
 o_ 16 (.callP 92 [(.u 15 .share)]),
 o_ 12 (.mv (.t 16)),
 o_ 17 (.extract (.t 12) 0),
 o_ 18 (.extract (.t 12) 1),
 o_ 5 (.mv (.t 17)),
 o_ 6 (.mv (.t 18))])
 (.seq (.region false [o_ 19 (.mv (.t 5)),
 o_ 20 (.bin .eql (.t 19) (.c (.int .i64 0)))])
 (.cond (.t 20)
 (.seq (.region false [o_ 21 (.mv (.u 3 .take)),
 o_ 22 (.buildSlice 1 [(.int .i32 0)] 1 [(0, (.c (.int .i32 65533)))]),
 o_ 23 (.append 1 (.u 21 .take) (.u 22 .take)),
 o_ 3 (.mv (.u 23 .take))])
 (.region false [o_ 24 (.mv (.t 4)),
 o_ 25 (.bin .add (.t 24) (.c (.int .i64 1))),
 o_ 4 (.mv (.t 25))]))
 (.seq (.region false [o_ 26 (.mv (.u 3 .take)),
 o_ 27 (.mv (.t 6)),
 o_ 28 (.buildSlice 1 [(.int .i32 0)] 1 [(0, (.t 27))]),
 o_ 29 (.append 1 (.u 26 .take) (.u 28 .take)),
 o_ 3 (.mv (.u 29 .take))])
 (.region false [o_ 30 (.mv (.t 4)),
 o_ 31 (.mv (.t 5)),
 o_ 32 (.bin .add (.t 30) (.t 31)),
 o_ 4 (.mv (.t 32))]))))))))))
 (.seq (.region false [o_ 33 (.mv (.u 3 .take)),
 o_ 2 (.mv (.u 33 .take))])
 (.ret))))⟩
theorem c50 : cFunc Go.Proofs.Tryd.prog p50 50 = some a50 := by decide +kernel
def p51 : Plan := ⟨[], 1, [((0, 0), { box := some 0 })],
 []⟩
def a51 : AFunc := ⟨1, 30, 1, [.cell 2 true 2],
 .seq (.region false [o_ 2 (.allocL 0 [(.int .i32 0), (.int .i64 0)])])
 (.seq (.seq (.region false [o_ 3 (.mv (.t 0)),
 o_ 4 (.bin .eql (.t 3) (.c (.int .i32 0)))])
 (.cond (.t 4)
 (.seq (.region false [o_ 5 (.build [(.int .i32 0), (.int .i64 0)] [(0, 1, (.c (.int .i32 32))), (1, 1, (.c (.int .i64 1)))]),
 ⟨none, none, false, .store 2 (.t 2) (.t 5), .none⟩])
 (.ret))
 (.skip)))
 (.seq (.seq (.region false [o_ 6 (.mv (.t 0)),
 o_ 7 (.bin .lss (.t 6) (.c (.int .i32 27))),
 o_ 8 (.mv (.t 7)),
 ⟨(some 9), (some (8, true)), false, .mv (.t 0), .none⟩,
 ⟨(some 10), (some (8, true)), false, .bin .neq (.t 9) (.c (.int .i32 9)), .none⟩,
 o_ 11 (.pick (.t 8) (.t 10) (.c (.bool false))),
 o_ 12 (.mv (.t 11)),
 ⟨(some 13), (some (12, true)), false, .mv (.t 0), .none⟩,
 ⟨(some 14), (some (12, true)), false, .bin .neq (.t 13) (.c (.int .i32 13)), .none⟩,
 o_ 15 (.pick (.t 12) (.t 14) (.c (.bool false)))])
 (.cond (.t 15)
 (.seq (.region false [o_ 16 (.mv (.t 0)),
 o_ 17 (.bin .add (.t 16) (.c (.int .i32 96))),
 o_ 18 (.build [(.int .i32 0), (.int .i64 0)] [(0, 1, (.t 17)), (1, 1, (.c (.int .i64 1)))]),
 ⟨none, none, false, .store 2 (.t 2) (.t 18), .none⟩])
 (.ret))
 (.skip)))
 (.seq (.seq (.region false [o_ 19 (.mv (.t 0)),
 o_ 20 (.bin .geq (.t 19) (.c (.int .i32 28))),
 o_ 21 (.mv (.t 20)),
 ⟨(some 22), (some (21, true)), false, .mv (.t 0), .none⟩,
 ⟨(some 23), (some (21, true)), false, .bin .leq (.t 22) (.c (.int .i32 31)), .none⟩,
 o_ 24 (.pick (.t 21) (.t 23) (.c (.bool false)))])
 (.cond (.t 24)
 (.seq (.region false [o_ 25 (.mv (.t 0)),
 o_ 26 (.bin .add (.t 25) (.c (.int .i32 64))),
 o_ 27 (.build [(.int .i32 0), (.int .i64 0)] [(0, 1, (.t 26)), (1, 1, (.c (.int .i64 1)))]),
 ⟨none, none, false, .store 2 (.t 2) (.t 27), .none⟩])
 (.ret))
 (.skip)))
 (.seq (.region false [o_ 28 (.mv (.t 0)),
 o_ 29 (.build [(.int .i32 0), (.int .i64 0)] [(0, 1, (.t 28))]),
 ⟨none, none, false, .store 2 (.t 2) (.t 29), .none⟩])
 (.ret)))))⟩
def v51 : List Nat := [0, 2, 4, 15, 24]
theorem c51 : cFunc Go.Proofs.Tryd.prog p51 51 = some a51 := by decide +kernel
def p52 : Plan := ⟨[], 0, [((1, 23), { pure := true })],
 []⟩
def a52 : AFunc := ⟨1, 29, 0, [.tmp 2],
 .seq (.region false [o_ 2 (.mv (.c (.bool false)))])
 (.seq (.region false [o_ 3 (.mv (.t 0)),
 o_ 4 (.bin .geq (.t 3) (.c (.int .i32 32))),
 o_ 5 (.mv (.t 4)),
 ⟨(some 6), (some (5, true)), false, .mv (.t 0), .none⟩,
 ⟨(some 7), (some (5, true)), false, .bin .leq (.t 6) (.c (.int .i32 127)), .none⟩,
 o_ 8 (.pick (.t 5) (.t 7) (.c (.bool false))),
 o_ 9 (.mv (.t 8)),
 ⟨(some 10), (some (9, false)), false, .mv (.t 0), .none⟩,
 ⟨(some 11), (some (9, false)), false, .bin .eql (.t 10) (.c (.int .i32 9)), .none⟩,
 o_ 12 (.pick (.t 9) (.c (.bool true)) (.t 11)),
 o_ 13 (.mv (.t 12)),
 ⟨(some 14), (some (13, false)), false, .mv (.t 0), .none⟩,
 ⟨(some 15), (some (13, false)), false, .bin .eql (.t 14) (.c (.int .i32 13)), .none⟩,
 o_ 16 (.pick (.t 13) (.c (.bool true)) (.t 15)),
 o_ 17 (.mv (.t 16)),
 ⟨(some 18), (some (17, false)), false, .mv (.t 0), .none⟩,
 ⟨(some 19), (some (17, false)), false, .bin .eql (.t 18) (.c (.int .i32 27)), .none⟩,
 o_ 20 (.pick (.t 17) (.c (.bool true)) (.t 19)),
 o_ 21 (.mv (.t 20)),
 ⟨(some 22), (some (21, false)), false, .mv (.t 0), .none⟩,
 ⟨(some 23), (some (21, false)), false, .bin .geq (.t 22) (.c (.int .i32 128)), .none⟩,
 ⟨(some 24), (some (21, false)), false, .mv (.t 23), .none⟩,
 ⟨(some 25), (some (24, true)), false, .mv (.t 0), .none⟩,
 ⟨(some 26), (some (24, true)), false, .callP 93 [(.t 25)], .none⟩,
 ⟨(some 27), (some (21, false)), false, .pick (.t 24) (.t 26) (.c (.bool false)), .none⟩,
 o_ 28 (.pick (.t 21) (.c (.bool true)) (.t 27)),
 o_ 2 (.mv (.t 28))])
 (.ret))⟩
theorem c52 : cFunc Go.Proofs.Tryd.prog p52 52 = some a52 := by decide +kernel
def p53 : Plan := ⟨[], 0, [],
 []⟩
def a53 : AFunc := ⟨1, 35, 0, [.tmp 2],
 .seq (.region false [o_ 2 (.mv (.c (.int .i64 0)))])
 (.seq (.block 0 (.seq (.region false [o_ 4 (.mv (.t 0)),
 o_ 5 (.bin .eql (.t 4) (.c (.int .i32 105))),
 o_ 6 (.mv (.t 5)),
 ⟨(some 7), (some (6, false)), false, .mv (.t 0), .none⟩,
 ⟨(some 8), (some (6, false)), false, .bin .eql (.t 7) (.c (.int .i32 109)), .none⟩,
 o_ 9 (.pick (.t 6) (.c (.bool true)) (.t 8)),
 o_ 3 (.mv (.t 9))])
 (.cond (.t 3)
 (.skip)
 (.seq (.region false [o_ 11 (.mv (.t 0)),
 o_ 12 (.bin .geq (.t 11) (.c (.int .i32 97))),
 o_ 13 (.mv (.t 12)),
 ⟨(some 14), (some (13, true)), false, .mv (.t 0), .none⟩,
 ⟨(some 15), (some (13, true)), false, .bin .leq (.t 14) (.c (.int .i32 122)), .none⟩,
 o_ 16 (.pick (.t 13) (.t 15) (.c (.bool false))),
 o_ 10 (.mv (.t 16))])
 (.cond (.t 10)
 (.seq (.region false [o_ 17 (.mv (.t 0)),
 o_ 18 (.bin .sub (.t 17) (.c (.int .i32 97))),
 o_ 19 (.conv .i64 (.t 18)),
 o_ 20 (.bin .add (.t 19) (.c (.int .i64 1))),
 o_ 2 (.mv (.t 20))])
 (.ret))
 (.seq (.region false [o_ 22 (.mv (.t 0)),
 o_ 23 (.bin .eql (.t 22) (.c (.int .i32 32))),
 o_ 21 (.mv (.t 23))])
 (.cond (.t 21)
 (.seq (.region false [o_ 2 (.mv (.c (.int .i64 0)))])
 (.ret))
 (.seq (.region false [o_ 25 (.mv (.t 0)),
 o_ 26 (.bin .geq (.t 25) (.c (.int .i32 92))),
 o_ 27 (.mv (.t 26)),
 ⟨(some 28), (some (27, true)), false, .mv (.t 0), .none⟩,
 ⟨(some 29), (some (27, true)), false, .bin .leq (.t 28) (.c (.int .i32 95)), .none⟩,
 o_ 30 (.pick (.t 27) (.t 29) (.c (.bool false))),
 o_ 24 (.mv (.t 30))])
 (.cond (.t 24)
 (.seq (.region false [o_ 31 (.mv (.t 0)),
 o_ 32 (.bin .sub (.t 31) (.c (.int .i32 92))),
 o_ 33 (.conv .i64 (.t 32)),
 o_ 34 (.bin .add (.t 33) (.c (.int .i64 28))),
 o_ 2 (.mv (.t 34))])
 (.ret))
 (.skip))))))))))
 (.seq (.region false [o_ 2 (.mv (.c (.int .i64 (-1))))])
 (.ret)))⟩
def v53 : List Nat := [0, 2, 3, 10, 21, 24]
theorem c53 : cFunc Go.Proofs.Tryd.prog p53 53 = some a53 := by decide +kernel
def p54 : Plan := ⟨[], 0, [((5, 1), { uses := [(25, .share)] })],
 [[0, 3, 4]]⟩
def a54 : AFunc := ⟨1, 38, 0, [.tmp 2],
 .seq (.region false [o_ 2 (.mv (.c (.int .i64 0)))])
 (.seq (.seq (.region false [o_ 5 (.mv (.t 0)),
 o_ 6 (.bin .eql (.t 5) (.c (.int .i32 32)))])
 (.cond (.t 6)
 (.seq (.region false [o_ 2 (.mv (.c (.int .i64 0)))])
 (.ret))
 (.skip)))
 (.seq (.seq (.region false [o_ 7 (.mv (.t 0)),
 o_ 8 (.bin .geq (.t 7) (.c (.int .i32 97))),
 o_ 9 (.mv (.t 8)),
 ⟨(some 10), (some (9, true)), false, .mv (.t 0), .none⟩,
 ⟨(some 11), (some (9, true)), false, .bin .leq (.t 10) (.c (.int .i32 122)), .none⟩,
 o_ 12 (.pick (.t 9) (.t 11) (.c (.bool false))),
 o_ 13 (.mv (.t 12)),
 ⟨(some 14), (some (13, true)), false, .mv (.t 0), .none⟩,
 ⟨(some 15), (some (13, true)), false, .bin .neq (.t 14) (.c (.int .i32 105)), .none⟩,
 o_ 16 (.pick (.t 13) (.t 15) (.c (.bool false))),
 o_ 17 (.mv (.t 16)),
 ⟨(some 18), (some (17, true)), false, .mv (.t 0), .none⟩,
 ⟨(some 19), (some (17, true)), false, .bin .neq (.t 18) (.c (.int .i32 109)), .none⟩,
 o_ 20 (.pick (.t 17) (.t 19) (.c (.bool false)))])
 (.cond (.t 20)
 (.seq (.region false [o_ 21 (.mv (.t 0)),
 o_ 22 (.bin .sub (.t 21) (.c (.int .i32 97))),
 o_ 23 (.conv .i64 (.t 22)),
 o_ 24 (.bin .add (.t 23) (.c (.int .i64 1))),
 o_ 2 (.mv (.t 24))])
 (.ret))
 (.skip)))
 (.seq (.region false [o_ 25 (.buildSlice 1 [(.int .i32 0)] 4 [(0, (.c (.int .i32 92))), (1, (.c (.int .i32 93))), (2, (.c (.int .i32 94))), (3, (.c (.int .i32 95)))]),
 o_ 3 (.mv (.u 25 .share))])
 (.seq (.seq (.region false [o_ 4 (.mv (.c (.int .i64 0)))])
 (.block 0 (.loop [0, 3, 4] (.seq (.seq (.region false [o_ 26 (.mv (.t 4)),
 o_ 27 (.bin .lss (.t 26) (.c (.int .i64 4)))])
 (.cond (.t 27)
 (.skip)
 (.exit 0)))
 (.seq (.block 1 (.seq (.region false [o_ 30 (.mv (.t 0)),
 o_ 31 (.mv (.t 3)),
 o_ 32 (.mv (.t 4)),
 o_ 33 (.indexSl 1 (.t 31) (.t 32)),
 o_ 34 (.load false 1 (.t 33) .copy),
 o_ 35 (.bin .eql (.t 30) (.t 34))])
 (.cond (.t 35)
 (.seq (.region false [o_ 36 (.mv (.t 4)),
 o_ 37 (.bin .add (.c (.int .i64 28)) (.t 36)),
 o_ 2 (.mv (.t 37))])
 (.ret))
 (.skip))))
 (.region false [o_ 28 (.mv (.t 4)),
 o_ 29 (.bin .add (.t 28) (.c (.int .i64 1))),
 o_ 4 (.mv (.t 29))]))))))
 (.seq (.region false [o_ 2 (.mv (.c (.int .i64 (-1))))])
 (.ret))))))⟩
theorem c54 : cFunc Go.Proofs.Tryd.prog p54 54 = some a54 := by decide +kernel
def p55 : Plan := ⟨[], 0, [],
 []⟩
def a55 : AFunc := ⟨1, 17, 0, [.tmp 2],
 .seq (.region false [o_ 2 (.mv (.c (.bool false)))])
 (.seq (.region false [o_ 3 (.mv (.t 0)),
 o_ 4 (.bin .geq (.t 3) (.c (.int .i32 0))),
 o_ 5 (.mv (.t 4)),
 ⟨(some 6), (some (5, true)), false, .mv (.t 0), .none⟩,
 ⟨(some 7), (some (5, true)), false, .bin .leq (.t 6) (.c (.int .i32 1114111)), .none⟩,
 o_ 8 (.pick (.t 5) (.t 7) (.c (.bool false))),
 o_ 9 (.mv (.t 8)),
 ⟨(some 10), (some (9, true)), false, .mv (.t 0), .none⟩,
 ⟨(some 11), (some (9, true)), false, .bin .lss (.t 10) (.c (.int .i32 55296)), .none⟩,
 ⟨(some 12), (some (9, true)), false, .mv (.t 11), .none⟩,
 ⟨(some 13), (some (12, false)), false, .mv (.t 0), .none⟩,
 ⟨(some 14), (some (12, false)), false, .bin .gtr (.t 13) (.c (.int .i32 57343)), .none⟩,
 ⟨(some 15), (some (9, true)), false, .pick (.t 12) (.c (.bool true)) (.t 14), .none⟩,
 o_ 16 (.pick (.t 9) (.t 15) (.c (.bool false))),
 o_ 2 (.mv (.t 16))])
 (.ret))⟩
theorem c55 : cFunc Go.Proofs.Tryd.prog p55 55 = some a55 := by decide +kernel
def p56 : Plan := ⟨[], 0, [((5, 0), { uses := [(3, .take)] }),
 ((5, 2), { uses := [(12, .take)], pure := true }),
 ((5, 3), { uses := [(14, .take)] }),
 ((7, 0), { uses := [(3, .take)] }),
 ((7, 1), { uses := [(16, .take)] })],
 [[3, 6, 7, 8]]⟩
def a56 : AFunc := ⟨1, 17, 0, [.tmp 2],
 .seq (.region false [o_ 2 (.mv (.c .nils))])
 (.seq (.region false [o_ 3 (.mv (.c .nils))])
 (.seq (.seq (.region false [o_ 6 (.mv (.t 0)),
 o_ 7 (.lenSl (.t 6)),
 o_ 8 (.mv (.c (.int .i64 0)))])
 (.block 0 (.loop [3, 6, 7, 8] (.seq (.region false [o_ 9 (.bin .lss (.t 8) (.t 7))])
 (.seq (.cond (.t 9)
 (.skip)
 (.exit 0))
 (.seq (.block 1 (.seq (.region false [o_ 10 (.indexSl 1 (.t 6) (.t 8)),
 o_ 11 (.load false 1 (.t 10) .copy),
 o_ 5 (.mv (.t 11))])
 (.region false [o_ 12 (.mv (.u 3 .take)),
 o_ 13 (.mv (.t 5)),
 o_ 14 (.callP 94 [(.u 12 .take), (.t 13)]),
 o_ 3 (.mv (.u 14 .take))])))
 (.region false [o_ 15 (.bin .add (.t 8) (.c (.int .i64 1))),
 o_ 8 (.mv (.t 15))])))))))
 (.seq (.region false [o_ 16 (.mv (.u 3 .take)),
 o_ 2 (.mv (.u 16 .take))])
 (.ret))))⟩
theorem c56 : cFunc Go.Proofs.Tryd.prog p56 56 = some a56 := by decide +kernel
def p57 : Plan := ⟨[], 0, [((1, 1), { uses := [(6, .take)] }),
 ((6, 1), { pure := true }),
 ((9, 0), { uses := [(3, .take)] }),
 ((9, 4), { uses := [(22, .take), (25, .take)] }),
 ((9, 5), { uses := [(26, .take)] }),
 ((11, 0), { uses := [(3, .take)] }),
 ((11, 10), { uses := [(29, .take), (38, .take)] }),
 ((11, 11), { uses := [(39, .take)] }),
 ((13, 0), { uses := [(3, .take)] }),
 ((13, 15), { uses := [(42, .take), (56, .take)] }),
 ((13, 16), { uses := [(57, .take)] }),
 ((14, 0), { uses := [(3, .take)] }),
 ((14, 20), { uses := [(58, .take), (77, .take)] }),
 ((14, 21), { uses := [(78, .take)] }),
 ((15, 0), { uses := [(3, .take)] }),
 ((15, 1), { uses := [(79, .take)] })],
 [[0, 3, 4]]⟩
def a57 : AFunc := ⟨1, 80, 0, [.tmp 2],
 .seq (.region false [o_ 2 (.mv (.c .nils))])
 (.seq (.region false [o_ 6 (.buildSlice 1 [(.int .u8 0)] 0 []),
 o_ 3 (.mv (.u 6 .take))])
 (.seq (.seq (.region false [o_ 4 (.mv (.c (.int .i64 0)))])
 (.block 0 (.loop [0, 3, 4] (.seq (.seq (.region false [o_ 7 (.mv (.t 4)),
 o_ 8 (.mv (.t 0)),
 o_ 9 (.lenSl (.t 8)),
 o_ 10 (.bin .lss (.t 7) (.t 9))])
 (.cond (.t 10)
 (.skip)
 (.exit 0)))
 (.seq (.block 1 (.seq (.region false [o_ 13 (.mv (.t 0)),
 o_ 14 (.mv (.t 4)),
 o_ 15 (.indexSl 1 (.t 13) (.t 14)),
 o_ 16 (.load false 1 (.t 15) .copy),
 o_ 5 (.mv (.t 16))])
 (.seq (.seq (.region false [o_ 17 (.mv (.t 5)),
 o_ 18 (.callP 55 [(.t 17)]),
 o_ 19 (.un .not (.t 18))])
 (.cond (.t 19)
 (.region false [o_ 5 (.mv (.c (.int .i32 65533)))])
 (.skip)))
 (.seq (.region false [o_ 20 (.mv (.t 5)),
 o_ 21 (.bin .lss (.t 20) (.c (.int .i32 128)))])
 (.cond (.t 21)
 (.region false [o_ 22 (.mv (.u 3 .take)),
 o_ 23 (.mv (.t 5)),
 o_ 24 (.conv .u8 (.t 23)),
 o_ 25 (.buildSlice 1 [(.int .u8 0)] 1 [(0, (.t 24))]),
 o_ 26 (.append 1 (.u 22 .take) (.u 25 .take)),
 o_ 3 (.mv (.u 26 .take))])
 (.seq (.region false [o_ 27 (.mv (.t 5)),
 o_ 28 (.bin .lss (.t 27) (.c (.int .i32 2048)))])
 (.cond (.t 28)
 (.region false [o_ 29 (.mv (.u 3 .take)),
 o_ 30 (.mv (.t 5)),
 o_ 31 (.bin .shr (.t 30) (.c (.int .u64 6))),
 o_ 32 (.conv .u8 (.t 31)),
 o_ 33 (.bin .or (.c (.int .u8 192)) (.t 32)),
 o_ 34 (.mv (.t 5)),
 o_ 35 (.bin .and (.t 34) (.c (.int .i32 63))),
 o_ 36 (.conv .u8 (.t 35)),
 o_ 37 (.bin .or (.c (.int .u8 128)) (.t 36)),
 o_ 38 (.buildSlice 1 [(.int .u8 0)] 2 [(0, (.t 33)), (1, (.t 37))]),
 o_ 39 (.append 1 (.u 29 .take) (.u 38 .take)),
 o_ 3 (.mv (.u 39 .take))])
 (.seq (.region false [o_ 40 (.mv (.t 5)),
 o_ 41 (.bin .lss (.t 40) (.c (.int .i32 65536)))])
 (.cond (.t 41)
 (.region false [o_ 42 (.mv (.u 3 .take)),
 o_ 43 (.mv (.t 5)),
 o_ 44 (.bin .shr (.t 43) (.c (.int .u64 12))),
 o_ 45 (.conv .u8 (.t 44)),
 o_ 46 (.bin .or (.c (.int .u8 224)) (.t 45)),
 o_ 47 (.mv (.t 5)),
 o_ 48 (.bin .shr (.t 47) (.c (.int .u64 6))),
 o_ 49 (.bin .and (.t 48) (.c (.int .i32 63))),
 o_ 50 (.conv .u8 (.t 49)),
 o_ 51 (.bin .or (.c (.int .u8 128)) (.t 50)),
 o_ 52 (.mv (.t 5)),
 o_ 53 (.bin .and (.t 52) (.c (.int .i32 63))),
 o_ 54 (.conv .u8 (.t 53)),
 o_ 55 (.bin .or (.c (.int .u8 128)) (.t 54)),
 o_ 56 (.buildSlice 1 [(.int .u8 0)] 3 [(0, (.t 46)), (1, (.t 51)), (2, (.t 55))]),
 o_ 57 (.append 1 (.u 42 .take) (.u 56 .take)),
 o_ 3 (.mv (.u 57 .take))])
 (.region false [o_ 58 (.mv (.u 3 .take)),
 o_ 59 (.mv (.t 5)),
 o_ 60 (.bin .shr (.t 59) (.c (.int .u64 18))),
 o_ 61 (.conv .u8 (.t 60)),
 o_ 62 (.bin .or (.c (.int .u8 240)) (.t 61)),
 o_ 63 (.mv (.t 5)),
 o_ 64 (.bin .shr (.t 63) (.c (.int .u64 12))),
 o_ 65 (.bin .and (.t 64) (.c (.int .i32 63))),
 o_ 66 (.conv .u8 (.t 65)),
 o_ 67 (.bin .or (.c (.int .u8 128)) (.t 66)),
 o_ 68 (.mv (.t 5)),
 o_ 69 (.bin .shr (.t 68) (.c (.int .u64 6))),
 o_ 70 (.bin .and (.t 69) (.c (.int .i32 63))),
 o_ 71 (.conv .u8 (.t 70)),
 o_ 72 (.bin .or (.c (.int .u8 128)) (.t 71)),
 o_ 73 (.mv (.t 5)),
 o_ 74 (.bin .and (.t 73) (.c (.int .i32 63))),
 o_ 75 (.conv .u8 (.t 74)),
 o_ 76 (.bin .or (.c (.int .u8 128)) (.t 75)),
 o_ 77 (.buildSlice 1 [(.int .u8 0)] 4 [(0, (.t 62)), (1, (.t 67)), (2, (.t 72)), (3, (.t 76))]),
 o_ 78 (.append 1 (.u 58 .take) (.u 77 .take)),
 o_ 3 (.mv (.u 78 .take))]))))))))))
 (.region false [o_ 11 (.mv (.t 4)),
 o_ 12 (.bin .add (.t 11) (.c (.int .i64 1))),
 o_ 4 (.mv (.t 12))]))))))
 (.seq (.region false [o_ 79 (.mv (.u 3 .take)),
 o_ 2 (.mv (.u 79 .take))])
 (.ret))))⟩
theorem c57 : cFunc Go.Proofs.Tryd.prog p57 57 = some a57 := by decide +kernel
def p58 : Plan := ⟨[], 0, [],
 []⟩
def a58 : AFunc := ⟨1, 16, 0, [.tmp 2],
 .seq (.region false [o_ 2 (.mv (.c (.str [])))])
 (.seq (.seq (.region false [o_ 3 (.mv (.t 0))])
 (.block 0 (.seq (.region false [o_ 5 (.bin .eql (.t 3) (.c (.int .i32 9))),
 o_ 4 (.mv (.t 5))])
 (.cond (.t 4)
 (.seq (.region false [o_ 2 (.mv (.c (.str [84, 97, 98])))])
 (.ret))
 (.seq (.region false [o_ 7 (.bin .eql (.t 3) (.c (.int .i32 13))),
 o_ 6 (.mv (.t 7))])
 (.cond (.t 6)
 (.seq (.region false [o_ 2 (.mv (.c (.str [69, 110, 116, 101, 114])))])
 (.ret))
 (.seq (.region false [o_ 9 (.bin .eql (.t 3) (.c (.int .i32 27))),
 o_ 8 (.mv (.t 9))])
 (.cond (.t 8)
 (.seq (.region false [o_ 2 (.mv (.c (.str [69, 115, 99])))])
 (.ret))
 (.seq (.region false [o_ 11 (.bin .eql (.t 3) (.c (.int .i32 127))),
 o_ 10 (.mv (.t 11))])
 (.cond (.t 10)
 (.seq (.region false [o_ 2 (.mv (.c (.str [66, 97, 99, 107])))])
 (.ret))
 (.seq (.region false [o_ 13 (.bin .eql (.t 3) (.c (.int .i32 32))),
 o_ 12 (.mv (.t 13))])
 (.cond (.t 12)
 (.seq (.region false [o_ 2 (.mv (.c (.str [83, 112, 97, 99, 101])))])
 (.ret))
 (.skip)))))))))))))
 (.seq (.region false [o_ 14 (.mv (.t 0)),
 o_ 15 (.intStr (.t 14)),
 o_ 2 (.mv (.t 15))])
 (.ret)))⟩
theorem c58 : cFunc Go.Proofs.Tryd.prog p58 58 = some a58 := by decide +kernel
def p59 : Plan := ⟨[], 0, [((1, 2), { uses := [(2, .share)] }),
 ((1, 3), { uses := [(3, .share)] })],
 []⟩
def a59 : AFunc := ⟨0, 4, 0, [.tmp 0, .tmp 1],
 .seq (.region false [o_ 0 (.mv (.c .nils)),
 o_ 1 (.mv (.c .nils))])
 (.seq (.region false [o_ 2 (.buildSlice 1 [(.int .i32 0)] 5 [(0, (.c (.int .i32 9))), (1, (.c (.int .i32 13))), (2, (.c (.int .i32 27))), (3, (.c (.int .i32 127))), (4, (.c (.int .i32 32)))]),
 o_ 3 (.buildSlice 1 [(.str [])] 5 [(0, (.c (.str [84, 97, 98]))), (1, (.c (.str [69, 110, 116, 101, 114]))), (2, (.c (.str [69, 115, 99]))), (3, (.c (.str [66, 97, 99, 107]))), (4, (.c (.str [83, 112, 97, 99, 101])))]),
 o_ 0 (.mv (.u 2 .share)),
 o_ 1 (.mv (.u 3 .share))])
 (.ret))⟩
theorem c59 : cFunc Go.Proofs.Tryd.prog p59 59 = some a59 := by decide +kernel
def p60 : Plan := ⟨[], 0, [((1, 2), { pure := true }),
 ((1, 3), { uses := [(7, .take)] })],
 []⟩
def a60 : AFunc := ⟨2, 8, 0, [.tmp 4],
 .seq (.region false [o_ 4 (.mv (.c .nils))])
 (.seq (.region false [o_ 5 (.mv (.t 0)),
 o_ 6 (.mv (.t 1)),
 o_ 7 (.callP 95 [(.t 5), (.t 6), (.c (.int .i64 0)), (.c (.int .i64 (-1)))]),
 o_ 4 (.mv (.u 7 .take))])
 (.ret))⟩
theorem c60 : cFunc Go.Proofs.Tryd.prog p60 60 = some a60 := by decide +kernel
def p61 : Plan := ⟨[31], 1, [((16, 27), { mark := (.loc 0) }),
 ((16, 23), { mark := .free, pure := true }),
 ((16, 19), { mark := .free, pure := true }),
 ((16, 18), { mark := (.loc 0) }),
 ((16, 3), { mark := .free }),
 ((16, 0), { mark := (.loc 0) }),
 ((12, 3), { mark := (.loc 0) }),
 ((12, 2), { mark := .free, pure := true }),
 ((12, 1), { mark := (.loc 0) }),
 ((12, 0), { mark := (.loc 0) }),
 ((0, 0), { box := some 0 }),
 ((1, 1), { pure := true }),
 ((4, 1), { pure := true }),
 ((7, 1), { uses := [(31, .peek)] }),
 ((9, 0), { uses := [(31, .peek)] }),
 ((10, 1), { pure := true }),
 ((14, 1), { pure := true })],
 [[0, 2, 31, 32, 33]]⟩
def a61 : AFunc := ⟨1, 81, 1, [.cell 2 true 2, .tmp 3],
 .seq (.region false [o_ 2 (.allocL 0 [(.int .i32 0), (.int .i64 0)]),
 o_ 3 (.mv (.c (.bool false)))])
 (.seq (.seq (.region false [o_ 13 (.mv (.t 0)),
 o_ 14 (.callP 96 [(.t 13), (.c (.str [67, 116, 114, 108, 45]))]),
 o_ 12 (.mv (.t 14)),
 o_ 15 (.extract (.t 12) 0),
 o_ 16 (.extract (.t 12) 1),
 o_ 4 (.mv (.t 15)),
 o_ 5 (.mv (.t 16))])
 (.seq (.region false [o_ 17 (.mv (.t 5))])
 (.cond (.t 17)
 (.region false [o_ 18 (.mv (.t 4)),
 o_ 19 (.fieldAddr 1 (.t 2)),
 ⟨none, none, false, .store 1 (.t 19) (.c (.int .i64 1)), .none⟩,
 o_ 0 (.mv (.t 18))])
 (.skip))))
 (.seq (.seq (.region false [o_ 21 (.mv (.t 0)),
 o_ 22 (.callP 96 [(.t 21), (.c (.str [65, 108, 116, 45]))]),
 o_ 20 (.mv (.t 22)),
 o_ 23 (.extract (.t 20) 0),
 o_ 24 (.extract (.t 20) 1),
 o_ 6 (.mv (.t 23)),
 o_ 7 (.mv (.t 24))])
 (.seq (.region false [o_ 25 (.mv (.t 7))])
 (.cond (.t 25)
 (.region false [o_ 26 (.fieldAddr 1 (.t 2)),
 o_ 27 (.load false 1 (.t 26) .copy),
 o_ 28 (.bin .or (.t 27) (.c (.int .i64 2))),
 o_ 29 (.mv (.t 6)),
 o_ 30 (.fieldAddr 1 (.t 2)),
 ⟨none, none, false, .store 1 (.t 30) (.t 28), .none⟩,
 o_ 0 (.mv (.t 29))])
 (.skip))))
 (.seq (.seq (.region false [⟨(some 31), none, true, .buildSlice 1 [(.int .i32 0)] 5 [(0, (.c (.int .i32 9))), (1, (.c (.int .i32 13))), (2, (.c (.int .i32 27))), (3, (.c (.int .i32 127))), (4, (.c (.int .i32 32)))], .none⟩,
 o_ 32 (.lenSl (.u 31 .peek)),
 o_ 33 (.mv (.c (.int .i64 0)))])
 (.block 0 (.loop [0, 2, 31, 32, 33] (.seq (.region false [o_ 34 (.bin .lss (.t 33) (.t 32))])
 (.seq (.cond (.t 34)
 (.skip)
 (.exit 0))
 (.seq (.block 1 (.seq (.region false [o_ 35 (.indexSl 1 (.u 31 .peek) (.t 33)),
 o_ 36 (.load false 1 (.t 35) .copy),
 o_ 9 (.mv (.t 36))])
 (.seq (.region false [o_ 37 (.mv (.t 9)),
 o_ 38 (.callP 58 [(.t 37)]),
 o_ 39 (.mv (.t 0)),
 o_ 40 (.bin .eql (.t 38) (.t 39))])
 (.cond (.t 40)
 (.seq (.region false [o_ 41 (.mv (.t 9)),
 o_ 42 (.fieldAddr 0 (.t 2)),
 ⟨none, none, false, .store 1 (.t 42) (.t 41), .none⟩])
 (.seq (.region true [⟨(some 43), none, false, .load true 2 (.t 2) .copy, (.loc 0)⟩,
 ⟨(some 44), none, false, .load true 2 (.t 2) .copy, (.loc 0)⟩,
 ⟨(some 45), none, false, .callP 20 [(.t 44)], .free⟩,
 ⟨none, none, false, .store 2 (.t 2) (.t 43), (.loc 0)⟩,
 o_ 3 (.mv (.t 45))])
 (.ret)))
 (.skip)))))
 (.region false [o_ 46 (.bin .add (.t 33) (.c (.int .i64 1))),
 o_ 33 (.mv (.t 46))])))))))
 (.seq (.region false [o_ 48 (.mv (.t 0)),
 o_ 49 (.callP 97 [(.t 48)]),
 o_ 47 (.mv (.t 49)),
 o_ 50 (.extract (.t 47) 0),
 o_ 51 (.extract (.t 47) 1),
 o_ 10 (.mv (.t 50)),
 o_ 11 (.mv (.t 51))])
 (.seq (.region false [o_ 52 (.mv (.t 10)),
 o_ 53 (.fieldAddr 0 (.t 2)),
 ⟨none, none, false, .store 1 (.t 53) (.t 52), .none⟩])
 (.seq (.region true [⟨(some 54), none, false, .load true 2 (.t 2) .copy, (.loc 0)⟩,
 o_ 55 (.mv (.t 11)),
 o_ 56 (.mv (.t 0)),
 ⟨(some 57), none, false, .lenStr (.t 56), .free⟩,
 o_ 58 (.bin .eql (.t 55) (.t 57)),
 o_ 59 (.mv (.t 58)),
 ⟨(some 60), (some (59, true)), false, .mv (.t 11), .none⟩,
 ⟨(some 61), (some (59, true)), false, .bin .gtr (.t 60) (.c (.int .i64 0)), .none⟩,
 o_ 62 (.pick (.t 59) (.t 61) (.c (.bool false))),
 o_ 63 (.mv (.t 62)),
 ⟨(some 64), (some (63, true)), false, .mv (.t 10), .none⟩,
 ⟨(some 65), (some (63, true)), false, .bin .neq (.t 64) (.c (.int .i32 65533)), .none⟩,
 ⟨(some 66), (some (63, true)), false, .mv (.t 65), .none⟩,
 ⟨(some 67), (some (66, false)), false, .mv (.t 11), .none⟩,
 ⟨(some 68), (some (66, false)), false, .bin .gtr (.t 67) (.c (.int .i64 1)), .none⟩,
 ⟨(some 69), (some (63, true)), false, .pick (.t 66) (.c (.bool true)) (.t 68), .none⟩,
 o_ 70 (.pick (.t 63) (.t 69) (.c (.bool false))),
 o_ 71 (.mv (.t 70)),
 ⟨(some 72), (some (71, true)), false, .load true 2 (.t 2) .copy, (.loc 0)⟩,
 ⟨(some 73), (some (71, true)), false, .callP 20 [(.t 72)], .free⟩,
 o_ 74 (.pick (.t 71) (.t 73) (.c (.bool false))),
 o_ 75 (.mv (.t 74)),
 ⟨(some 76), (some (75, true)), false, .mv (.t 10), .none⟩,
 ⟨(some 77), (some (75, true)), false, .callP 58 [(.t 76)], .free⟩,
 ⟨(some 78), (some (75, true)), false, .mv (.t 0), .none⟩,
 ⟨(some 79), (some (75, true)), false, .bin .eql (.t 77) (.t 78), .none⟩,
 o_ 80 (.pick (.t 75) (.t 79) (.c (.bool false))),
 ⟨none, none, false, .store 2 (.t 2) (.t 54), (.loc 0)⟩,
 o_ 3 (.mv (.t 80))])
 (.ret)))))))⟩
theorem c61 : cFunc Go.Proofs.Tryd.prog p61 61 = some a61 := by decide +kernel
def p62 : Plan := ⟨[], 2, [((14, 3), { mark := (.loc 0) }),
 ((14, 2), { mark := .free, pure := true }),
 ((14, 1), { mark := (.loc 1) }),
 ((14, 0), { mark := (.loc 1) }),
 ((0, 0), { box := some 0 }),
 ((1, 1), { box := some 1 }),
 ((2, 1), { pure := true }),
 ((5, 1), { pure := true }),
 ((8, 0), { pure := true }),
 ((8, 4), { uses := [(27, .share)] }),
 ((8, 5), { uses := [(28, .share)] }),
 ((15, 2), { uses := [(51, .share)], pure := true }),
 ((17, 10), { pure := true })],
 [[0, 2, 4, 5, 6, 7], [2, 4, 5, 9, 10]]⟩
def a62 : AFunc := ⟨1, 85, 2, [.cell 2 true 2, .tmp 3],
 .seq (.region false [o_ 2 (.allocL 0 [(.int .i32 0), (.int .i64 0)]),
 o_ 3 (.mv (.c (.bool false)))])
 (.seq (.region false [o_ 11 (.build [(.int .i32 0), (.int .i64 0)] []),
 o_ 4 (.allocL 1 [(.int .i32 0), (.int .i64 0)]),
 ⟨none, none, false, .store 2 (.t 4) (.t 11), .none⟩])
 (.seq (.seq (.region false [o_ 12 (.mv (.t 0)),
 o_ 13 (.callP 98 [(.t 12), (.c (.str [67, 116, 114, 108, 45]))])])
 (.cond (.t 13)
 (.seq (.region false [o_ 14 (.fieldAddr 1 (.t 4)),
 ⟨none, none, false, .store 1 (.t 14) (.c (.int .i64 1)), .none⟩])
 (.region false [o_ 15 (.mv (.t 0)),
 o_ 16 (.sliceS (.t 15) (some (.c (.int .i64 5))) none),
 o_ 0 (.mv (.t 16))]))
 (.skip)))
 (.seq (.seq (.region false [o_ 17 (.mv (.t 0)),
 o_ 18 (.callP 98 [(.t 17), (.c (.str [65, 108, 116, 45]))])])
 (.cond (.t 18)
 (.seq (.region false [o_ 19 (.fieldAddr 1 (.t 4)),
 o_ 20 (.load false 1 (.t 19) .copy),
 o_ 21 (.bin .add (.t 20) (.c (.int .i64 2))),
 o_ 22 (.fieldAddr 1 (.t 4)),
 ⟨none, none, false, .store 1 (.t 22) (.t 21), .none⟩])
 (.region false [o_ 23 (.mv (.t 0)),
 o_ 24 (.sliceS (.t 23) (some (.c (.int .i64 4))) none),
 o_ 0 (.mv (.t 24))]))
 (.skip)))
 (.seq (.region false [o_ 26 (.callP 59 []),
 o_ 25 (.mv (.t 26)),
 o_ 27 (.extract (.t 25) 0),
 o_ 28 (.extract (.t 25) 1),
 o_ 5 (.mv (.u 27 .share)),
 o_ 6 (.mv (.u 28 .share))])
 (.seq (.seq (.region false [o_ 7 (.mv (.c (.int .i64 0)))])
 (.block 0 (.loop [0, 2, 4, 5, 6, 7] (.seq (.seq (.region false [o_ 29 (.mv (.t 7)),
 o_ 30 (.mv (.t 5)),
 o_ 31 (.lenSl (.t 30)),
 o_ 32 (.bin .lss (.t 29) (.t 31))])
 (.cond (.t 32)
 (.skip)
 (.exit 0)))
 (.seq (.block 1 (.seq (.region false [o_ 35 (.mv (.t 0)),
 o_ 36 (.mv (.t 6)),
 o_ 37 (.mv (.t 7)),
 o_ 38 (.indexSl 1 (.t 36) (.t 37)),
 o_ 39 (.load false 1 (.t 38) .copy),
 o_ 40 (.bin .eql (.t 35) (.t 39))])
 (.cond (.t 40)
 (.seq (.region false [o_ 41 (.mv (.t 5)),
 o_ 42 (.mv (.t 7)),
 o_ 43 (.indexSl 1 (.t 41) (.t 42)),
 o_ 44 (.load false 1 (.t 43) .copy),
 o_ 45 (.fieldAddr 0 (.t 4)),
 ⟨none, none, false, .store 1 (.t 45) (.t 44), .none⟩])
 (.seq (.region true [⟨(some 46), none, false, .load true 2 (.t 4) .copy, (.loc 1)⟩,
 ⟨(some 47), none, false, .load true 2 (.t 4) .copy, (.loc 1)⟩,
 ⟨(some 48), none, false, .callP 21 [(.t 47)], .free⟩,
 ⟨none, none, false, .store 2 (.t 2) (.t 46), (.loc 0)⟩,
 o_ 3 (.mv (.t 48))])
 (.ret)))
 (.skip))))
 (.region false [o_ 33 (.mv (.t 7)),
 o_ 34 (.bin .add (.t 33) (.c (.int .i64 1))),
 o_ 7 (.mv (.t 34))]))))))
 (.seq (.region false [o_ 50 (.mv (.t 0)),
 o_ 51 (.strBytes (.t 50)),
 o_ 52 (.callP 92 [(.u 51 .share)]),
 o_ 49 (.mv (.t 52)),
 o_ 53 (.extract (.t 49) 0),
 o_ 54 (.extract (.t 49) 1),
 o_ 8 (.mv (.t 53)),
 o_ 9 (.mv (.t 54))])
 (.seq (.region false [o_ 55 (.mv (.t 9)),
 o_ 56 (.fieldAddr 0 (.t 4)),
 ⟨none, none, false, .store 1 (.t 56) (.t 55), .none⟩])
 (.seq (.seq (.region false [o_ 57 (.mv (.t 8)),
 o_ 58 (.bin .eql (.t 57) (.c (.int .i64 0))),
 o_ 59 (.mv (.t 58)),
 ⟨(some 60), (some (59, false)), false, .mv (.t 8), .none⟩,
 ⟨(some 61), (some (59, false)), false, .mv (.t 0), .none⟩,
 ⟨(some 62), (some (59, false)), false, .lenStr (.t 61), .none⟩,
 ⟨(some 63), (some (59, false)), false, .bin .neq (.t 60) (.t 62), .none⟩,
 o_ 64 (.pick (.t 59) (.c (.bool true)) (.t 63)),
 o_ 65 (.mv (.t 64)),
 ⟨(some 66), (some (65, false)), false, .load true 2 (.t 4) .copy, .none⟩,
 ⟨(some 67), (some (65, false)), false, .callP 21 [(.t 66)], .none⟩,
 ⟨(some 68), (some (65, false)), false, .un .not (.t 67), .none⟩,
 o_ 69 (.pick (.t 65) (.c (.bool true)) (.t 68))])
 (.cond (.t 69)
 (.seq (.region false [o_ 70 (.load true 2 (.t 4) .copy),
 ⟨none, none, false, .store 2 (.t 2) (.t 70), .none⟩,
 o_ 3 (.mv (.c (.bool false)))])
 (.ret))
 (.skip)))
 (.seq (.seq (.region false [o_ 10 (.mv (.c (.int .i64 0)))])
 (.block 2 (.loop [2, 4, 5, 9, 10] (.seq (.seq (.region false [o_ 71 (.mv (.t 10)),
 o_ 72 (.mv (.t 5)),
 o_ 73 (.lenSl (.t 72)),
 o_ 74 (.bin .lss (.t 71) (.t 73))])
 (.cond (.t 74)
 (.skip)
 (.exit 2)))
 (.seq (.block 3 (.seq (.region false [o_ 77 (.mv (.t 9)),
 o_ 78 (.mv (.t 5)),
 o_ 79 (.mv (.t 10)),
 o_ 80 (.indexSl 1 (.t 78) (.t 79)),
 o_ 81 (.load false 1 (.t 80) .copy),
 o_ 82 (.bin .eql (.t 77) (.t 81))])
 (.cond (.t 82)
 (.seq (.region false [o_ 83 (.load true 2 (.t 4) .copy),
 ⟨none, none, false, .store 2 (.t 2) (.t 83), .none⟩,
 o_ 3 (.mv (.c (.bool false)))])
 (.ret))
 (.skip))))
 (.region false [o_ 75 (.mv (.t 10)),
 o_ 76 (.bin .add (.t 75) (.c (.int .i64 1))),
 o_ 10 (.mv (.t 76))]))))))
 (.seq (.region false [o_ 84 (.load true 2 (.t 4) .copy),
 ⟨none, none, false, .store 2 (.t 2) (.t 84), .none⟩,
 o_ 3 (.mv (.c (.bool true)))])
 (.ret)))))))))))⟩
theorem c62 : cFunc Go.Proofs.Tryd.prog p62 62 = some a62 := by decide +kernel
def p63 : Plan := ⟨[], 0, [],
 []⟩
def a63 : AFunc := ⟨1, 11, 0, [.tmp 2],
 .seq (.region false [o_ 2 (.mv (.c (.bool false)))])
 (.seq (.region false [o_ 3 (.mv (.t 0)),
 o_ 4 (.lenStr (.t 3)),
 o_ 5 (.bin .geq (.t 4) (.c (.int .i64 1))),
 o_ 6 (.mv (.t 5)),
 ⟨(some 7), (some (6, true)), false, .mv (.t 0), .none⟩,
 ⟨(some 8), (some (6, true)), false, .lenStr (.t 7), .none⟩,
 ⟨(some 9), (some (6, true)), false, .bin .leq (.t 8) (.c (.int .i64 32)), .none⟩,
 o_ 10 (.pick (.t 6) (.t 9) (.c (.bool false))),
 o_ 2 (.mv (.t 10))])
 (.ret))⟩
theorem c63 : cFunc Go.Proofs.Tryd.prog p63 63 = some a63 := by decide +kernel
def p64 : Plan := ⟨[], 0, [((1, 2), { uses := [(5, .share)] })],
 []⟩
def a64 : AFunc := ⟨2, 9, 0, [.tmp 4],
 .seq (.region false [o_ 4 (.mv (.c (.bool false)))])
 (.seq (.region false [o_ 5 (.mv (.t 0)),
 o_ 6 (.mv (.t 1)),
 o_ 7 (.callF 99 [(.u 5 .share), (.t 6)]),
 o_ 8 (.bin .geq (.t 7) (.c (.int .i64 0))),
 o_ 4 (.mv (.t 8))])
 (.ret))⟩
theorem c64 : cFunc Go.Proofs.Tryd.prog p64 64 = some a64 := by decide +kernel
def p65 : Plan := ⟨[], 1, [((0, 0), { box := some 0 }),
 ((1, 1), { pure := true })],
 []⟩
def a65 : AFunc := ⟨1, 6, 1, [.tmp 2],
 .seq (.region false [o_ 1 (.boxL 0 (.t 0)),
 o_ 2 (.mv (.c (.bool false)))])
 (.seq (.region false [o_ 3 (.load true 2 (.t 1) .copy),
 o_ 4 (.callP 20 [(.t 3)]),
 o_ 5 (.un .not (.t 4)),
 o_ 2 (.mv (.t 5))])
 (.ret))⟩
theorem c65 : cFunc Go.Proofs.Tryd.prog p65 65 = some a65 := by decide +kernel
def p66 : Plan := ⟨[], 0, [],
 [[0, 1, 12, 13]]⟩
def a66 : AFunc := ⟨2, 26, 0, [.tmp 4],
 .seq (.region false [o_ 4 (.mv (.c (.bool false)))])
 (.seq (.seq (.region false [o_ 6 (.mv (.t 0)),
 o_ 7 (.lenSl (.t 6)),
 o_ 8 (.mv (.t 1)),
 o_ 9 (.lenSl (.t 8)),
 o_ 10 (.bin .neq (.t 7) (.t 9))])
 (.cond (.t 10)
 (.seq (.region false [o_ 4 (.mv (.c (.bool false)))])
 (.ret))
 (.skip)))
 (.seq (.seq (.region false [o_ 11 (.mv (.t 0)),
 o_ 12 (.lenSl (.t 11)),
 o_ 13 (.mv (.c (.int .i64 0)))])
 (.block 0 (.loop [0, 1, 12, 13] (.seq (.region false [o_ 14 (.bin .lss (.t 13) (.t 12))])
 (.seq (.cond (.t 14)
 (.skip)
 (.exit 0))
 (.seq (.block 1 (.seq (.region false [o_ 15 (.mv (.t 13)),
 o_ 5 (.mv (.t 15))])
 (.seq (.region true [o_ 16 (.mv (.t 0)),
 o_ 17 (.mv (.t 5)),
 o_ 18 (.indexSl 2 (.t 16) (.t 17)),
 o_ 19 (.load true 2 (.t 18) .copy),
 o_ 20 (.mv (.t 1)),
 o_ 21 (.mv (.t 5)),
 o_ 22 (.indexSl 2 (.t 20) (.t 21)),
 o_ 23 (.load true 2 (.t 22) .copy),
 o_ 24 (.eq true (.plain [.int, .int]) (.t 19) (.t 23))])
 (.cond (.t 24)
 (.seq (.region false [o_ 4 (.mv (.c (.bool false)))])
 (.ret))
 (.skip)))))
 (.region false [o_ 25 (.bin .add (.t 13) (.c (.int .i64 1))),
 o_ 13 (.mv (.t 25))])))))))
 (.seq (.region false [o_ 4 (.mv (.c (.bool true)))])
 (.ret))))⟩
theorem c66 : cFunc Go.Proofs.Tryd.prog p66 66 = some a66 := by decide +kernel
def p67 : Plan := ⟨[], 0, [((1, 11), { uses := [(11, .share), (15, .share)], pure := true })],
 []⟩
def a67 : AFunc := ⟨2, 18, 0, [.tmp 4],
 .seq (.region false [o_ 4 (.mv (.c (.bool false)))])
 (.seq (.region false [o_ 5 (.mv (.t 0)),
 o_ 6 (.lenSl (.t 5)),
 o_ 7 (.mv (.t 1)),
 o_ 8 (.lenSl (.t 7)),
 o_ 9 (.bin .leq (.t 6) (.t 8)),
 o_ 10 (.mv (.t 9)),
 ⟨(some 11), (some (10, true)), false, .mv (.t 0), .none⟩,
 ⟨(some 12), (some (10, true)), false, .mv (.t 1), .none⟩,
 ⟨(some 13), (some (10, true)), false, .mv (.t 0), .none⟩,
 ⟨(some 14), (some (10, true)), false, .lenSl (.t 13), .none⟩,
 ⟨(some 15), (some (10, true)), false, .sliceV 2 (.t 12) none (some (.t 14)), .none⟩,
 ⟨(some 16), (some (10, true)), false, .callP 66 [(.u 11 .share), (.u 15 .share)], .none⟩,
 o_ 17 (.pick (.t 10) (.t 16) (.c (.bool false))),
 o_ 4 (.mv (.t 17))])
 (.ret))⟩
theorem c67 : cFunc Go.Proofs.Tryd.prog p67 67 = some a67 := by decide +kernel
def p68 : Plan := ⟨[], 0, [((3, 2), { uses := [(5, .take), (6, .take)] }),
 ((3, 3), { uses := [(7, .take)] })],
 []⟩
def a68 : AFunc := ⟨1, 8, 0, [.tmp 2],
 .seq (.region false [o_ 2 (.mv (.c .nils))])
 (.seq (.seq (.region false [o_ 3 (.mv (.t 0)),
 o_ 4 (.eq false .slice (.t 3) (.c .nils))])
 (.cond (.t 4)
 (.seq (.region false [o_ 2 (.mv (.c .nils))])
 (.ret))
 (.skip)))
 (.seq (.region false [o_ 5 (.buildSlice 2 [(.int .i32 0), (.int .i64 0)] 0 []),
 o_ 6 (.mv (.t 0)),
 o_ 7 (.append 2 (.u 5 .take) (.u 6 .take)),
 o_ 2 (.mv (.u 7 .take))])
 (.ret)))⟩
theorem c68 : cFunc Go.Proofs.Tryd.prog p68 68 = some a68 := by decide +kernel
def p70 : Plan := ⟨[], 2, [((0, 0), { box := some 0 }),
 ((0, 1), { box := some 1 }),
 ((1, 4), { uses := [(6, .share), (8, .share)] })],
 []⟩
def a70 : AFunc := ⟨2, 10, 2, [.tmp 4],
 .seq (.region false [o_ 2 (.boxL 0 (.t 0)),
 o_ 3 (.boxL 1 (.t 1)),
 o_ 4 (.mv (.c (.int .i64 0)))])
 (.seq (.region false [o_ 5 (.fieldAddr 1 (.t 2)),
 o_ 6 (.load false 1 (.t 5) .copy),
 o_ 7 (.fieldAddr 1 (.t 3)),
 o_ 8 (.load false 1 (.t 7) .copy),
 o_ 9 (.callF 71 [(.u 6 .share), (.u 8 .share), (.c (.func 72 []))]),
 o_ 4 (.mv (.t 9))])
 (.ret))⟩
theorem c70 : cFunc Go.Proofs.Tryd.prog p70 70 = some a70 := by decide +kernel
def p71 : Plan := ⟨[], 2, [((3, 3), { box := some 0 }),
 ((6, 4), { box := some 1 })],
 [[0, 1, 2, 11, 12, 13]]⟩
def a71 : AFunc := ⟨3, 39, 2, [.tmp 6],
 .seq (.region false [o_ 6 (.mv (.c (.int .i64 0)))])
 (.seq (.seq (.region false [o_ 11 (.mv (.t 0)),
 o_ 12 (.lenSl (.t 11)),
 o_ 13 (.mv (.c (.int .i64 0)))])
 (.block 0 (.loop [0, 1, 2, 11, 12, 13] (.seq (.region false [o_ 14 (.bin .lss (.t 13) (.t 12))])
 (.seq (.cond (.t 14)
 (.skip)
 (.exit 0))
 (.seq (.block 1 (.seq (.region false [o_ 15 (.mv (.t 13)),
 o_ 16 (.indexSl 2 (.t 11) (.t 13)),
 o_ 17 (.load true 2 (.t 16) .copy),
 o_ 8 (.allocL 0 [(.int .i32 0), (.int .i64 0)]),
 o_ 7 (.mv (.t 15)),
 ⟨none, none, false, .store 2 (.t 8) (.t 17), .none⟩])
 (.seq (.seq (.region false [o_ 18 (.mv (.t 7)),
 o_ 19 (.mv (.t 1)),
 o_ 20 (.lenSl (.t 19)),
 o_ 21 (.bin .geq (.t 18) (.t 20))])
 (.cond (.t 21)
 (.seq (.region false [o_ 6 (.mv (.c (.int .i64 1)))])
 (.ret))
 (.skip)))
 (.seq (.region false [o_ 22 (.mv (.t 1)),
 o_ 23 (.mv (.t 7)),
 o_ 24 (.indexSl 2 (.t 22) (.t 23)),
 o_ 25 (.load true 2 (.t 24) .copy),
 o_ 9 (.allocL 1 [(.int .i32 0), (.int .i64 0)]),
 ⟨none, none, false, .store 2 (.t 9) (.t 25), .none⟩])
 (.seq (.region false [o_ 26 (.mv (.t 2)),
 o_ 27 (.load true 2 (.t 8) .copy),
 o_ 28 (.load true 2 (.t 9) .copy),
 o_ 29 (.callV (.t 26) [(.t 27), (.t 28)]),
 o_ 10 (.mv (.t 29))])
 (.seq (.region false [o_ 30 (.mv (.t 10)),
 o_ 31 (.bin .neq (.t 30) (.c (.int .i64 0)))])
 (.cond (.t 31)
 (.seq (.region false [o_ 32 (.mv (.t 10)),
 o_ 6 (.mv (.t 32))])
 (.ret))
 (.skip))))))))
 (.region false [o_ 33 (.bin .add (.t 13) (.c (.int .i64 1))),
 o_ 13 (.mv (.t 33))])))))))
 (.seq (.seq (.region false [o_ 34 (.mv (.t 0)),
 o_ 35 (.lenSl (.t 34)),
 o_ 36 (.mv (.t 1)),
 o_ 37 (.lenSl (.t 36)),
 o_ 38 (.bin .lss (.t 35) (.t 37))])
 (.cond (.t 38)
 (.seq (.region false [o_ 6 (.mv (.c (.int .i64 (-1))))])
 (.ret))
 (.skip)))
 (.seq (.region false [o_ 6 (.mv (.c (.int .i64 0)))])
 (.ret))))⟩
theorem c71 : cFunc Go.Proofs.Tryd.prog p71 71 = some a71 := by decide +kernel
def p72 : Plan := ⟨[], 2, [((1, 11), { uses := [(15, .share)], mark := .free, pure := true }),
 ((1, 10), { mark := .free }),
 ((1, 9), { mark := .free, pure := true }),
 ((1, 8), { mark := (.loc 1) }),
 ((1, 6), { mark := (.loc 0) }),
 ((1, 4), { mark := .free, pure := true }),
 ((1, 3), { mark := (.loc 1) }),
 ((1, 1), { mark := (.loc 0) }),
 ((0, 0), { box := some 0 }),
 ((0, 1), { box := some 1 })],
 []⟩
def a72 : AFunc := ⟨2, 17, 2, [.tmp 4],
 .seq (.region false [o_ 2 (.boxL 0 (.t 0)),
 o_ 3 (.boxL 1 (.t 1)),
 o_ 4 (.mv (.c (.int .i64 0)))])
 (.seq (.region true [o_ 5 (.fieldAddr 0 (.t 2)),
 ⟨(some 6), none, false, .load false 1 (.t 5) .copy, (.loc 0)⟩,
 o_ 7 (.fieldAddr 0 (.t 3)),
 ⟨(some 8), none, false, .load false 1 (.t 7) .copy, (.loc 1)⟩,
 ⟨(some 9), none, false, .callP 74 [(.t 6), (.t 8)], .free⟩,
 o_ 10 (.fieldAddr 1 (.t 2)),
 ⟨(some 11), none, false, .load false 1 (.t 10) .copy, (.loc 0)⟩,
 o_ 12 (.fieldAddr 1 (.t 3)),
 ⟨(some 13), none, false, .load false 1 (.t 12) .copy, (.loc 1)⟩,
 ⟨(some 14), none, false, .callP 75 [(.t 11), (.t 13)], .free⟩,
 ⟨(some 15), none, false, .buildSlice 1 [(.int .i64 0)] 2 [(0, (.t 9)), (1, (.t 14))], .free⟩,
 ⟨(some 16), none, false, .callP 73 [(.u 15 .share)], .free⟩,
 o_ 4 (.mv (.t 16))])
 (.ret))⟩
theorem c72 : cFunc Go.Proofs.Tryd.prog p72 72 = some a72 := by decide +kernel
def p73 : Plan := ⟨[], 0, [],
 [[3, 6, 7, 8]]⟩
def a73 : AFunc := ⟨1, 18, 0, [.tmp 2],
 .seq (.region false [o_ 2 (.mv (.c (.int .i64 0)))])
 (.seq (.region false [o_ 3 (.mv (.c (.int .i64 0)))])
 (.seq (.seq (.region false [o_ 6 (.mv (.t 0)),
 o_ 7 (.lenSl (.t 6)),
 o_ 8 (.mv (.c (.int .i64 0)))])
 (.block 0 (.loop [3, 6, 7, 8] (.seq (.region false [o_ 9 (.bin .lss (.t 8) (.t 7))])
 (.seq (.cond (.t 9)
 (.skip)
 (.exit 0))
 (.seq (.block 1 (.seq (.region false [o_ 10 (.indexSl 1 (.t 6) (.t 8)),
 o_ 11 (.load false 1 (.t 10) .copy),
 o_ 5 (.mv (.t 11))])
 (.seq (.region false [o_ 12 (.mv (.t 5)),
 o_ 13 (.mv (.t 3)),
 o_ 14 (.bin .neq (.t 12) (.t 13))])
 (.cond (.t 14)
 (.seq (.region false [o_ 15 (.mv (.t 5)),
 o_ 2 (.mv (.t 15))])
 (.ret))
 (.skip)))))
 (.region false [o_ 16 (.bin .add (.t 8) (.c (.int .i64 1))),
 o_ 8 (.mv (.t 16))])))))))
 (.seq (.region false [o_ 17 (.mv (.t 3)),
 o_ 2 (.mv (.t 17))])
 (.ret))))⟩
theorem c73 : cFunc Go.Proofs.Tryd.prog p73 73 = some a73 := by decide +kernel
def p74 : Plan := ⟨[], 0, [((1, 1), { pure := true }),
 ((2, 1), { pure := true })],
 []⟩
def a74 : AFunc := ⟨2, 20, 0, [.tmp 4],
 .seq (.region false [o_ 4 (.mv (.c (.int .i64 0)))])
 (.seq (.region false [o_ 7 (.mv (.t 0)),
 o_ 8 (.callP 102 [(.t 7)]),
 o_ 5 (.mv (.t 8))])
 (.seq (.region false [o_ 9 (.mv (.t 1)),
 o_ 10 (.callP 102 [(.t 9)]),
 o_ 6 (.mv (.t 10))])
 (.seq (.seq (.region false [o_ 11 (.mv (.t 5))])
 (.cond (.t 11)
 (.seq (.seq (.region false [o_ 12 (.mv (.t 6))])
 (.cond (.t 12)
 (.seq (.region false [o_ 4 (.mv (.c (.int .i64 0)))])
 (.ret))
 (.skip)))
 (.seq (.region false [o_ 4 (.mv (.c (.int .i64 (-1))))])
 (.ret)))
 (.skip)))
 (.seq (.seq (.region false [o_ 13 (.mv (.t 6))])
 (.cond (.t 13)
 (.seq (.region false [o_ 4 (.mv (.c (.int .i64 1)))])
 (.ret))
 (.skip)))
 (.seq (.seq (.region false [o_ 14 (.mv (.t 0)),
 o_ 15 (.mv (.t 1)),
 o_ 16 (.bin .lss (.t 14) (.t 15))])
 (.cond (.t 16)
 (.seq (.region false [o_ 4 (.mv (.c (.int .i64 (-1))))])
 (.ret))
 (.skip)))
 (.seq (.seq (.region false [o_ 17 (.mv (.t 0)),
 o_ 18 (.mv (.t 1)),
 o_ 19 (.bin .gtr (.t 17) (.t 18))])
 (.cond (.t 19)
 (.seq (.region false [o_ 4 (.mv (.c (.int .i64 1)))])
 (.ret))
 (.skip)))
 (.seq (.region false [o_ 4 (.mv (.c (.int .i64 0)))])
 (.ret))))))))⟩
theorem c74 : cFunc Go.Proofs.Tryd.prog p74 74 = some a74 := by decide +kernel
def p75 : Plan := ⟨[], 0, [((1, 1), { pure := true }),
 ((2, 1), { pure := true })],
 []⟩
def a75 : AFunc := ⟨2, 20, 0, [.tmp 4],
 .seq (.region false [o_ 4 (.mv (.c (.int .i64 0)))])
 (.seq (.region false [o_ 7 (.mv (.t 0)),
 o_ 8 (.callP 103 [(.t 7)]),
 o_ 5 (.mv (.t 8))])
 (.seq (.region false [o_ 9 (.mv (.t 1)),
 o_ 10 (.callP 103 [(.t 9)]),
 o_ 6 (.mv (.t 10))])
 (.seq (.seq (.region false [o_ 11 (.mv (.t 5))])
 (.cond (.t 11)
 (.seq (.seq (.region false [o_ 12 (.mv (.t 6))])
 (.cond (.t 12)
 (.seq (.region false [o_ 4 (.mv (.c (.int .i64 0)))])
 (.ret))
 (.skip)))
 (.seq (.region false [o_ 4 (.mv (.c (.int .i64 (-1))))])
 (.ret)))
 (.skip)))
 (.seq (.seq (.region false [o_ 13 (.mv (.t 6))])
 (.cond (.t 13)
 (.seq (.region false [o_ 4 (.mv (.c (.int .i64 1)))])
 (.ret))
 (.skip)))
 (.seq (.seq (.region false [o_ 14 (.mv (.t 0)),
 o_ 15 (.mv (.t 1)),
 o_ 16 (.bin .lss (.t 14) (.t 15))])
 (.cond (.t 16)
 (.seq (.region false [o_ 4 (.mv (.c (.int .i64 (-1))))])
 (.ret))
 (.skip)))
 (.seq (.seq (.region false [o_ 17 (.mv (.t 0)),
 o_ 18 (.mv (.t 1)),
 o_ 19 (.bin .gtr (.t 17) (.t 18))])
 (.cond (.t 19)
 (.seq (.region false [o_ 4 (.mv (.c (.int .i64 1)))])
 (.ret))
 (.skip)))
 (.seq (.region false [o_ 4 (.mv (.c (.int .i64 0)))])
 (.ret))))))))⟩
theorem c75 : cFunc Go.Proofs.Tryd.prog p75 75 = some a75 := by decide +kernel
def p91 : Plan := ⟨[], 0, [((7, 1), { uses := [(18, .share)], pure := true })],
 [[0, 6, 7, 8]]⟩
def a91 : AFunc := ⟨1, 22, 0, [.tmp 2, .tmp 3],
 .seq (.region false [o_ 2 (.mv (.c (.int .i32 0))),
 o_ 3 (.mv (.c (.int .i64 0)))])
 (.seq (.seq (.region false [o_ 6 (.mv (.t 0)),
 o_ 7 (.lenSl (.t 6)),
 o_ 8 (.mv (.c (.int .i64 0)))])
 (.block 0 (.loop [0, 6, 7, 8] (.seq (.region false [o_ 9 (.bin .lss (.t 8) (.t 7))])
 (.seq (.cond (.t 9)
 (.skip)
 (.exit 0))
 (.seq (.block 1 (.seq (.region false [o_ 10 (.indexSl 1 (.t 6) (.t 8)),
 o_ 11 (.load false 1 (.t 10) .copy),
 o_ 5 (.mv (.t 11))])
 (.seq (.seq (.region false [o_ 12 (.mv (.t 5)),
 o_ 13 (.bin .lss (.t 12) (.c (.int .u8 128)))])
 (.cond (.t 13)
 (.seq (.region false [o_ 14 (.mv (.t 5)),
 o_ 15 (.conv .i32 (.t 14)),
 o_ 2 (.mv (.t 15)),
 o_ 3 (.mv (.c (.int .i64 1)))])
 (.ret))
 (.skip)))
 (.exit 0))))
 (.region false [o_ 16 (.bin .add (.t 8) (.c (.int .i64 1))),
 o_ 8 (.mv (.t 16))])))))))
 (.seq (.region false [o_ 18 (.mv (.t 0)),
 o_ 19 (.callP 111 [(.u 18 .share)]),
 o_ 17 (.mv (.t 19)),
 o_ 20 (.extract (.t 17) 0),
 o_ 21 (.extract (.t 17) 1),
 o_ 2 (.mv (.t 20)),
 o_ 3 (.mv (.t 21))])
 (.ret)))⟩
theorem c91 : cFunc Go.Proofs.Tryd.prog p91 91 = some a91 := by decide +kernel
def p92 : Plan := ⟨[], 0, [((6, 8), { uses := [(24, .share)], pure := true }),
 ((13, 10), { uses := [(48, .share)], pure := true }),
 ((13, 14), { uses := [(54, .share)], pure := true }),
 ((20, 10), { uses := [(85, .share)], pure := true }),
 ((20, 14), { uses := [(91, .share)], pure := true }),
 ((20, 18), { uses := [(95, .share)], pure := true })],
 []⟩
def a92 : AFunc := ⟨1, 122, 0, [.tmp 2, .tmp 3],
 .seq (.region false [o_ 2 (.mv (.c (.int .i64 0))),
 o_ 3 (.mv (.c (.int .i32 0)))])
 (.seq (.seq (.region false [o_ 7 (.mv (.t 0)),
 o_ 8 (.lenSl (.t 7)),
 o_ 9 (.bin .eql (.t 8) (.c (.int .i64 0)))])
 (.cond (.t 9)
 (.seq (.region false [o_ 2 (.mv (.c (.int .i64 0))),
 o_ 3 (.mv (.c (.int .i32 0)))])
 (.ret))
 (.skip)))
 (.seq (.region false [o_ 10 (.mv (.t 0)),
 o_ 11 (.indexSl 1 (.t 10) (.c (.int .i64 0))),
 o_ 12 (.load false 1 (.t 11) .copy),
 o_ 4 (.mv (.t 12))])
 (.seq (.seq (.region false [o_ 13 (.mv (.t 4)),
 o_ 14 (.bin .lss (.t 13) (.c (.int .u8 128)))])
 (.cond (.t 14)
 (.seq (.region false [o_ 15 (.mv (.t 4)),
 o_ 16 (.conv .i32 (.t 15)),
 o_ 2 (.mv (.c (.int .i64 1))),
 o_ 3 (.mv (.t 16))])
 (.ret))
 (.skip)))
 (.seq (.seq (.region false [o_ 17 (.mv (.t 4)),
 o_ 18 (.bin .geq (.t 17) (.c (.int .u8 194))),
 o_ 19 (.mv (.t 18)),
 ⟨(some 20), (some (19, true)), false, .mv (.t 4), .none⟩,
 ⟨(some 21), (some (19, true)), false, .bin .leq (.t 20) (.c (.int .u8 223)), .none⟩,
 o_ 22 (.pick (.t 19) (.t 21) (.c (.bool false))),
 o_ 23 (.mv (.t 22)),
 ⟨(some 24), (some (23, true)), false, .mv (.t 0), .none⟩,
 ⟨(some 25), (some (23, true)), false, .callP 112 [(.u 24 .share), (.c (.int .i64 1)), (.c (.int .u8 128)), (.c (.int .u8 191))], .none⟩,
 o_ 26 (.pick (.t 23) (.t 25) (.c (.bool false)))])
 (.cond (.t 26)
 (.seq (.region true [o_ 27 (.mv (.t 4)),
 o_ 28 (.bin .and (.t 27) (.c (.int .u8 31))),
 o_ 29 (.conv .i32 (.t 28)),
 o_ 30 (.bin .shl (.t 29) (.c (.int .u64 6))),
 o_ 31 (.mv (.t 0)),
 o_ 32 (.indexSl 1 (.t 31) (.c (.int .i64 1))),
 o_ 33 (.load false 1 (.t 32) .copy),
 o_ 34 (.bin .and (.t 33) (.c (.int .u8 63))),
 o_ 35 (.conv .i32 (.t 34)),
 o_ 36 (.bin .or (.t 30) (.t 35)),
 o_ 2 (.mv (.c (.int .i64 2))),
 o_ 3 (.mv (.t 36))])
 (.ret))
 (.skip)))
 (.seq (.region false [o_ 5 (.mv (.c (.int .u8 128))),
 o_ 6 (.mv (.c (.int .u8 191)))])
 (.seq (.seq (.region false [o_ 37 (.mv (.t 4)),
 o_ 38 (.bin .eql (.t 37) (.c (.int .u8 224)))])
 (.cond (.t 38)
 (.region false [o_ 5 (.mv (.c (.int .u8 160)))])
 (.skip)))
 (.seq (.seq (.region false [o_ 39 (.mv (.t 4)),
 o_ 40 (.bin .eql (.t 39) (.c (.int .u8 237)))])
 (.cond (.t 40)
 (.region false [o_ 6 (.mv (.c (.int .u8 159)))])
 (.skip)))
 (.seq (.seq (.region false [o_ 41 (.mv (.t 4)),
 o_ 42 (.bin .geq (.t 41) (.c (.int .u8 224))),
 o_ 43 (.mv (.t 42)),
 ⟨(some 44), (some (43, true)), false, .mv (.t 4), .none⟩,
 ⟨(some 45), (some (43, true)), false, .bin .leq (.t 44) (.c (.int .u8 239)), .none⟩,
 o_ 46 (.pick (.t 43) (.t 45) (.c (.bool false))),
 o_ 47 (.mv (.t 46)),
 ⟨(some 48), (some (47, true)), false, .mv (.t 0), .none⟩,
 ⟨(some 49), (some (47, true)), false, .mv (.t 5), .none⟩,
 ⟨(some 50), (some (47, true)), false, .mv (.t 6), .none⟩,
 ⟨(some 51), (some (47, true)), false, .callP 112 [(.u 48 .share), (.c (.int .i64 1)), (.t 49), (.t 50)], .none⟩,
 o_ 52 (.pick (.t 47) (.t 51) (.c (.bool false))),
 o_ 53 (.mv (.t 52)),
 ⟨(some 54), (some (53, true)), false, .mv (.t 0), .none⟩,
 ⟨(some 55), (some (53, true)), false, .callP 112 [(.u 54 .share), (.c (.int .i64 2)), (.c (.int .u8 128)), (.c (.int .u8 191))], .none⟩,
 o_ 56 (.pick (.t 53) (.t 55) (.c (.bool false)))])
 (.cond (.t 56)
 (.seq (.region true [o_ 57 (.mv (.t 4)),
 o_ 58 (.bin .and (.t 57) (.c (.int .u8 15))),
 o_ 59 (.conv .i32 (.t 58)),
 o_ 60 (.bin .shl (.t 59) (.c (.int .u64 12))),
 o_ 61 (.mv (.t 0)),
 o_ 62 (.indexSl 1 (.t 61) (.c (.int .i64 1))),
 o_ 63 (.load false 1 (.t 62) .copy),
 o_ 64 (.bin .and (.t 63) (.c (.int .u8 63))),
 o_ 65 (.conv .i32 (.t 64)),
 o_ 66 (.bin .shl (.t 65) (.c (.int .u64 6))),
 o_ 67 (.bin .or (.t 60) (.t 66)),
 o_ 68 (.mv (.t 0)),
 o_ 69 (.indexSl 1 (.t 68) (.c (.int .i64 2))),
 o_ 70 (.load false 1 (.t 69) .copy),
 o_ 71 (.bin .and (.t 70) (.c (.int .u8 63))),
 o_ 72 (.conv .i32 (.t 71)),
 o_ 73 (.bin .or (.t 67) (.t 72)),
 o_ 2 (.mv (.c (.int .i64 3))),
 o_ 3 (.mv (.t 73))])
 (.ret))
 (.skip)))
 (.seq (.region false [o_ 5 (.mv (.c (.int .u8 128))),
 o_ 6 (.mv (.c (.int .u8 191)))])
 (.seq (.seq (.region false [o_ 74 (.mv (.t 4)),
 o_ 75 (.bin .eql (.t 74) (.c (.int .u8 240)))])
 (.cond (.t 75)
 (.region false [o_ 5 (.mv (.c (.int .u8 144)))])
 (.skip)))
 (.seq (.seq (.region false [o_ 76 (.mv (.t 4)),
 o_ 77 (.bin .eql (.t 76) (.c (.int .u8 244)))])
 (.cond (.t 77)
 (.region false [o_ 6 (.mv (.c (.int .u8 143)))])
 (.skip)))
 (.seq (.seq (.region false [o_ 78 (.mv (.t 4)),
 o_ 79 (.bin .geq (.t 78) (.c (.int .u8 240))),
 o_ 80 (.mv (.t 79)),
 ⟨(some 81), (some (80, true)), false, .mv (.t 4), .none⟩,
 ⟨(some 82), (some (80, true)), false, .bin .leq (.t 81) (.c (.int .u8 244)), .none⟩,
 o_ 83 (.pick (.t 80) (.t 82) (.c (.bool false))),
 o_ 84 (.mv (.t 83)),
 ⟨(some 85), (some (84, true)), false, .mv (.t 0), .none⟩,
 ⟨(some 86), (some (84, true)), false, .mv (.t 5), .none⟩,
 ⟨(some 87), (some (84, true)), false, .mv (.t 6), .none⟩,
 ⟨(some 88), (some (84, true)), false, .callP 112 [(.u 85 .share), (.c (.int .i64 1)), (.t 86), (.t 87)], .none⟩,
 o_ 89 (.pick (.t 84) (.t 88) (.c (.bool false))),
 o_ 90 (.mv (.t 89)),
 ⟨(some 91), (some (90, true)), false, .mv (.t 0), .none⟩,
 ⟨(some 92), (some (90, true)), false, .callP 112 [(.u 91 .share), (.c (.int .i64 2)), (.c (.int .u8 128)), (.c (.int .u8 191))], .none⟩,
 o_ 93 (.pick (.t 90) (.t 92) (.c (.bool false))),
 o_ 94 (.mv (.t 93)),
 ⟨(some 95), (some (94, true)), false, .mv (.t 0), .none⟩,
 ⟨(some 96), (some (94, true)), false, .callP 112 [(.u 95 .share), (.c (.int .i64 3)), (.c (.int .u8 128)), (.c (.int .u8 191))], .none⟩,
 o_ 97 (.pick (.t 94) (.t 96) (.c (.bool false)))])
 (.cond (.t 97)
 (.seq (.region true [o_ 98 (.mv (.t 4)),
 o_ 99 (.bin .and (.t 98) (.c (.int .u8 7))),
 o_ 100 (.conv .i32 (.t 99)),
 o_ 101 (.bin .shl (.t 100) (.c (.int .u64 18))),
 o_ 102 (.mv (.t 0)),
 o_ 103 (.indexSl 1 (.t 102) (.c (.int .i64 1))),
 o_ 104 (.load false 1 (.t 103) .copy),
 o_ 105 (.bin .and (.t 104) (.c (.int .u8 63))),
 o_ 106 (.conv .i32 (.t 105)),
 o_ 107 (.bin .shl (.t 106) (.c (.int .u64 12))),
 o_ 108 (.bin .or (.t 101) (.t 107)),
 o_ 109 (.mv (.t 0)),
 o_ 110 (.indexSl 1 (.t 109) (.c (.int .i64 2))),
 o_ 111 (.load false 1 (.t 110) .copy),
 o_ 112 (.bin .and (.t 111) (.c (.int .u8 63))),
 o_ 113 (.conv .i32 (.t 112)),
 o_ 114 (.bin .shl (.t 113) (.c (.int .u64 6))),
 o_ 115 (.bin .or (.t 108) (.t 114)),
 o_ 116 (.mv (.t 0)),
 o_ 117 (.indexSl 1 (.t 116) (.c (.int .i64 3))),
 o_ 118 (.load false 1 (.t 117) .copy),
 o_ 119 (.bin .and (.t 118) (.c (.int .u8 63))),
 o_ 120 (.conv .i32 (.t 119)),
 o_ 121 (.bin .or (.t 115) (.t 120)),
 o_ 2 (.mv (.c (.int .i64 4))),
 o_ 3 (.mv (.t 121))])
 (.ret))
 (.skip)))
 (.seq (.region false [o_ 2 (.mv (.c (.int .i64 0))),
 o_ 3 (.mv (.c (.int .i32 0)))])
 (.ret))))))))))))))⟩
theorem c92 : cFunc Go.Proofs.Tryd.prog p92 92 = some a92 := by decide +kernel
def p93 : Plan := ⟨[], 0, [],
 []⟩
def a93 : AFunc := ⟨1, 17, 0, [.tmp 2],
 .seq (.region false [o_ 2 (.mv (.c (.bool false)))])
 (.seq (.block 0 (.seq (.region false [o_ 4 (.mv (.t 0)),
 o_ 5 (.bin .leq (.c (.int .i32 0)) (.t 4)),
 o_ 6 (.mv (.t 5)),
 ⟨(some 7), (some (6, true)), false, .mv (.t 0), .none⟩,
 ⟨(some 8), (some (6, true)), false, .bin .lss (.t 7) (.c (.int .i32 55296)), .none⟩,
 o_ 9 (.pick (.t 6) (.t 8) (.c (.bool false))),
 o_ 3 (.mv (.t 9))])
 (.cond (.t 3)
 (.seq (.region false [o_ 2 (.mv (.c (.bool true)))])
 (.ret))
 (.seq (.region false [o_ 11 (.mv (.t 0)),
 o_ 12 (.bin .lss (.c (.int .i32 57343)) (.t 11)),
 o_ 13 (.mv (.t 12)),
 ⟨(some 14), (some (13, true)), false, .mv (.t 0), .none⟩,
 ⟨(some 15), (some (13, true)), false, .bin .leq (.t 14) (.c (.int .i32 1114111)), .none⟩,
 o_ 16 (.pick (.t 13) (.t 15) (.c (.bool false))),
 o_ 10 (.mv (.t 16))])
 (.cond (.t 10)
 (.seq (.region false [o_ 2 (.mv (.c (.bool true)))])
 (.ret))
 (.skip))))))
 (.seq (.region false [o_ 2 (.mv (.c (.bool false)))])
 (.ret)))⟩
theorem c93 : cFunc Go.Proofs.Tryd.prog p93 93 = some a93 := by decide +kernel
def p94 : Plan := ⟨[], 0, [((2, 0), { uses := [(0, .take)] }),
 ((2, 4), { uses := [(8, .take), (11, .take)] }),
 ((2, 5), { uses := [(12, .take)] }),
 ((3, 0), { uses := [(0, .take)] }),
 ((3, 2), { uses := [(13, .take)], pure := true }),
 ((3, 3), { uses := [(15, .take)] })],
 []⟩
def a94 : AFunc := ⟨2, 16, 0, [.tmp 4],
 .seq (.region false [o_ 4 (.mv (.c .nils))])
 (.seq (.seq (.region false [o_ 5 (.mv (.t 1)),
 o_ 6 (.conv .u32 (.t 5)),
 o_ 7 (.bin .leq (.t 6) (.c (.int .u32 127)))])
 (.cond (.t 7)
 (.seq (.region false [o_ 8 (.mv (.u 0 .take)),
 o_ 9 (.mv (.t 1)),
 o_ 10 (.conv .u8 (.t 9)),
 o_ 11 (.buildSlice 1 [(.int .u8 0)] 1 [(0, (.t 10))]),
 o_ 12 (.append 1 (.u 8 .take) (.u 11 .take)),
 o_ 4 (.mv (.u 12 .take))])
 (.ret))
 (.skip)))
 (.seq (.region false [o_ 13 (.mv (.u 0 .take)),
 o_ 14 (.mv (.t 1)),
 o_ 15 (.callP 113 [(.u 13 .take), (.t 14)]),
 o_ 4 (.mv (.u 15 .take))])
 (.ret)))⟩
theorem c94 : cFunc Go.Proofs.Tryd.prog p94 94 = some a94 := by decide +kernel
def p95 : Plan := ⟨[9], 0, [((4, 2), { pure := true }),
 ((4, 3), { uses := [(18, .take)] }),
 ((6, 2), { pure := true }),
 ((8, 2), { uses := [(31, .take)] }),
 ((12, 2), { pure := true }),
 ((14, 0), { uses := [(9, .peek)] }),
 ((17, 0), { uses := [(9, .peek)] }),
 ((18, 0), { uses := [(9, .take)] }),
 ((18, 3), { uses := [(62, .take)] }),
 ((18, 4), { uses := [(65, .take)] })],
 [[0, 1, 2, 3, 9, 10]]⟩
def a95 : AFunc := ⟨4, 66, 0, [.tmp 8],
 .seq (.region false [o_ 8 (.mv (.c .nils))])
 (.seq (.seq (.region false [o_ 12 (.mv (.t 3)),
 o_ 13 (.bin .eql (.t 12) (.c (.int .i64 0)))])
 (.cond (.t 13)
 (.seq (.region false [o_ 8 (.mv (.c .nils))])
 (.ret))
 (.skip)))
 (.seq (.seq (.region false [o_ 14 (.mv (.t 1)),
 o_ 15 (.bin .eql (.t 14) (.c (.str [])))])
 (.cond (.t 15)
 (.seq (.region false [o_ 16 (.mv (.t 0)),
 o_ 17 (.mv (.t 3)),
 o_ 18 (.callP 114 [(.t 16), (.t 17)]),
 o_ 8 (.mv (.u 18 .take))])
 (.ret))
 (.skip)))
 (.seq (.seq (.region false [o_ 19 (.mv (.t 3)),
 o_ 20 (.bin .lss (.t 19) (.c (.int .i64 0)))])
 (.cond (.t 20)
 (.region false [o_ 21 (.mv (.t 0)),
 o_ 22 (.mv (.t 1)),
 o_ 23 (.callP 115 [(.t 21), (.t 22)]),
 o_ 24 (.bin .add (.t 23) (.c (.int .i64 1))),
 o_ 3 (.mv (.t 24))])
 (.skip)))
 (.seq (.region false [o_ 25 (.mv (.t 3)),
 o_ 26 (.mv (.t 0)),
 o_ 27 (.lenStr (.t 26)),
 o_ 28 (.bin .add (.t 27) (.c (.int .i64 1))),
 o_ 29 (.minMax false (.t 25) [(.t 28)]),
 o_ 3 (.mv (.t 29))])
 (.seq (.region false [o_ 30 (.mv (.t 3)),
 o_ 31 (.makeSlice 1 [(.str [])] (.t 30) (.t 30)),
 ⟨(some 9), none, true, .mv (.u 31 .take), .none⟩])
 (.seq (.region false [o_ 32 (.mv (.t 3)),
 o_ 33 (.bin .sub (.t 32) (.c (.int .i64 1))),
 o_ 3 (.mv (.t 33))])
 (.seq (.region false [o_ 10 (.mv (.c (.int .i64 0)))])
 (.seq (.block 0 (.loop [0, 1, 2, 3, 9, 10] (.seq (.seq (.region false [o_ 34 (.mv (.t 10)),
 o_ 35 (.mv (.t 3)),
 o_ 36 (.bin .lss (.t 34) (.t 35))])
 (.cond (.t 36)
 (.skip)
 (.exit 0)))
 (.block 1 (.seq (.region false [o_ 37 (.mv (.t 0)),
 o_ 38 (.mv (.t 1)),
 o_ 39 (.callP 116 [(.t 37), (.t 38)]),
 o_ 11 (.mv (.t 39))])
 (.seq (.seq (.region false [o_ 40 (.mv (.t 11)),
 o_ 41 (.bin .lss (.t 40) (.c (.int .i64 0)))])
 (.cond (.t 41)
 (.exit 0)
 (.skip)))
 (.seq (.region false [o_ 42 (.mv (.u 9 .peek)),
 o_ 43 (.mv (.t 10)),
 o_ 44 (.mv (.t 0)),
 o_ 45 (.mv (.t 11)),
 o_ 46 (.mv (.t 2)),
 o_ 47 (.bin .add (.t 45) (.t 46)),
 o_ 48 (.sliceS (.t 44) none (some (.t 47))),
 o_ 49 (.indexSl 1 (.t 42) (.t 43)),
 ⟨none, none, false, .store 1 (.t 49) (.t 48), .none⟩])
 (.seq (.region false [o_ 50 (.mv (.t 0)),
 o_ 51 (.mv (.t 11)),
 o_ 52 (.mv (.t 1)),
 o_ 53 (.lenStr (.t 52)),
 o_ 54 (.bin .add (.t 51) (.t 53)),
 o_ 55 (.sliceS (.t 50) (some (.t 54)) none),
 o_ 0 (.mv (.t 55))])
 (.region false [o_ 56 (.mv (.t 10)),
 o_ 57 (.bin .add (.t 56) (.c (.int .i64 1))),
 o_ 10 (.mv (.t 57))])))))))))
 (.seq (.region false [o_ 58 (.mv (.u 9 .peek)),
 o_ 59 (.mv (.t 10)),
 o_ 60 (.mv (.t 0)),
 o_ 61 (.indexSl 1 (.t 58) (.t 59)),
 ⟨none, none, false, .store 1 (.t 61) (.t 60), .none⟩])
 (.seq (.region false [o_ 62 (.mv (.u 9 .take)),
 o_ 63 (.mv (.t 10)),
 o_ 64 (.bin .add (.t 63) (.c (.int .i64 1))),
 o_ 65 (.sliceV 1 (.u 62 .take) none (some (.t 64))),
 o_ 8 (.mv (.u 65 .take))])
 (.ret)))))))))))⟩
theorem c95 : cFunc Go.Proofs.Tryd.prog p95 95 = some a95 := by decide +kernel
def p96 : Plan := ⟨[], 0, [((1, 2), { pure := true })],
 []⟩
def a96 : AFunc := ⟨2, 11, 0, [.tmp 4, .tmp 5],
 .seq (.region false [o_ 4 (.mv (.c (.str []))),
 o_ 5 (.mv (.c (.bool false)))])
 (.seq (.region false [o_ 6 (.mv (.t 0)),
 o_ 7 (.mv (.t 1)),
 o_ 8 (.callP 117 [(.t 6), (.t 7)]),
 o_ 9 (.extract (.t 8) 0),
 o_ 10 (.extract (.t 8) 1),
 o_ 4 (.mv (.t 9)),
 o_ 5 (.mv (.t 10))])
 (.ret))⟩
theorem c96 : cFunc Go.Proofs.Tryd.prog p96 96 = some a96 := by decide +kernel
def p97 : Plan := ⟨[], 0, [((3, 1), { pure := true })],
 []⟩
def a97 : AFunc := ⟨1, 19, 0, [.tmp 2, .tmp 3],
 .seq (.region false [o_ 2 (.mv (.c (.int .i32 0))),
 o_ 3 (.mv (.c (.int .i64 0)))])
 (.seq (.seq (.region false [o_ 4 (.mv (.t 0)),
 o_ 5 (.bin .neq (.t 4) (.c (.str []))),
 o_ 6 (.mv (.t 5)),
 ⟨(some 7), (some (6, true)), false, .mv (.t 0), .none⟩,
 ⟨(some 8), (some (6, true)), false, .indexStr (.t 7) (.c (.int .i64 0)), .none⟩,
 ⟨(some 9), (some (6, true)), false, .bin .lss (.t 8) (.c (.int .u8 128)), .none⟩,
 o_ 10 (.pick (.t 6) (.t 9) (.c (.bool false)))])
 (.cond (.t 10)
 (.seq (.region false [o_ 11 (.mv (.t 0)),
 o_ 12 (.indexStr (.t 11) (.c (.int .i64 0))),
 o_ 13 (.conv .i32 (.t 12)),
 o_ 2 (.mv (.t 13)),
 o_ 3 (.mv (.c (.int .i64 1)))])
 (.ret))
 (.region false [o_ 15 (.mv (.t 0)),
 o_ 16 (.callP 118 [(.t 15)]),
 o_ 14 (.mv (.t 16)),
 o_ 17 (.extract (.t 14) 0),
 o_ 18 (.extract (.t 14) 1),
 o_ 2 (.mv (.t 17)),
 o_ 3 (.mv (.t 18))])))
 (.ret))⟩
theorem c97 : cFunc Go.Proofs.Tryd.prog p97 97 = some a97 := by decide +kernel
def p98 : Plan := ⟨[], 0, [],
 []⟩
def a98 : AFunc := ⟨2, 18, 0, [.tmp 4],
 .seq (.region false [o_ 4 (.mv (.c (.bool false)))])
 (.seq (.region false [o_ 5 (.mv (.t 0)),
 o_ 6 (.lenStr (.t 5)),
 o_ 7 (.mv (.t 1)),
 o_ 8 (.lenStr (.t 7)),
 o_ 9 (.bin .geq (.t 6) (.t 8)),
 o_ 10 (.mv (.t 9)),
 ⟨(some 11), (some (10, true)), false, .mv (.t 0), .none⟩,
 ⟨(some 12), (some (10, true)), false, .mv (.t 1), .none⟩,
 ⟨(some 13), (some (10, true)), false, .lenStr (.t 12), .none⟩,
 ⟨(some 14), (some (10, true)), false, .sliceS (.t 11) none (some (.t 13)), .none⟩,
 ⟨(some 15), (some (10, true)), false, .mv (.t 1), .none⟩,
 ⟨(some 16), (some (10, true)), false, .bin .eql (.t 14) (.t 15), .none⟩,
 o_ 17 (.pick (.t 10) (.t 16) (.c (.bool false))),
 o_ 4 (.mv (.t 17))])
 (.ret))⟩
theorem c98 : cFunc Go.Proofs.Tryd.prog p98 98 = some a98 := by decide +kernel
def p99 : Plan := ⟨[], 0, [],
 [[0, 1, 7, 8]]⟩
def a99 : AFunc := ⟨2, 19, 0, [.tmp 4],
 .seq (.region false [o_ 4 (.mv (.c (.int .i64 0)))])
 (.seq (.seq (.region false [o_ 6 (.mv (.t 0)),
 o_ 7 (.lenSl (.t 6)),
 o_ 8 (.mv (.c (.int .i64 0)))])
 (.block 0 (.loop [0, 1, 7, 8] (.seq (.region false [o_ 9 (.bin .lss (.t 8) (.t 7))])
 (.seq (.cond (.t 9)
 (.skip)
 (.exit 0))
 (.seq (.block 1 (.seq (.region false [o_ 10 (.mv (.t 8)),
 o_ 5 (.mv (.t 10))])
 (.seq (.region false [o_ 11 (.mv (.t 1)),
 o_ 12 (.mv (.t 0)),
 o_ 13 (.mv (.t 5)),
 o_ 14 (.indexSl 2 (.t 12) (.t 13)),
 o_ 15 (.load true 2 (.t 14) .copy),
 o_ 16 (.callV (.t 11) [(.t 15)])])
 (.cond (.t 16)
 (.seq (.region false [o_ 17 (.mv (.t 5)),
 o_ 4 (.mv (.t 17))])
 (.ret))
 (.skip)))))
 (.region false [o_ 18 (.bin .add (.t 8) (.c (.int .i64 1))),
 o_ 8 (.mv (.t 18))])))))))
 (.seq (.region false [o_ 4 (.mv (.c (.int .i64 (-1))))])
 (.ret)))⟩
theorem c99 : cFunc Go.Proofs.Tryd.prog p99 99 = some a99 := by decide +kernel
def p102 : Plan := ⟨[], 0, [],
 []⟩
def a102 : AFunc := ⟨1, 6, 0, [.tmp 2],
 .seq (.region false [o_ 2 (.mv (.c (.bool false)))])
 (.seq (.region false [o_ 3 (.mv (.t 0)),
 o_ 4 (.mv (.t 0)),
 o_ 5 (.bin .neq (.t 3) (.t 4)),
 o_ 2 (.mv (.t 5))])
 (.ret))⟩
theorem c102 : cFunc Go.Proofs.Tryd.prog p102 102 = some a102 := by decide +kernel
def p103 : Plan := ⟨[], 0, [],
 []⟩
def a103 : AFunc := ⟨1, 6, 0, [.tmp 2],
 .seq (.region false [o_ 2 (.mv (.c (.bool false)))])
 (.seq (.region false [o_ 3 (.mv (.t 0)),
 o_ 4 (.mv (.t 0)),
 o_ 5 (.bin .neq (.t 3) (.t 4)),
 o_ 2 (.mv (.t 5))])
 (.ret))⟩
theorem c103 : cFunc Go.Proofs.Tryd.prog p103 103 = some a103 := by decide +kernel
def p111 : Plan := ⟨[], 1, [((10, 4), { box := some 0 })],
 []⟩
def a111 : AFunc := ⟨1, 122, 1, [.tmp 2, .tmp 3],
 .seq (.region false [o_ 2 (.mv (.c (.int .i32 0))),
 o_ 3 (.mv (.c (.int .i64 0)))])
 (.seq (.region false [o_ 13 (.mv (.t 0)),
 o_ 14 (.lenSl (.t 13)),
 o_ 4 (.mv (.t 14))])
 (.seq (.seq (.region false [o_ 15 (.mv (.t 4)),
 o_ 16 (.bin .lss (.t 15) (.c (.int .i64 1)))])
 (.cond (.t 16)
 (.seq (.region false [o_ 2 (.mv (.c (.int .i32 65533))),
 o_ 3 (.mv (.c (.int .i64 0)))])
 (.ret))
 (.skip)))
 (.seq (.region false [o_ 17 (.mv (.t 0)),
 o_ 18 (.indexSl 1 (.t 17) (.c (.int .i64 0))),
 o_ 19 (.load false 1 (.t 18) .copy),
 o_ 5 (.mv (.t 19))])
 (.seq (.region false [o_ 20 (.mv (.t 5)),
 o_ 21 (.indexSl 1 (.c (.slice false 1 tab1)) (.t 20)),
 o_ 22 (.load false 1 (.t 21) .copy),
 o_ 6 (.mv (.t 22))])
 (.seq (.seq (.region false [o_ 23 (.mv (.t 6)),
 o_ 24 (.bin .geq (.t 23) (.c (.int .u8 240)))])
 (.cond (.t 24)
 (.seq (.region false [o_ 25 (.mv (.t 6)),
 o_ 26 (.conv .i32 (.t 25)),
 o_ 27 (.bin .shl (.t 26) (.c (.int .u64 31))),
 o_ 28 (.bin .shr (.t 27) (.c (.int .u64 31))),
 o_ 7 (.mv (.t 28))])
 (.seq (.region false [o_ 29 (.mv (.t 0)),
 o_ 30 (.indexSl 1 (.t 29) (.c (.int .i64 0))),
 o_ 31 (.load false 1 (.t 30) .copy),
 o_ 32 (.conv .i32 (.t 31)),
 o_ 33 (.mv (.t 7)),
 o_ 34 (.bin .andNot (.t 32) (.t 33)),
 o_ 35 (.mv (.t 7)),
 o_ 36 (.bin .and (.c (.int .i32 65533)) (.t 35)),
 o_ 37 (.bin .or (.t 34) (.t 36)),
 o_ 2 (.mv (.t 37)),
 o_ 3 (.mv (.c (.int .i64 1)))])
 (.ret)))
 (.skip)))
 (.seq (.region false [o_ 38 (.mv (.t 6)),
 o_ 39 (.bin .and (.t 38) (.c (.int .u8 7))),
 o_ 40 (.conv .i64 (.t 39)),
 o_ 8 (.mv (.t 40))])
 (.seq (.region false [o_ 41 (.mv (.t 6)),
 o_ 42 (.bin .shr (.t 41) (.c (.int .u64 4))),
 o_ 43 (.indexSl 2 (.c (.slice false 2 tab2)) (.t 42)),
 o_ 44 (.load true 2 (.t 43) .copy),
 o_ 9 (.allocL 0 [(.int .u8 0), (.int .u8 0)]),
 ⟨none, none, false, .store 2 (.t 9) (.t 44), .none⟩])
 (.seq (.seq (.region false [o_ 45 (.mv (.t 4)),
 o_ 46 (.mv (.t 8)),
 o_ 47 (.bin .lss (.t 45) (.t 46))])
 (.cond (.t 47)
 (.seq (.region false [o_ 2 (.mv (.c (.int .i32 65533))),
 o_ 3 (.mv (.c (.int .i64 1)))])
 (.ret))
 (.skip)))
 (.seq (.region false [o_ 48 (.mv (.t 0)),
 o_ 49 (.indexSl 1 (.t 48) (.c (.int .i64 1))),
 o_ 50 (.load false 1 (.t 49) .copy),
 o_ 10 (.mv (.t 50))])
 (.seq (.seq (.region false [o_ 51 (.mv (.t 10)),
 o_ 52 (.fieldAddr 0 (.t 9)),
 o_ 53 (.load false 1 (.t 52) .copy),
 o_ 54 (.bin .lss (.t 51) (.t 53)),
 o_ 55 (.mv (.t 54)),
 ⟨(some 56), (some (55, false)), false, .fieldAddr 1 (.t 9), .none⟩,
 ⟨(some 57), (some (55, false)), false, .load false 1 (.t 56) .copy, .none⟩,
 ⟨(some 58), (some (55, false)), false, .mv (.t 10), .none⟩,
 ⟨(some 59), (some (55, false)), false, .bin .lss (.t 57) (.t 58), .none⟩,
 o_ 60 (.pick (.t 55) (.c (.bool true)) (.t 59))])
 (.cond (.t 60)
 (.seq (.region false [o_ 2 (.mv (.c (.int .i32 65533))),
 o_ 3 (.mv (.c (.int .i64 1)))])
 (.ret))
 (.skip)))
 (.seq (.seq (.region false [o_ 61 (.mv (.t 8)),
 o_ 62 (.bin .leq (.t 61) (.c (.int .i64 2)))])
 (.cond (.t 62)
 (.seq (.region false [o_ 63 (.mv (.t 5)),
 o_ 64 (.bin .and (.t 63) (.c (.int .u8 31))),
 o_ 65 (.conv .i32 (.t 64)),
 o_ 66 (.bin .shl (.t 65) (.c (.int .u64 6))),
 o_ 67 (.mv (.t 10)),
 o_ 68 (.bin .and (.t 67) (.c (.int .u8 63))),
 o_ 69 (.conv .i32 (.t 68)),
 o_ 70 (.bin .or (.t 66) (.t 69)),
 o_ 2 (.mv (.t 70)),
 o_ 3 (.mv (.c (.int .i64 2)))])
 (.ret))
 (.skip)))
 (.seq (.region false [o_ 71 (.mv (.t 0)),
 o_ 72 (.indexSl 1 (.t 71) (.c (.int .i64 2))),
 o_ 73 (.load false 1 (.t 72) .copy),
 o_ 11 (.mv (.t 73))])
 (.seq (.seq (.region false [o_ 74 (.mv (.t 11)),
 o_ 75 (.bin .lss (.t 74) (.c (.int .u8 128))),
 o_ 76 (.mv (.t 75)),
 ⟨(some 77), (some (76, false)), false, .mv (.t 11), .none⟩,
 ⟨(some 78), (some (76, false)), false, .bin .lss (.c (.int .u8 191)) (.t 77), .none⟩,
 o_ 79 (.pick (.t 76) (.c (.bool true)) (.t 78))])
 (.cond (.t 79)
 (.seq (.region false [o_ 2 (.mv (.c (.int .i32 65533))),
 o_ 3 (.mv (.c (.int .i64 1)))])
 (.ret))
 (.skip)))
 (.seq (.seq (.region false [o_ 80 (.mv (.t 8)),
 o_ 81 (.bin .leq (.t 80) (.c (.int .i64 3)))])
 (.cond (.t 81)
 (.seq (.region false [o_ 82 (.mv (.t 5)),
 o_ 83 (.bin .and (.t 82) (.c (.int .u8 15))),
 o_ 84 (.conv .i32 (.t 83)),
 o_ 85 (.bin .shl (.t 84) (.c (.int .u64 12))),
 o_ 86 (.mv (.t 10)),
 o_ 87 (.bin .and (.t 86) (.c (.int .u8 63))),
 o_ 88 (.conv .i32 (.t 87)),
 o_ 89 (.bin .shl (.t 88) (.c (.int .u64 6))),
 o_ 90 (.bin .or (.t 85) (.t 89)),
 o_ 91 (.mv (.t 11)),
 o_ 92 (.bin .and (.t 91) (.c (.int .u8 63))),
 o_ 93 (.conv .i32 (.t 92)),
 o_ 94 (.bin .or (.t 90) (.t 93)),
 o_ 2 (.mv (.t 94)),
 o_ 3 (.mv (.c (.int .i64 3)))])
 (.ret))
 (.skip)))
 (.seq (.region false [o_ 95 (.mv (.t 0)),
 o_ 96 (.indexSl 1 (.t 95) (.c (.int .i64 3))),
 o_ 97 (.load false 1 (.t 96) .copy),
 o_ 12 (.mv (.t 97))])
 (.seq (.seq (.region false [o_ 98 (.mv (.t 12)),
 o_ 99 (.bin .lss (.t 98) (.c (.int .u8 128))),
 o_ 100 (.mv (.t 99)),
 ⟨(some 101), (some (100, false)), false, .mv (.t 12), .none⟩,
 ⟨(some 102), (some (100, false)), false, .bin .lss (.c (.int .u8 191)) (.t 101), .none⟩,
 o_ 103 (.pick (.t 100) (.c (.bool true)) (.t 102))])
 (.cond (.t 103)
 (.seq (.region false [o_ 2 (.mv (.c (.int .i32 65533))),
 o_ 3 (.mv (.c (.int .i64 1)))])
 (.ret))
 (.skip)))
 (.seq (.region false [o_ 104 (.mv (.t 5)),
 o_ 105 (.bin .and (.t 104) (.c (.int .u8 7))),
 o_ 106 (.conv .i32 (.t 105)),
 o_ 107 (.bin .shl (.t 106) (.c (.int .u64 18))),
 o_ 108 (.mv (.t 10)),
 o_ 109 (.bin .and (.t 108) (.c (.int .u8 63))),
 o_ 110 (.conv .i32 (.t 109)),
 o_ 111 (.bin .shl (.t 110) (.c (.int .u64 12))),
 o_ 112 (.bin .or (.t 107) (.t 111)),
 o_ 113 (.mv (.t 11)),
 o_ 114 (.bin .and (.t 113) (.c (.int .u8 63))),
 o_ 115 (.conv .i32 (.t 114)),
 o_ 116 (.bin .shl (.t 115) (.c (.int .u64 6))),
 o_ 117 (.bin .or (.t 112) (.t 116)),
 o_ 118 (.mv (.t 12)),
 o_ 119 (.bin .and (.t 118) (.c (.int .u8 63))),
 o_ 120 (.conv .i32 (.t 119)),
 o_ 121 (.bin .or (.t 117) (.t 120)),
 o_ 2 (.mv (.t 121)),
 o_ 3 (.mv (.c (.int .i64 4)))])
 (.ret))))))))))))))))))⟩
theorem c111 : cFunc Go.Proofs.Tryd.prog p111 111 = some a111 := by decide +kernel
def p112 : Plan := ⟨[], 0, [],
 []⟩
def a112 : AFunc := ⟨4, 29, 0, [.tmp 8],
 .seq (.region false [o_ 8 (.mv (.c (.bool false)))])
 (.seq (.region false [o_ 9 (.mv (.t 1)),
 o_ 10 (.mv (.t 0)),
 o_ 11 (.lenSl (.t 10)),
 o_ 12 (.bin .lss (.t 9) (.t 11)),
 o_ 13 (.mv (.t 12)),
 ⟨(some 14), (some (13, true)), false, .mv (.t 0), .none⟩,
 ⟨(some 15), (some (13, true)), false, .mv (.t 1), .none⟩,
 ⟨(some 16), (some (13, true)), false, .indexSl 1 (.t 14) (.t 15), .none⟩,
 ⟨(some 17), (some (13, true)), false, .load false 1 (.t 16) .copy, .none⟩,
 ⟨(some 18), (some (13, true)), false, .mv (.t 2), .none⟩,
 ⟨(some 19), (some (13, true)), false, .bin .geq (.t 17) (.t 18), .none⟩,
 o_ 20 (.pick (.t 13) (.t 19) (.c (.bool false))),
 o_ 21 (.mv (.t 20)),
 ⟨(some 22), (some (21, true)), false, .mv (.t 0), .none⟩,
 ⟨(some 23), (some (21, true)), false, .mv (.t 1), .none⟩,
 ⟨(some 24), (some (21, true)), false, .indexSl 1 (.t 22) (.t 23), .none⟩,
 ⟨(some 25), (some (21, true)), false, .load false 1 (.t 24) .copy, .none⟩,
 ⟨(some 26), (some (21, true)), false, .mv (.t 3), .none⟩,
 ⟨(some 27), (some (21, true)), false, .bin .leq (.t 25) (.t 26), .none⟩,
 o_ 28 (.pick (.t 21) (.t 27) (.c (.bool false))),
 o_ 8 (.mv (.t 28))])
 (.ret))⟩
theorem c112 : cFunc Go.Proofs.Tryd.prog p112 112 = some a112 := by decide +kernel
def p113 : Plan := ⟨[], 0, [((4, 0), { uses := [(0, .take)] }),
 ((4, 10), { uses := [(14, .take), (23, .take)] }),
 ((4, 11), { uses := [(24, .take)] }),
 ((7, 0), { uses := [(0, .take)] }),
 ((7, 15), { uses := [(34, .take), (48, .take)] }),
 ((7, 16), { uses := [(49, .take)] }),
 ((9, 0), { uses := [(0, .take)] }),
 ((9, 20), { uses := [(57, .take), (76, .take)] }),
 ((9, 21), { uses := [(77, .take)] }),
 ((2, 0), { uses := [(0, .take)] }),
 ((2, 2), { uses := [(8, .take), (9, .take)] }),
 ((2, 3), { uses := [(10, .take)] })],
 []⟩
def a113 : AFunc := ⟨2, 78, 0, [.tmp 4],
 .seq (.region false [o_ 4 (.mv (.c .nils))])
 (.seq (.region false [o_ 6 (.mv (.t 1)),
 o_ 7 (.conv .u32 (.t 6)),
 o_ 5 (.mv (.t 7))])
 (.block 0 (.seq (.region false [o_ 12 (.mv (.t 5)),
 o_ 13 (.bin .leq (.t 12) (.c (.int .u32 2047))),
 o_ 11 (.mv (.t 13))])
 (.cond (.t 11)
 (.seq (.region false [o_ 14 (.mv (.u 0 .take)),
 o_ 15 (.mv (.t 1)),
 o_ 16 (.bin .shr (.t 15) (.c (.int .u64 6))),
 o_ 17 (.conv .u8 (.t 16)),
 o_ 18 (.bin .or (.c (.int .u8 192)) (.t 17)),
 o_ 19 (.mv (.t 1)),
 o_ 20 (.conv .u8 (.t 19)),
 o_ 21 (.bin .and (.t 20) (.c (.int .u8 63))),
 o_ 22 (.bin .or (.c (.int .u8 128)) (.t 21)),
 o_ 23 (.buildSlice 1 [(.int .u8 0)] 2 [(0, (.t 18)), (1, (.t 22))]),
 o_ 24 (.append 1 (.u 14 .take) (.u 23 .take)),
 o_ 4 (.mv (.u 24 .take))])
 (.ret))
 (.seq (.seq (.region false [o_ 26 (.mv (.t 5)),
 o_ 27 (.bin .lss (.t 26) (.c (.int .u32 55296))),
 o_ 25 (.mv (.t 27))])
 (.cond (.t 25)
 (.skip)
 (.region false [o_ 28 (.mv (.t 5)),
 o_ 29 (.bin .lss (.c (.int .u32 57343)) (.t 28)),
 o_ 30 (.mv (.t 29)),
 ⟨(some 31), (some (30, true)), false, .mv (.t 5), .none⟩,
 ⟨(some 32), (some (30, true)), false, .bin .leq (.t 31) (.c (.int .u32 65535)), .none⟩,
 o_ 33 (.pick (.t 30) (.t 32) (.c (.bool false))),
 o_ 25 (.mv (.t 33))])))
 (.cond (.t 25)
 (.seq (.region false [o_ 34 (.mv (.u 0 .take)),
 o_ 35 (.mv (.t 1)),
 o_ 36 (.bin .shr (.t 35) (.c (.int .u64 12))),
 o_ 37 (.conv .u8 (.t 36)),
 o_ 38 (.bin .or (.c (.int .u8 224)) (.t 37)),
 o_ 39 (.mv (.t 1)),
 o_ 40 (.bin .shr (.t 39) (.c (.int .u64 6))),
 o_ 41 (.conv .u8 (.t 40)),
 o_ 42 (.bin .and (.t 41) (.c (.int .u8 63))),
 o_ 43 (.bin .or (.c (.int .u8 128)) (.t 42)),
 o_ 44 (.mv (.t 1)),
 o_ 45 (.conv .u8 (.t 44)),
 o_ 46 (.bin .and (.t 45) (.c (.int .u8 63))),
 o_ 47 (.bin .or (.c (.int .u8 128)) (.t 46)),
 o_ 48 (.buildSlice 1 [(.int .u8 0)] 3 [(0, (.t 38)), (1, (.t 43)), (2, (.t 47))]),
 o_ 49 (.append 1 (.u 34 .take) (.u 48 .take)),
 o_ 4 (.mv (.u 49 .take))])
 (.ret))
 (.seq (.region false [o_ 51 (.mv (.t 5)),
 o_ 52 (.bin .gtr (.t 51) (.c (.int .u32 65535))),
 o_ 53 (.mv (.t 52)),
 ⟨(some 54), (some (53, true)), false, .mv (.t 5), .none⟩,
 ⟨(some 55), (some (53, true)), false, .bin .leq (.t 54) (.c (.int .u32 1114111)), .none⟩,
 o_ 56 (.pick (.t 53) (.t 55) (.c (.bool false))),
 o_ 50 (.mv (.t 56))])
 (.cond (.t 50)
 (.seq (.region false [o_ 57 (.mv (.u 0 .take)),
 o_ 58 (.mv (.t 1)),
 o_ 59 (.bin .shr (.t 58) (.c (.int .u64 18))),
 o_ 60 (.conv .u8 (.t 59)),
 o_ 61 (.bin .or (.c (.int .u8 240)) (.t 60)),
 o_ 62 (.mv (.t 1)),
 o_ 63 (.bin .shr (.t 62) (.c (.int .u64 12))),
 o_ 64 (.conv .u8 (.t 63)),
 o_ 65 (.bin .and (.t 64) (.c (.int .u8 63))),
 o_ 66 (.bin .or (.c (.int .u8 128)) (.t 65)),
 o_ 67 (.mv (.t 1)),
 o_ 68 (.bin .shr (.t 67) (.c (.int .u64 6))),
 o_ 69 (.conv .u8 (.t 68)),
 o_ 70 (.bin .and (.t 69) (.c (.int .u8 63))),
 o_ 71 (.bin .or (.c (.int .u8 128)) (.t 70)),
 o_ 72 (.mv (.t 1)),
 o_ 73 (.conv .u8 (.t 72)),
 o_ 74 (.bin .and (.t 73) (.c (.int .u8 63))),
 o_ 75 (.bin .or (.c (.int .u8 128)) (.t 74)),
 o_ 76 (.buildSlice 1 [(.int .u8 0)] 4 [(0, (.t 61)), (1, (.t 66)), (2, (.t 71)), (3, (.t 75))]),
 o_ 77 (.append 1 (.u 57 .take) (.u 76 .take)),
 o_ 4 (.mv (.u 77 .take))])
 (.ret))
 (.seq (.region false [o_ 8 (.mv (.u 0 .take)),
 o_ 9 (.buildSlice 1 [(.int .u8 0)] 3 [(0, (.c (.int .u8 239))), (1, (.c (.int .u8 191))), (2, (.c (.int .u8 189)))]),
 o_ 10 (.append 1 (.u 8 .take) (.u 9 .take)),
 o_ 4 (.mv (.u 10 .take))])
 (.ret))))))))))⟩
theorem c113 : cFunc Go.Proofs.Tryd.prog p113 113 = some a113 := by decide +kernel
def p114 : Plan := ⟨[6], 0, [((1, 1), { pure := true }),
 ((4, 2), { uses := [(21, .take)] }),
 ((8, 1), { pure := true }),
 ((9, 0), { uses := [(6, .peek)] }),
 ((12, 0), { uses := [(6, .peek)] }),
 ((13, 0), { uses := [(6, .take)] }),
 ((13, 1), { uses := [(49, .take)] })],
 [[0, 1, 6, 7]]⟩
def a114 : AFunc := ⟨2, 50, 0, [.tmp 4],
 .seq (.region false [o_ 4 (.mv (.c .nils))])
 (.seq (.region false [o_ 10 (.mv (.t 0)),
 o_ 11 (.callP 137 [(.t 10)]),
 o_ 5 (.mv (.t 11))])
 (.seq (.seq (.region false [o_ 12 (.mv (.t 1)),
 o_ 13 (.bin .lss (.t 12) (.c (.int .i64 0))),
 o_ 14 (.mv (.t 13)),
 ⟨(some 15), (some (14, false)), false, .mv (.t 1), .none⟩,
 ⟨(some 16), (some (14, false)), false, .mv (.t 5), .none⟩,
 ⟨(some 17), (some (14, false)), false, .bin .gtr (.t 15) (.t 16), .none⟩,
 o_ 18 (.pick (.t 14) (.c (.bool true)) (.t 17))])
 (.cond (.t 18)
 (.region false [o_ 19 (.mv (.t 5)),
 o_ 1 (.mv (.t 19))])
 (.skip)))
 (.seq (.region false [o_ 20 (.mv (.t 1)),
 o_ 21 (.makeSlice 1 [(.str [])] (.t 20) (.t 20)),
 ⟨(some 6), none, true, .mv (.u 21 .take), .none⟩])
 (.seq (.seq (.region false [o_ 7 (.mv (.c (.int .i64 0)))])
 (.block 0 (.loop [0, 1, 6, 7] (.seq (.seq (.region false [o_ 22 (.mv (.t 7)),
 o_ 23 (.mv (.t 1)),
 o_ 24 (.bin .sub (.t 23) (.c (.int .i64 1))),
 o_ 25 (.bin .lss (.t 22) (.t 24))])
 (.cond (.t 25)
 (.skip)
 (.exit 0)))
 (.seq (.block 1 (.seq (.region false [o_ 29 (.mv (.t 0)),
 o_ 30 (.callP 97 [(.t 29)]),
 o_ 28 (.mv (.t 30)),
 o_ 31 (.extract (.t 28) 0),
 o_ 32 (.extract (.t 28) 1),
 o_ 8 (.mv (.t 31)),
 o_ 9 (.mv (.t 32))])
 (.seq (.region false [o_ 33 (.mv (.u 6 .peek)),
 o_ 34 (.mv (.t 7)),
 o_ 35 (.mv (.t 0)),
 o_ 36 (.mv (.t 9)),
 o_ 37 (.sliceS (.t 35) none (some (.t 36))),
 o_ 38 (.indexSl 1 (.t 33) (.t 34)),
 ⟨none, none, false, .store 1 (.t 38) (.t 37), .none⟩])
 (.region false [o_ 39 (.mv (.t 0)),
 o_ 40 (.mv (.t 9)),
 o_ 41 (.sliceS (.t 39) (some (.t 40)) none),
 o_ 0 (.mv (.t 41))]))))
 (.region false [o_ 26 (.mv (.t 7)),
 o_ 27 (.bin .add (.t 26) (.c (.int .i64 1))),
 o_ 7 (.mv (.t 27))]))))))
 (.seq (.seq (.region false [o_ 42 (.mv (.t 1)),
 o_ 43 (.bin .gtr (.t 42) (.c (.int .i64 0)))])
 (.cond (.t 43)
 (.region false [o_ 44 (.mv (.u 6 .peek)),
 o_ 45 (.mv (.t 1)),
 o_ 46 (.bin .sub (.t 45) (.c (.int .i64 1))),
 o_ 47 (.mv (.t 0)),
 o_ 48 (.indexSl 1 (.t 44) (.t 46)),
 ⟨none, none, false, .store 1 (.t 48) (.t 47), .none⟩])
 (.skip)))
 (.seq (.region false [o_ 49 (.mv (.u 6 .take)),
 o_ 4 (.mv (.u 49 .take))])
 (.ret)))))))⟩
theorem c114 : cFunc Go.Proofs.Tryd.prog p114 114 = some a114 := by decide +kernel
def p117 : Plan := ⟨[], 0, [((1, 2), { pure := true })],
 []⟩
def a117 : AFunc := ⟨2, 15, 0, [.tmp 4, .tmp 5],
 .seq (.region false [o_ 4 (.mv (.c (.str []))),
 o_ 5 (.mv (.c (.bool false)))])
 (.seq (.seq (.region false [o_ 6 (.mv (.t 0)),
 o_ 7 (.mv (.t 1)),
 o_ 8 (.callP 140 [(.t 6), (.t 7)]),
 o_ 9 (.un .not (.t 8))])
 (.cond (.t 9)
 (.seq (.region false [o_ 10 (.mv (.t 0)),
 o_ 4 (.mv (.t 10)),
 o_ 5 (.mv (.c (.bool false)))])
 (.ret))
 (.skip)))
 (.seq (.region false [o_ 11 (.mv (.t 0)),
 o_ 12 (.mv (.t 1)),
 o_ 13 (.lenStr (.t 12)),
 o_ 14 (.sliceS (.t 11) (some (.t 13)) none),
 o_ 4 (.mv (.t 14)),
 o_ 5 (.mv (.c (.bool true)))])
 (.ret)))⟩
theorem c117 : cFunc Go.Proofs.Tryd.prog p117 117 = some a117 := by decide +kernel
def p118 : Plan := ⟨[], 1, [((10, 4), { box := some 0 })],
 []⟩
def a118 : AFunc := ⟨1, 117, 1, [.tmp 2, .tmp 3],
 .seq (.region false [o_ 2 (.mv (.c (.int .i32 0))),
 o_ 3 (.mv (.c (.int .i64 0)))])
 (.seq (.region false [o_ 13 (.mv (.t 0)),
 o_ 14 (.lenStr (.t 13)),
 o_ 4 (.mv (.t 14))])
 (.seq (.seq (.region false [o_ 15 (.mv (.t 4)),
 o_ 16 (.bin .lss (.t 15) (.c (.int .i64 1)))])
 (.cond (.t 16)
 (.seq (.region false [o_ 2 (.mv (.c (.int .i32 65533))),
 o_ 3 (.mv (.c (.int .i64 0)))])
 (.ret))
 (.skip)))
 (.seq (.region false [o_ 17 (.mv (.t 0)),
 o_ 18 (.indexStr (.t 17) (.c (.int .i64 0))),
 o_ 5 (.mv (.t 18))])
 (.seq (.region false [o_ 19 (.mv (.t 5)),
 o_ 20 (.indexSl 1 (.c (.slice false 1 tab1)) (.t 19)),
 o_ 21 (.load false 1 (.t 20) .copy),
 o_ 6 (.mv (.t 21))])
 (.seq (.seq (.region false [o_ 22 (.mv (.t 6)),
 o_ 23 (.bin .geq (.t 22) (.c (.int .u8 240)))])
 (.cond (.t 23)
 (.seq (.region false [o_ 24 (.mv (.t 6)),
 o_ 25 (.conv .i32 (.t 24)),
 o_ 26 (.bin .shl (.t 25) (.c (.int .u64 31))),
 o_ 27 (.bin .shr (.t 26) (.c (.int .u64 31))),
 o_ 7 (.mv (.t 27))])
 (.seq (.region false [o_ 28 (.mv (.t 0)),
 o_ 29 (.indexStr (.t 28) (.c (.int .i64 0))),
 o_ 30 (.conv .i32 (.t 29)),
 o_ 31 (.mv (.t 7)),
 o_ 32 (.bin .andNot (.t 30) (.t 31)),
 o_ 33 (.mv (.t 7)),
 o_ 34 (.bin .and (.c (.int .i32 65533)) (.t 33)),
 o_ 35 (.bin .or (.t 32) (.t 34)),
 o_ 2 (.mv (.t 35)),
 o_ 3 (.mv (.c (.int .i64 1)))])
 (.ret)))
 (.skip)))
 (.seq (.region false [o_ 36 (.mv (.t 6)),
 o_ 37 (.bin .and (.t 36) (.c (.int .u8 7))),
 o_ 38 (.conv .i64 (.t 37)),
 o_ 8 (.mv (.t 38))])
 (.seq (.region false [o_ 39 (.mv (.t 6)),
 o_ 40 (.bin .shr (.t 39) (.c (.int .u64 4))),
 o_ 41 (.indexSl 2 (.c (.slice false 2 tab2)) (.t 40)),
 o_ 42 (.load true 2 (.t 41) .copy),
 o_ 9 (.allocL 0 [(.int .u8 0), (.int .u8 0)]),
 ⟨none, none, false, .store 2 (.t 9) (.t 42), .none⟩])
 (.seq (.seq (.region false [o_ 43 (.mv (.t 4)),
 o_ 44 (.mv (.t 8)),
 o_ 45 (.bin .lss (.t 43) (.t 44))])
 (.cond (.t 45)
 (.seq (.region false [o_ 2 (.mv (.c (.int .i32 65533))),
 o_ 3 (.mv (.c (.int .i64 1)))])
 (.ret))
 (.skip)))
 (.seq (.region false [o_ 46 (.mv (.t 0)),
 o_ 47 (.indexStr (.t 46) (.c (.int .i64 1))),
 o_ 10 (.mv (.t 47))])
 (.seq (.seq (.region false [o_ 48 (.mv (.t 10)),
 o_ 49 (.fieldAddr 0 (.t 9)),
 o_ 50 (.load false 1 (.t 49) .copy),
 o_ 51 (.bin .lss (.t 48) (.t 50)),
 o_ 52 (.mv (.t 51)),
 ⟨(some 53), (some (52, false)), false, .fieldAddr 1 (.t 9), .none⟩,
 ⟨(some 54), (some (52, false)), false, .load false 1 (.t 53) .copy, .none⟩,
 ⟨(some 55), (some (52, false)), false, .mv (.t 10), .none⟩,
 ⟨(some 56), (some (52, false)), false, .bin .lss (.t 54) (.t 55), .none⟩,
 o_ 57 (.pick (.t 52) (.c (.bool true)) (.t 56))])
 (.cond (.t 57)
 (.seq (.region false [o_ 2 (.mv (.c (.int .i32 65533))),
 o_ 3 (.mv (.c (.int .i64 1)))])
 (.ret))
 (.skip)))
 (.seq (.seq (.region false [o_ 58 (.mv (.t 8)),
 o_ 59 (.bin .leq (.t 58) (.c (.int .i64 2)))])
 (.cond (.t 59)
 (.seq (.region false [o_ 60 (.mv (.t 5)),
 o_ 61 (.bin .and (.t 60) (.c (.int .u8 31))),
 o_ 62 (.conv .i32 (.t 61)),
 o_ 63 (.bin .shl (.t 62) (.c (.int .u64 6))),
 o_ 64 (.mv (.t 10)),
 o_ 65 (.bin .and (.t 64) (.c (.int .u8 63))),
 o_ 66 (.conv .i32 (.t 65)),
 o_ 67 (.bin .or (.t 63) (.t 66)),
 o_ 2 (.mv (.t 67)),
 o_ 3 (.mv (.c (.int .i64 2)))])
 (.ret))
 (.skip)))
 (.seq (.region false [o_ 68 (.mv (.t 0)),
 o_ 69 (.indexStr (.t 68) (.c (.int .i64 2))),
 o_ 11 (.mv (.t 69))])
 (.seq (.seq (.region false [o_ 70 (.mv (.t 11)),
 o_ 71 (.bin .lss (.t 70) (.c (.int .u8 128))),
 o_ 72 (.mv (.t 71)),
 ⟨(some 73), (some (72, false)), false, .mv (.t 11), .none⟩,
 ⟨(some 74), (some (72, false)), false, .bin .lss (.c (.int .u8 191)) (.t 73), .none⟩,
 o_ 75 (.pick (.t 72) (.c (.bool true)) (.t 74))])
 (.cond (.t 75)
 (.seq (.region false [o_ 2 (.mv (.c (.int .i32 65533))),
 o_ 3 (.mv (.c (.int .i64 1)))])
 (.ret))
 (.skip)))
 (.seq (.seq (.region false [o_ 76 (.mv (.t 8)),
 o_ 77 (.bin .leq (.t 76) (.c (.int .i64 3)))])
 (.cond (.t 77)
 (.seq (.region false [o_ 78 (.mv (.t 5)),
 o_ 79 (.bin .and (.t 78) (.c (.int .u8 15))),
 o_ 80 (.conv .i32 (.t 79)),
 o_ 81 (.bin .shl (.t 80) (.c (.int .u64 12))),
 o_ 82 (.mv (.t 10)),
 o_ 83 (.bin .and (.t 82) (.c (.int .u8 63))),
 o_ 84 (.conv .i32 (.t 83)),
 o_ 85 (.bin .shl (.t 84) (.c (.int .u64 6))),
 o_ 86 (.bin .or (.t 81) (.t 85)),
 o_ 87 (.mv (.t 11)),
 o_ 88 (.bin .and (.t 87) (.c (.int .u8 63))),
 o_ 89 (.conv .i32 (.t 88)),
 o_ 90 (.bin .or (.t 86) (.t 89)),
 o_ 2 (.mv (.t 90)),
 o_ 3 (.mv (.c (.int .i64 3)))])
 (.ret))
 (.skip)))
 (.seq (.region false [o_ 91 (.mv (.t 0)),
 o_ 92 (.indexStr (.t 91) (.c (.int .i64 3))),
 o_ 12 (.mv (.t 92))])
 (.seq (.seq (.region false [o_ 93 (.mv (.t 12)),
 o_ 94 (.bin .lss (.t 93) (.c (.int .u8 128))),
 o_ 95 (.mv (.t 94)),
 ⟨(some 96), (some (95, false)), false, .mv (.t 12), .none⟩,
 ⟨(some 97), (some (95, false)), false, .bin .lss (.c (.int .u8 191)) (.t 96), .none⟩,
 o_ 98 (.pick (.t 95) (.c (.bool true)) (.t 97))])
 (.cond (.t 98)
 (.seq (.region false [o_ 2 (.mv (.c (.int .i32 65533))),
 o_ 3 (.mv (.c (.int .i64 1)))])
 (.ret))
 (.skip)))
 (.seq (.region false [o_ 99 (.mv (.t 5)),
 o_ 100 (.bin .and (.t 99) (.c (.int .u8 7))),
 o_ 101 (.conv .i32 (.t 100)),
 o_ 102 (.bin .shl (.t 101) (.c (.int .u64 18))),
 o_ 103 (.mv (.t 10)),
 o_ 104 (.bin .and (.t 103) (.c (.int .u8 63))),
 o_ 105 (.conv .i32 (.t 104)),
 o_ 106 (.bin .shl (.t 105) (.c (.int .u64 12))),
 o_ 107 (.bin .or (.t 102) (.t 106)),
 o_ 108 (.mv (.t 11)),
 o_ 109 (.bin .and (.t 108) (.c (.int .u8 63))),
 o_ 110 (.conv .i32 (.t 109)),
 o_ 111 (.bin .shl (.t 110) (.c (.int .u64 6))),
 o_ 112 (.bin .or (.t 107) (.t 111)),
 o_ 113 (.mv (.t 12)),
 o_ 114 (.bin .and (.t 113) (.c (.int .u8 63))),
 o_ 115 (.conv .i32 (.t 114)),
 o_ 116 (.bin .or (.t 112) (.t 115)),
 o_ 2 (.mv (.t 116)),
 o_ 3 (.mv (.c (.int .i64 4)))])
 (.ret))))))))))))))))))⟩
theorem c118 : cFunc Go.Proofs.Tryd.prog p118 118 = some a118 := by decide +kernel
def p137 : Plan := ⟨[], 0, [],
 [[2, 4]]⟩
def a137 : AFunc := ⟨1, 10, 0, [.tmp 2],
 .seq (.region false [o_ 2 (.mv (.c (.int .i64 0)))])
 (.seq (.seq (.region false [o_ 3 (.mv (.t 0)),
 o_ 4 (.lenStr (.c .undef))])
 (.block 0 (.loop [2, 4] (.seq (.region false [o_ 5 (.lenStr (.c .undef)),
 o_ 6 (.extract (.t 5) 0)])
 (.seq (.cond (.t 6)
 (.skip)
 (.exit 0))
 (.block 1 (.region false [o_ 7 (.mv (.t 2)),
 o_ 8 (.bin .add (.t 7) (.c (.int .i64 1))),
 o_ 2 (.mv (.t 8))])))))))
 (.seq (.region false [o_ 9 (.mv (.t 2)),
 o_ 2 (.mv (.t 9))])
 (.ret)))⟩
theorem c137 : cFunc Go.Proofs.Tryd.prog p137 137 = some a137 := by decide +kernel
def p140 : Plan := ⟨[], 0, [],
 []⟩
def a140 : AFunc := ⟨2, 18, 0, [.tmp 4],
 .seq (.region false [o_ 4 (.mv (.c (.bool false)))])
 (.seq (.region false [o_ 5 (.mv (.t 0)),
 o_ 6 (.lenStr (.t 5)),
 o_ 7 (.mv (.t 1)),
 o_ 8 (.lenStr (.t 7)),
 o_ 9 (.bin .geq (.t 6) (.t 8)),
 o_ 10 (.mv (.t 9)),
 ⟨(some 11), (some (10, true)), false, .mv (.t 0), .none⟩,
 ⟨(some 12), (some (10, true)), false, .mv (.t 1), .none⟩,
 ⟨(some 13), (some (10, true)), false, .lenStr (.t 12), .none⟩,
 ⟨(some 14), (some (10, true)), false, .sliceS (.t 11) none (some (.t 13)), .none⟩,
 ⟨(some 15), (some (10, true)), false, .mv (.t 1), .none⟩,
 ⟨(some 16), (some (10, true)), false, .bin .eql (.t 14) (.t 15), .none⟩,
 o_ 17 (.pick (.t 10) (.t 16) (.c (.bool false))),
 o_ 4 (.mv (.t 17))])
 (.ret))⟩
theorem c140 : cFunc Go.Proofs.Tryd.prog p140 140 = some a140 := by decide +kernel
def p16 : Plan := ⟨[71, 127], 0, [((1, 1), { uses := [(12, .share)], pure := true }),
 ((1, 2), { uses := [(13, .share)] }),
 ((5, 0), { pure := true }),
 ((5, 4), { uses := [(41, .share)] }),
 ((6, 14), { uses := [(56, .share)] }),
 ((9, 9), { uses := [(69, .share)] }),
 ((10, 2), { uses := [(71, .peek)] }),
 ((11, 9), { uses := [(80, .share)] }),
 ((13, 7), { uses := [(91, .share)] }),
 ((14, 28), { pure := true }),
 ((14, 35), { pure := true }),
 ((14, 36), { uses := [(127, .peek)] }),
 ((14, 43), { pure := true }),
 ((14, 49), { uses := [(139, .share), (140, .share)], pure := true })],
 []⟩
def a16 : AFunc := ⟨0, 143, 0, [.tmp 0],
 .seq (.region false [o_ 0 (.mv (.c (.bool false)))])
 (.seq (.region false [o_ 12 (.buildSlice 1 [(.int .u8 0)] 4 [(0, (.c (.int .u8 1))), (1, (.c (.int .u8 27))), (2, (.c (.int .u8 120))), (3, (.c (.int .u8 13)))]),
 o_ 13 (.callP 17 [(.u 12 .share)]),
 o_ 1 (.mv (.u 13 .share))])
 (.seq (.seq (.region false [o_ 14 (.mv (.t 1)),
 o_ 15 (.lenSl (.t 14)),
 o_ 16 (.bin .neq (.t 15) (.c (.int .i64 3))),
 o_ 17 (.mv (.t 16)),
 ⟨(some 18), (some (17, false)), false, .mv (.t 1), .none⟩,
 ⟨(some 19), (some (17, false)), false, .indexSl 2 (.t 18) (.c (.int .i64 0)), .none⟩,
 ⟨(some 20), (some (17, false)), false, .load true 2 (.t 19) .copy, .none⟩,
 ⟨(some 21), (some (17, false)), false, .build [(.int .i32 0), (.int .i64 0)] [(0, 1, (.c (.int .i32 97))), (1, 1, (.c (.int .i64 1)))], .none⟩,
 ⟨(some 22), (some (17, false)), false, .eq true (.plain [.int, .int]) (.t 20) (.t 21), .none⟩,
 o_ 23 (.pick (.t 17) (.c (.bool true)) (.t 22)),
 o_ 24 (.mv (.t 23)),
 ⟨(some 25), (some (24, false)), false, .mv (.t 1), .none⟩,
 ⟨(some 26), (some (24, false)), false, .indexSl 2 (.t 25) (.c (.int .i64 1)), .none⟩,
 ⟨(some 27), (some (24, false)), false, .load true 2 (.t 26) .copy, .none⟩,
 ⟨(some 28), (some (24, false)), false, .build [(.int .i32 0), (.int .i64 0)] [(0, 1, (.c (.int .i32 120))), (1, 1, (.c (.int .i64 2)))], .none⟩,
 ⟨(some 29), (some (24, false)), false, .eq true (.plain [.int, .int]) (.t 27) (.t 28), .none⟩,
 o_ 30 (.pick (.t 24) (.c (.bool true)) (.t 29)),
 o_ 31 (.mv (.t 30)),
 ⟨(some 32), (some (31, false)), false, .mv (.t 1), .none⟩,
 ⟨(some 33), (some (31, false)), false, .indexSl 2 (.t 32) (.c (.int .i64 2)), .none⟩,
 ⟨(some 34), (some (31, false)), false, .fieldAddr 0 (.t 33), .none⟩,
 ⟨(some 35), (some (31, false)), false, .load false 1 (.t 34) .copy, .none⟩,
 ⟨(some 36), (some (31, false)), false, .bin .neq (.t 35) (.c (.int .i32 13)), .none⟩,
 o_ 37 (.pick (.t 31) (.c (.bool true)) (.t 36))])
 (.cond (.t 37)
 (.seq (.region false [o_ 0 (.mv (.c (.bool false)))])
 (.ret))
 (.skip)))
 (.seq (.region false [o_ 38 (.callF 28 []),
 o_ 2 (.mv (.t 38))])
 (.seq (.region false [o_ 40 (.callP 26 [(.c (.str [67, 116, 114, 108, 45, 98, 32, 120]))]),
 o_ 39 (.mv (.t 40)),
 o_ 41 (.extract (.t 39) 0),
 o_ 42 (.extract (.t 39) 1),
 o_ 3 (.mv (.u 41 .share)),
 o_ 4 (.mv (.t 42))])
 (.seq (.seq (.region false [o_ 43 (.mv (.t 2)),
 o_ 44 (.eq false .ptr (.t 43) (.c .nilp)),
 o_ 45 (.mv (.t 44)),
 ⟨(some 46), (some (45, false)), false, .mv (.t 4), .none⟩,
 ⟨(some 47), (some (45, false)), false, .bin .neq (.t 46) (.c (.int .i64 0)), .none⟩,
 o_ 48 (.pick (.t 45) (.c (.bool true)) (.t 47)),
 o_ 49 (.mv (.t 48)),
 ⟨(some 50), (some (49, false)), false, .mv (.t 3), .none⟩,
 ⟨(some 51), (some (49, false)), false, .lenSl (.t 50), .none⟩,
 ⟨(some 52), (some (49, false)), false, .bin .neq (.t 51) (.c (.int .i64 2)), .none⟩,
 o_ 53 (.pick (.t 49) (.c (.bool true)) (.t 52)),
 o_ 54 (.mv (.t 53)),
 ⟨(some 55), (some (54, false)), false, .mv (.t 2), .none⟩,
 ⟨(some 56), (some (54, false)), false, .mv (.t 3), .none⟩,
 ⟨(some 57), (some (54, false)), false, .callF 29 [(.t 55), (.c (.str [110])), (.u 56 .share), (.c (.str [99, 108, 111, 115, 101]))], .none⟩,
 ⟨(some 58), (some (54, false)), false, .bin .neq (.t 57) (.c (.int .i64 0)), .none⟩,
 o_ 59 (.pick (.t 54) (.c (.bool true)) (.t 58))])
 (.cond (.t 59)
 (.seq (.region false [o_ 0 (.mv (.c (.bool false)))])
 (.ret))
 (.skip)))
 (.seq (.region false [o_ 60 (.mv (.t 2)),
 o_ 61 (.callF 31 [(.t 60), (.c (.str [110]))])])
 (.seq (.region false [o_ 63 (.mv (.t 2)),
 o_ 64 (.mv (.t 3)),
 o_ 65 (.indexSl 2 (.t 64) (.c (.int .i64 0))),
 o_ 66 (.load true 2 (.t 65) .copy),
 o_ 67 (.callF 32 [(.t 63), (.t 66)]),
 o_ 62 (.mv (.t 67)),
 o_ 68 (.extract (.t 62) 0),
 o_ 69 (.extract (.t 62) 1),
 o_ 5 (.mv (.t 68)),
 o_ 6 (.mv (.u 69 .share))])
 (.seq (.region false [o_ 70 (.mv (.t 2)),
 ⟨(some 71), none, true, .callF 33 [(.t 70)], .none⟩,
 o_ 72 (.lenSl (.u 71 .peek)),
 o_ 7 (.mv (.t 72))])
 (.seq (.region false [o_ 74 (.mv (.t 2)),
 o_ 75 (.mv (.t 3)),
 o_ 76 (.indexSl 2 (.t 75) (.c (.int .i64 1))),
 o_ 77 (.load true 2 (.t 76) .copy),
 o_ 78 (.callF 32 [(.t 74), (.t 77)]),
 o_ 73 (.mv (.t 78)),
 o_ 79 (.extract (.t 73) 0),
 o_ 80 (.extract (.t 73) 1),
 o_ 8 (.mv (.t 79)),
 o_ 9 (.mv (.u 80 .share))])
 (.seq (.region false [o_ 81 (.mv (.t 2)),
 o_ 82 (.mv (.t 3)),
 o_ 83 (.indexSl 2 (.t 82) (.c (.int .i64 0))),
 o_ 84 (.load true 2 (.t 83) .copy),
 o_ 85 (.callF 32 [(.t 81), (.t 84)])])
 (.seq (.region false [o_ 87 (.mv (.t 2)),
 o_ 88 (.build [(.int .i32 0), (.int .i64 0)] [(0, 1, (.c (.int .i32 113)))]),
 o_ 89 (.callF 32 [(.t 87), (.t 88)]),
 o_ 86 (.mv (.t 89)),
 o_ 90 (.extract (.t 86) 0),
 o_ 91 (.extract (.t 86) 1),
 o_ 10 (.mv (.t 90)),
 o_ 11 (.mv (.u 91 .share))])
 (.seq (.region false [o_ 92 (.mv (.t 5)),
 o_ 93 (.bin .eql (.t 92) (.c (.str []))),
 o_ 94 (.mv (.t 93)),
 ⟨(some 95), (some (94, true)), false, .mv (.t 6), .none⟩,
 ⟨(some 96), (some (94, true)), false, .lenSl (.t 95), .none⟩,
 ⟨(some 97), (some (94, true)), false, .bin .eql (.t 96) (.c (.int .i64 0)), .none⟩,
 o_ 98 (.pick (.t 94) (.t 97) (.c (.bool false))),
 o_ 99 (.mv (.t 98)),
 ⟨(some 100), (some (99, true)), false, .mv (.t 7), .none⟩,
 ⟨(some 101), (some (99, true)), false, .bin .eql (.t 100) (.c (.int .i64 1)), .none⟩,
 o_ 102 (.pick (.t 99) (.t 101) (.c (.bool false))),
 o_ 103 (.mv (.t 102)),
 ⟨(some 104), (some (103, true)), false, .mv (.t 8), .none⟩,
 ⟨(some 105), (some (103, true)), false, .bin .eql (.t 104) (.c (.str [99, 108, 111, 115, 101])), .none⟩,
 o_ 106 (.pick (.t 103) (.t 105) (.c (.bool false))),
 o_ 107 (.mv (.t 106)),
 ⟨(some 108), (some (107, true)), false, .mv (.t 10), .none⟩,
 ⟨(some 109), (some (107, true)), false, .bin .eql (.t 108) (.c (.str [])), .none⟩,
 o_ 110 (.pick (.t 107) (.t 109) (.c (.bool false))),
 o_ 111 (.mv (.t 110)),
 ⟨(some 112), (some (111, true)), false, .mv (.t 11), .none⟩,
 ⟨(some 113), (some (111, true)), false, .lenSl (.t 112), .none⟩,
 ⟨(some 114), (some (111, true)), false, .bin .eql (.t 113) (.c (.int .i64 2)), .none⟩,
 o_ 115 (.pick (.t 111) (.t 114) (.c (.bool false))),
 o_ 116 (.mv (.t 115)),
 ⟨(some 117), (some (116, true)), false, .mv (.t 3), .none⟩,
 ⟨(some 118), (some (116, true)), false, .indexSl 2 (.t 117) (.c (.int .i64 0)), .none⟩,
 ⟨(some 119), (some (116, true)), false, .load true 2 (.t 118) .copy, .none⟩,
 ⟨(some 120), (some (116, true)), false, .callP 24 [(.t 119)], .none⟩,
 ⟨(some 121), (some (116, true)), false, .bin .eql (.t 120) (.c (.str [67, 116, 114, 108, 45, 98])), .none⟩,
 o_ 122 (.pick (.t 116) (.t 121) (.c (.bool false))),
 o_ 123 (.mv (.t 122)),
 ⟨(some 124), (some (123, true)), false, .mv (.t 3), .none⟩,
 ⟨(some 125), (some (123, true)), false, .indexSl 2 (.t 124) (.c (.int .i64 0)), .none⟩,
 ⟨(some 126), (some (123, true)), false, .load true 2 (.t 125) .copy, .none⟩,
 ⟨(some 127), (some (123, true)), true, .callP 22 [(.t 126)], .none⟩,
 ⟨(some 128), (some (123, true)), false, .bytesStr (.u 127 .peek), .none⟩,
 ⟨(some 129), (some (123, true)), false, .bin .eql (.t 128) (.c (.str [2])), .none⟩,
 o_ 130 (.pick (.t 123) (.t 129) (.c (.bool false))),
 o_ 131 (.mv (.t 130)),
 ⟨(some 132), (some (131, true)), false, .mv (.t 3), .none⟩,
 ⟨(some 133), (some (131, true)), false, .indexSl 2 (.t 132) (.c (.int .i64 0)), .none⟩,
 ⟨(some 134), (some (131, true)), false, .load true 2 (.t 133) .copy, .none⟩,
 ⟨(some 135), (some (131, true)), false, .callP 20 [(.t 134)], .none⟩,
 o_ 136 (.pick (.t 131) (.t 135) (.c (.bool false))),
 o_ 137 (.mv (.t 136)),
 ⟨(some 138), (some (137, true)), false, .mv (.t 2), .none⟩,
 ⟨(some 139), (some (137, true)), false, .callF 34 [(.t 138), (.c (.str [110]))], .none⟩,
 ⟨(some 140), (some (137, true)), false, .buildSlice 1 [(.str [])] 1 [(0, (.c (.str [99, 108, 111, 115, 101])))], .none⟩,
 ⟨(some 141), (some (137, true)), false, .callP 46 [(.u 139 .share), (.u 140 .share)], .none⟩,
 o_ 142 (.pick (.t 137) (.t 141) (.c (.bool false))),
 o_ 0 (.mv (.t 142))])
 (.ret)))))))))))))⟩
theorem c16 : cFunc Go.Proofs.Tryd.prog p16 16 = some a16 := by decide +kernel
def codes : List (Nat × AFunc) := [(4, a4), (5, a5), (6, a6), (7, a7), (8, a8), (11, a11), (17, a17), (18, a18), (19, a19), (20, a20), (21, a21), (22, a22), (23, a23), (24, a24), (25, a25), (26, a26), (27, a27), (28, a28), (29, a29), (30, a30), (31, a31), (32, a32), (33, a33), (34, a34), (46, a46), (47, a47), (48, a48), (49, a49), (50, a50), (51, a51), (52, a52), (53, a53), (54, a54), (55, a55), (56, a56), (57, a57), (58, a58), (59, a59), (60, a60), (61, a61), (62, a62), (63, a63), (64, a64), (65, a65), (66, a66), (67, a67), (68, a68), (70, a70), (71, a71), (72, a72), (73, a73), (74, a74), (75, a75), (91, a91), (92, a92), (93, a93), (94, a94), (95, a95), (96, a96), (97, a97), (98, a98), (99, a99), (102, a102), (103, a103), (111, a111), (112, a112), (113, a113), (114, a114), (117, a117), (118, a118), (137, a137), (140, a140)]
def ET : Table := tableOf codes ksX
theorem codes_ok : allOK Go.Proofs.Tryd.prog codes := ⟨cFunc_ok c4, cFunc_ok c5, cFunc_ok c6, cFunc_ok c7, cFunc_ok c8, cFunc_ok c11, cFunc_ok c17, cFunc_ok c18, cFunc_ok c19, cFunc_ok c20, cFunc_ok c21, cFunc_ok c22, cFunc_ok c23, cFunc_ok c24, cFunc_ok c25, cFunc_ok c26, cFunc_ok c27, cFunc_ok c28, cFunc_ok c29, cFunc_ok c30, cFunc_ok c31, cFunc_ok c32, cFunc_ok c33, cFunc_ok c34, cFunc_ok c46, cFunc_ok c47, cFunc_ok c48, cFunc_ok c49, cFunc_ok c50, cFunc_ok c51, cFunc_ok c52, cFunc_ok c53, cFunc_ok c54, cFunc_ok c55, cFunc_ok c56, cFunc_ok c57, cFunc_ok c58, cFunc_ok c59, cFunc_ok c60, cFunc_ok c61, cFunc_ok c62, cFunc_ok c63, cFunc_ok c64, cFunc_ok c65, cFunc_ok c66, cFunc_ok c67, cFunc_ok c68, cFunc_ok c70, cFunc_ok c71, cFunc_ok c72, cFunc_ok c73, cFunc_ok c74, cFunc_ok c75, cFunc_ok c91, cFunc_ok c92, cFunc_ok c93, cFunc_ok c94, cFunc_ok c95, cFunc_ok c96, cFunc_ok c97, cFunc_ok c98, cFunc_ok c99, cFunc_ok c102, cFunc_ok c103, cFunc_ok c111, cFunc_ok c112, cFunc_ok c113, cFunc_ok c114, cFunc_ok c117, cFunc_ok c118, cFunc_ok c137, cFunc_ok c140, trivial⟩
def codes0 : List (Nat × AFunc) := (16, a16) :: codes
def ET0 : Table := tableOf codes0 ks0X
theorem codes0_ok : allOK Go.Proofs.Tryd.prog codes0 := ⟨cFunc_ok c16, codes_ok⟩
end Go.Proofs.YtdlijnfdkeimlaaDoor.Am.Keys

namespace Go.Proofs
open Go.Shelf
def Tryd.lays138_ren : Go.Shelf.Ren := ⟨fun | 138 => 115 | 195 => 137 | 218 => 138 | 143 => 116 | 219 => 139 | 217 => 155 | 225 => 156 | 224 => 157 | 267 => 158 | 266 => 164 | 314 => 165 | n => n, fun | 9 => 9 | 3 => 3 | 4 => 4 | 5 => 5 | 0 => 0 | 46 => 123 | 146 => 174 | 51 => 140 | n => n, fun | 1 => 2 | n => n⟩
theorem Tryd.lays138 : Go.Proofs.Lays.n138 Tryd.prog Tryd.lays138_ren := {
  mixed := by kernel_rfl
  f138 := Tryd.func115.trans (congrArg some (by kernel_rfl))
  f143 := Tryd.func116.trans (congrArg some (by kernel_rfl))
  f195 := Tryd.func137.trans (congrArg some (by kernel_rfl))
  f217 := Tryd.func155.trans (congrArg some (by kernel_rfl))
  f218 := Tryd.func138.trans (congrArg some (by kernel_rfl))
  f219 := Tryd.func139.trans (congrArg some (by kernel_rfl))
  f224 := Tryd.func157.trans (congrArg some (by kernel_rfl))
  f225 := Tryd.func156.trans (congrArg some (by kernel_rfl))
  f266 := Tryd.func164.trans (congrArg some (by kernel_rfl))
  f267 := Tryd.func158.trans (congrArg some (by kernel_rfl))
  f314 := Tryd.func165.trans (congrArg some (by kernel_rfl))
  t0 := Tryd.underlying0
  a0 := Tryd.isAgg0
  z0 := Tryd.sizeOf0
  v0 := Tryd.zeroValue0
  t3 := Tryd.underlying3
  a3 := Tryd.isAgg3
  z3 := Tryd.sizeOf3
  v3 := Tryd.zeroValue3
  t4 := Tryd.underlying4
  a4 := Tryd.isAgg4
  z4 := Tryd.sizeOf4
  v4 := Tryd.zeroValue4
  t5 := Tryd.underlying5
  a5 := Tryd.isAgg5
  z5 := Tryd.sizeOf5
  v5 := Tryd.zeroValue5
  t9 := Tryd.underlying9
  a9 := Tryd.isAgg9
  z9 := Tryd.sizeOf9
  v9 := Tryd.zeroValue9
  t46 := Tryd.underlying123
  a46 := Tryd.isAgg123
  z46 := Tryd.sizeOf123
  v46 := Tryd.zeroValue123
  t51 := Tryd.underlying140
  a51 := Tryd.isAgg140
  z51 := Tryd.sizeOf140
  v51 := Tryd.zeroValue140
  t146 := Tryd.underlying174
  a146 := Tryd.isAgg174
  z146 := Tryd.sizeOf174
  v146 := Tryd.zeroValue174
  g1 := by kernel_rfl }
def Tryd.lays143_ren : Go.Shelf.Ren := ⟨fun | 143 => 116 | 219 => 139 | 217 => 155 | 225 => 156 | 224 => 157 | 267 => 158 | 266 => 164 | 314 => 165 | n => n, fun | 9 => 9 | 3 => 3 | 4 => 4 | 5 => 5 | 46 => 123 | 146 => 174 | 51 => 140 | n => n, fun | 1 => 2 | n => n⟩
theorem Tryd.lays143 : Go.Proofs.Lays.n143 Tryd.prog Tryd.lays143_ren := {
  mixed := by kernel_rfl
  f143 := Tryd.func116.trans (congrArg some (by kernel_rfl))
  f217 := Tryd.func155.trans (congrArg some (by kernel_rfl))
  f219 := Tryd.func139.trans (congrArg some (by kernel_rfl))
  f224 := Tryd.func157.trans (congrArg some (by kernel_rfl))
  f225 := Tryd.func156.trans (congrArg some (by kernel_rfl))
  f266 := Tryd.func164.trans (congrArg some (by kernel_rfl))
  f267 := Tryd.func158.trans (congrArg some (by kernel_rfl))
  f314 := Tryd.func165.trans (congrArg some (by kernel_rfl))
  t3 := Tryd.underlying3
  a3 := Tryd.isAgg3
  z3 := Tryd.sizeOf3
  v3 := Tryd.zeroValue3
  t4 := Tryd.underlying4
  a4 := Tryd.isAgg4
  z4 := Tryd.sizeOf4
  v4 := Tryd.zeroValue4
  t5 := Tryd.underlying5
  a5 := Tryd.isAgg5
  z5 := Tryd.sizeOf5
  v5 := Tryd.zeroValue5
  t9 := Tryd.underlying9
  a9 := Tryd.isAgg9
  z9 := Tryd.sizeOf9
  v9 := Tryd.zeroValue9
  t46 := Tryd.underlying123
  a46 := Tryd.isAgg123
  z46 := Tryd.sizeOf123
  v46 := Tryd.zeroValue123
  t51 := Tryd.underlying140
  a51 := Tryd.isAgg140
  z51 := Tryd.sizeOf140
  v51 := Tryd.zeroValue140
  t146 := Tryd.underlying174
  a146 := Tryd.isAgg174
  z146 := Tryd.sizeOf174
  v146 := Tryd.zeroValue174
  g1 := by kernel_rfl }
def Tryd.lays125_ren : Go.Shelf.Ren := ⟨fun | 125 => 101 | 128 => 127 | 129 => 128 | n => n, fun | 46 => 123 | 3 => 3 | 51 => 140 | 53 => 153 | 4 => 4 | 5 => 5 | 9 => 9 | n => n, fun | n => n⟩
theorem Tryd.lays125 : Go.Proofs.Lays.n125 Tryd.prog Tryd.lays125_ren := {
  mixed := by kernel_rfl
  f125 := Tryd.func101.trans (congrArg some (by kernel_rfl))
  f128 := Tryd.func127.trans (congrArg some (by kernel_rfl))
  f129 := Tryd.func128.trans (congrArg some (by kernel_rfl))
  t3 := Tryd.underlying3
  a3 := Tryd.isAgg3
  z3 := Tryd.sizeOf3
  v3 := Tryd.zeroValue3
  t4 := Tryd.underlying4
  a4 := Tryd.isAgg4
  z4 := Tryd.sizeOf4
  v4 := Tryd.zeroValue4
  t5 := Tryd.underlying5
  a5 := Tryd.isAgg5
  z5 := Tryd.sizeOf5
  v5 := Tryd.zeroValue5
  t9 := Tryd.underlying9
  a9 := Tryd.isAgg9
  z9 := Tryd.sizeOf9
  v9 := Tryd.zeroValue9
  t46 := Tryd.underlying123
  a46 := Tryd.isAgg123
  z46 := Tryd.sizeOf123
  v46 := Tryd.zeroValue123
  t51 := Tryd.underlying140
  a51 := Tryd.isAgg140
  z51 := Tryd.sizeOf140
  v51 := Tryd.zeroValue140
  t53 := Tryd.underlying153
  a53 := Tryd.isAgg153
  z53 := Tryd.sizeOf153
  v53 := Tryd.zeroValue153 }
end Go.Proofs

namespace Go.Proofs.KsSort
open Go.RowKit Go.Shelf
set_option linter.all false
theorem mixed : Tryd.prog.follows .mixedOrders = true := by kernel_rfl
set_option maxRecDepth 100000 in
set_option maxHeartbeats 2000000 in
theorem ins (p : Option Addr) (n cap : Nat) (hn : n = 0 ∨ n = 1) (fv : Value) (w : World) : Calls Tryd.prog 119 #[.slice p n cap, .int .i64 0, .int .i64 n, fv] w fun e w' => e = .returned (.tuple #[]) ∧ w' = w := by
  rcases hn with rfl | rfl
  all_goals
    go_enter Tryd.func119, Tryd.ntmps119
    go_wp2
    refine wp_loop_rounds 1 ?_
    rw [rounds_succ]
    go_wp2
    first
      | (go_end0; exact ⟨rfl, rfl⟩)
      | (go_ret; exact ⟨rfl, rfl⟩)
      | skip
set_option maxRecDepth 100000 in
set_option maxHeartbeats 2000000 in
theorem pdq0 (p : Option Addr) (cap : Nat) (lim : Int) (fv : Value) (w : World) : Calls Tryd.prog 100 #[.slice p 0 cap, .int .i64 0, .int .i64 0, .int .i64 lim, fv] w fun e w' => e = .returned (.tuple #[]) ∧ w' = w := by
  have hi : ∀ W, Calls Tryd.prog 119 #[.slice p 0 cap, .int .i64 0, .int .i64 0, fv] W fun e w' => e = .returned (.tuple #[]) ∧ w' = W := fun W => ins p 0 cap (.inl rfl) fv W
  have e119 : ∀ args w, (callFunc 119 args).run Tryd.prog w = .ok (.enter 119 args) w := enters_of Tryd.func119 (by kernel_rfl) rfl
  go_enter Tryd.func100, Tryd.ntmps100
  go_wp2
  refine wp_loop_rounds 1 ?_
  rw [rounds_succ]
  go_wp2_with (go_at_fn 119; refine (hi _).mono ?_; rintro e w' ⟨rfl, rfl⟩)
  (try simp only [Exit.inBlock, Exit.then]); refine bodyPost_ret (results_none rfl _ _ _) rfl ?_
  exact ⟨rfl, rfl⟩
set_option maxRecDepth 100000 in
set_option maxHeartbeats 2000000 in
theorem pdq1 (p : Option Addr) (cap : Nat) (lim : Int) (fv : Value) (w : World) : Calls Tryd.prog 100 #[.slice p 1 cap, .int .i64 0, .int .i64 1, .int .i64 lim, fv] w fun e w' => e = .returned (.tuple #[]) ∧ w' = w := by
  have hi : ∀ W, Calls Tryd.prog 119 #[.slice p 1 cap, .int .i64 0, .int .i64 1, fv] W fun e w' => e = .returned (.tuple #[]) ∧ w' = W := fun W => ins p 1 cap (.inr rfl) fv W
  have e119 : ∀ args w, (callFunc 119 args).run Tryd.prog w = .ok (.enter 119 args) w := enters_of Tryd.func119 (by kernel_rfl) rfl
  go_enter Tryd.func100, Tryd.ntmps100
  go_wp2
  refine wp_loop_rounds 1 ?_
  rw [rounds_succ]
  go_wp2_with (go_at_fn 119; refine (hi _).mono ?_; rintro e w' ⟨rfl, rfl⟩)
  (try simp only [Exit.inBlock, Exit.then]); refine bodyPost_ret (results_none rfl _ _ _) rfl ?_
  exact ⟨rfl, rfl⟩
set_option maxRecDepth 100000 in
set_option maxHeartbeats 2000000 in
theorem sort0 (p : Option Addr) (cap : Nat) (fv : Value) (w : World) : Calls Tryd.prog 69 #[.slice p 0 cap, fv] w fun e w' => e = .returned (.tuple #[]) ∧ w' = w := by
  have hl : ∀ W, Calls Tryd.prog 101 #[.int .u64 0] W fun e w' => e = .returned (.int .i64 (Lib.bitLen 0 : Nat)) ∧ w' = W := fun W => Any.bits_Len Tryd.lays125 0 W (by omega) (by omega)
  have hp := fun lim W => pdq0 p cap lim fv W
  have e101 : ∀ args w, (callFunc 101 args).run Tryd.prog w = .ok (.enter 101 args) w := enters_of Tryd.func101 (by kernel_rfl) rfl
  have e100 : ∀ args w, (callFunc 100 args).run Tryd.prog w = .ok (.enter 100 args) w := enters_of Tryd.func100 (by kernel_rfl) rfl
  go_enter Tryd.func69, Tryd.ntmps69
  go_wp2_with (first | (go_at_fn 101; refine (hl _).mono ?_; rintro e w' ⟨rfl, rfl⟩) | (go_at_fn 100; refine (hp _ _).mono ?_; rintro e w' ⟨rfl, rfl⟩))
  go_end0
  exact ⟨rfl, rfl⟩
set_option maxRecDepth 100000 in
set_option maxHeartbeats 2000000 in
theorem sort1 (p : Option Addr) (cap : Nat) (fv : Value) (w : World) : Calls Tryd.prog 69 #[.slice p 1 cap, fv] w fun e w' => e = .returned (.tuple #[]) ∧ w' = w := by
  have hl : ∀ W, Calls Tryd.prog 101 #[.int .u64 1] W fun e w' => e = .returned (.int .i64 (Lib.bitLen 1 : Nat)) ∧ w' = W := fun W => Any.bits_Len Tryd.lays125 1 W (by omega) (by omega)
  have hp := fun lim W => pdq1 p cap lim fv W
  have e101 : ∀ args w, (callFunc 101 args).run Tryd.prog w = .ok (.enter 101 args) w := enters_of Tryd.func101 (by kernel_rfl) rfl
  have e100 : ∀ args w, (callFunc 100 args).run Tryd.prog w = .ok (.enter 100 args) w := enters_of Tryd.func100 (by kernel_rfl) rfl
  go_enter Tryd.func69, Tryd.ntmps69
  go_wp2_with (first | (go_at_fn 101; refine (hl _).mono ?_; rintro e w' ⟨rfl, rfl⟩) | (go_at_fn 100; refine (hp _ _).mono ?_; rintro e w' ⟨rfl, rfl⟩))
  go_end0
  exact ⟨rfl, rfl⟩
end Go.Proofs.KsSort

namespace Go.Proofs.YtdlijnfdkeimlaaDoor.Am.Keys
open Go.Proofs.KsSort
set_option linter.all false
theorem two {vs : Array Value} (h : vs.size = 2) : ∃ v0 v1, vs = #[v0, v1] := by
  refine ⟨vs[0], vs[1], ?_⟩
  apply Array.ext
  · simpa using h
  · intro i h1 h2
    have : i = 0 ∨ i = 1 := by omega
    rcases this with rfl | rfl <;> rfl
theorem text_calls {f : Nat} {n : List UInt8 → UInt8 → Int} (hc : ∀ (s : ByteArray) (c : UInt8) (w : World), Calls Go.Proofs.Tryd.prog f #[.string s, .string ⟨#[c]⟩] w fun e w' => e = .returned (.int .i64 (n s.data.toList c)) ∧ w' = w) (s : List UInt8) (c : UInt8) (m : List (List V)) : CallOK Go.Proofs.Tryd.prog f [.str s, .str [c]] m (.int .i64 (n s c)) m := by
  intro g w fr vs hsz hok _ hS
  obtain ⟨v0, v1, rfl⟩ := two hsz
  have hS : SR g w 0 fr (fun _ => false) ⟨fun _ => .undef, fun _ => [], m⟩ #[] [(.str s, v0), (.str [c], v1)] := hS
  obtain ⟨b0, rfl, h0⟩ := R3.str (hS.pend _ (.head _))
  obtain ⟨b1, h1, h2⟩ := R3.str (hS.pend _ (.tail _ (.head _)))
  simp only at h1
  subst h1
  have hb : b1 = ⟨#[c]⟩ := by
    cases b1 with
    | mk d => congr 1; exact Array.ext' h2
  subst hb
  subst h0
  refine (hc b0 c w).mono ?_
  rintro e w' ⟨rfl, rfl⟩
  exact ⟨_, g, rfl, hS.drop.drop.add (x := .int .i64 _) (R3.mkInt _ _) rfl (fun d hd => by cases hd), Ext.refl _ _ _ _, Nat.le_refl _, fun x => by simp [V.root?], fun j o => by simp⟩
theorem sort_calls {xs : List (List V)} {h : Nat} (hl : xs.length ≤ 1) (m : List (List V)) : CallOK Go.Proofs.Tryd.prog 69 [.slice false 3 xs, .func h []] m (.tuple []) m := by
  intro g w fr vs hsz hok _ hS
  obtain ⟨v0, v1, rfl⟩ := two hsz
  have hS : SR g w 0 fr (fun _ => false) ⟨fun _ => .undef, fun _ => [], m⟩ #[] [(.slice false 3 xs, v0), (.func h [], v1)] := hS
  have hr : RB g.pers w (.slice false 3 xs) v0 := hS.pend _ (.head _)
  rw [RB.slice_iff] at hr
  obtain ⟨a, cap, rfl, _⟩ := hr
  have fin : ∀ (e : Ending) (w' : World), e = .returned (.tuple #[]) ∧ w' = w →
      ∃ v g', e = .returned v ∧ SR g' w' 0 fr (fun _ => false) ⟨fun _ => .undef, fun _ => [], m⟩ #[] [(.tuple [], v)] ∧ Ext fr m.length g w g' w' ∧ m.length ≤ m.length ∧ (∀ x, (V.tuple []).root? ≠ some x) ∧ ∀ j o, V.tuple [] ≠ .loc j o := by
    rintro e w' ⟨rfl, rfl⟩
    exact ⟨_, g, rfl, hS.drop.drop.add (x := .tuple []) ⟨#[], rfl, rfl, fun k hk => absurd hk (Nat.not_lt_zero _)⟩ rfl (fun d hd => by cases hd), Ext.refl _ _ _ _, Nat.le_refl _, fun x => by simp [V.root?], fun j o => by simp⟩
  have hn : xs.length = 0 ∨ xs.length = 1 := by omega
  rcases hn with hn | hn
  · rw [hn]; exact (sort0 (some a) cap v1 w).mono fin
  · rw [hn]; exact (sort1 (some a) cap v1 w).mono fin
theorem sort_nils {h : Nat} (m : List (List V)) : CallOK Go.Proofs.Tryd.prog 69 [.nils, .func h []] m (.tuple []) m := by
  intro g w fr vs hsz hok _ hS
  obtain ⟨v0, v1, rfl⟩ := two hsz
  have hS : SR g w 0 fr (fun _ => false) ⟨fun _ => .undef, fun _ => [], m⟩ #[] [(.nils, v0), (.func h [], v1)] := hS
  have hr : RB g.pers w .nils v0 := hS.pend _ (.head _)
  cases hr
  refine (sort0 none 0 v1 w).mono ?_
  rintro e w' ⟨rfl, rfl⟩
  exact ⟨_, g, rfl, hS.drop.drop.add (x := .tuple []) ⟨#[], rfl, rfl, fun k hk => absurd hk (Nat.not_lt_zero _)⟩ rfl (fun d hd => by cases hd), Ext.refl _ _ _ _, Nat.le_refl _, fun x => by simp [V.root?], fun j o => by simp⟩
theorem good_ks0 : Good Go.Proofs.Tryd.prog ks0X := by
  intro f args m r m' h
  unfold ks0X at h
  split at h
  · simp only [Option.some.injEq, Prod.mk.injEq] at h
    obtain ⟨rfl, rfl⟩ := h
    exact ⟨⟨_, Go.Proofs.Tryd.func115, rfl, rfl⟩, text_calls (n := fun s c => Lib.countByte s c) (fun s c w => Go.Proofs.Any.strings_Count_one Go.Proofs.Tryd.lays138 s c w) _ _ m⟩
  · simp only [Option.some.injEq, Prod.mk.injEq] at h
    obtain ⟨rfl, rfl⟩ := h
    exact ⟨⟨_, Go.Proofs.Tryd.func116, rfl, rfl⟩, text_calls (n := fun s c => Lib.indexByte s c) (fun s c w => Go.Proofs.Any.strings_Index_one Go.Proofs.Tryd.lays143 s c w) _ _ m⟩
  · split at h
    · rename_i hc
      simp only [Option.some.injEq, Prod.mk.injEq] at h
      obtain ⟨rfl, rfl⟩ := h
      exact ⟨⟨_, Go.Proofs.Tryd.func69, rfl, rfl⟩, sort_calls hc m⟩
    · cases h
  · simp only [Option.some.injEq, Prod.mk.injEq] at h
    obtain ⟨rfl, rfl⟩ := h
    exact ⟨⟨_, Go.Proofs.Tryd.func69, rfl, rfl⟩, sort_nils m⟩
  · cases h
theorem ET0_ok : TableOK Go.Proofs.Tryd.prog ET0 := tableOf_ok codes0_ok good_ks0
set_option maxRecDepth 100000 in
theorem alive_true : saysTrue (evF ET0 20 10 16 [] []) = true := by decide +kernel
theorem good_ks : Good Go.Proofs.Tryd.prog ksX := by
  intro f args m r m' h
  unfold ksX at h
  split at h
  · simp only [Option.some.injEq, Prod.mk.injEq] at h
    obtain ⟨rfl, rfl⟩ := h
    obtain ⟨h1, h2⟩ := ret_sound ET0_ok (evF_true alive_true)
    exact ⟨h1, h2.anyMem m⟩
  · exact good_ks0 _ _ _ _ _ h
theorem ET_ok : TableOK Go.Proofs.Tryd.prog ET := tableOf_ok codes_ok good_ks
end Go.Proofs.YtdlijnfdkeimlaaDoor.Am.Keys

namespace Go.Proofs.YtdlijnfdkeimlaaDoor.Am.T
open Go.Proofs.YtdlijnfdkeimlaaDoor.Am
inductive TV where
 | undef
 | bool (b : Bool)
 | int (k : IntKind) (n : Int)
 | str (s : List Int)
 | nilp
 | ptr (b off : Nat)
 | loc (j off : Nat)
 | ro (cells : List TV) (off : Nat)
 | el (r : Root) (sz i k : Nat)
 | place (r : Root)
 | nils
 | sl (own : Bool) (sz : Nat) (xs : List (List TV))
 | agg (cells : List TV)
 | tuple (vs : List TV)
 | func (f : Nat) (captured : List TV)
 | nilf
 | nili
 deriving Inhabited
inductive Pw {α β : Type} (R : α → β → Prop) : List α → List β → Prop
 | nil : Pw R [] []
 | cons {a b l l'} (h : R a b) (t : Pw R l l') : Pw R (a :: l) (b :: l')
def byteI (b : UInt8) : Int := b.toNat
inductive Den0 : TV → V → Prop
 | undef (v : V) : Den0 .undef v
 | bool (b : Bool) : Den0 (.bool b) (.bool b)
 | int (k : IntKind) (n : Int) : Den0 (.int k n) (.int k n)
 | str (s : List UInt8) : Den0 (.str (s.map byteI)) (.str s)
 | nilp : Den0 .nilp .nilp
 | nils : Den0 .nils .nils
 | sl (own : Bool) (sz : Nat) {xs ys} (h : Pw (Pw Den0) xs ys) : Den0 (.sl own sz xs) (.slice own sz ys)
 | sln (own : Bool) (sz : Nat) : Den0 (.sl own sz []) .nils
 | func (f : Nat) : Den0 (.func f []) (.func f [])
 | nilf : Den0 .nilf .nilf
 | nili : Den0 .nili .nili
inductive RootR (ρ : List Nat) : Root → Root → Prop
 | mem {i b : Nat} (o : Nat) (h : ρ[i]? = some b) : RootR ρ (.mem i o) (.mem b o)
 | loc (j o : Nat) : RootR ρ (.loc j o) (.loc j o)
 | tmp (s : Nat) : RootR ρ (.tmp s) (.tmp s)
inductive Den (ρ : List Nat) : TV → V → Prop
 | base {t v} (h : Den0 t v) : Den ρ t v
 | ptr {i b : Nat} (o : Nat) (h : ρ[i]? = some b) : Den ρ (.ptr i o) (.ptr b o)
 | loc (j o : Nat) : Den ρ (.loc j o) (.loc j o)
 | ro {cs cs'} (o : Nat) (h : Pw (Den ρ) cs cs') : Den ρ (.ro cs o) (.ro cs' o)
 | el {r r'} (sz i k : Nat) (h : RootR ρ r r') : Den ρ (.el r sz i k) (.el r' sz i k)
 | place {r r'} (h : RootR ρ r r') : Den ρ (.place r) (.place r')
 | agg {cs cs'} (h : Pw (Den ρ) cs cs') : Den ρ (.agg cs) (.agg cs')
 | tuple {cs cs'} (h : Pw (Den ρ) cs cs') : Den ρ (.tuple cs) (.tuple cs')
 | func (f : Nat) {cs cs'} (h : Pw (Den ρ) cs cs') : Den ρ (.func f cs) (.func f cs')
section pw
variable {α β γ : Type} {R : α → β → Prop}
theorem Pw.length {l : List α} {l' : List β} (h : Pw R l l') : l.length = l'.length := by
 induction h with
 | nil => rfl
 | cons _ _ ih => simp [ih]
theorem Pw.get {l : List α} {l' : List β} (h : Pw R l l') : ∀ {i : Nat} {x : α}, l[i]? = some x → ∃ y, l'[i]? = some y ∧ R x y := by
 induction h with
 | nil => intro i x hx; simp at hx
 | cons hr _ ih =>
  intro i x hx
  cases i with
  | zero => simp only [List.getElem?_cons_zero, Option.some.injEq] at hx; subst hx; exact ⟨_, rfl, hr⟩
  | succ i => simp only [List.getElem?_cons_succ] at hx; exact ih hx
theorem Pw.append {l m : List α} {l' m' : List β} (h : Pw R l l') (g : Pw R m m') : Pw R (l ++ m) (l' ++ m') := by
 induction h with
 | nil => exact g
 | cons hr _ ih => exact .cons hr ih
theorem Pw.drop {l : List α} {l' : List β} (h : Pw R l l') : ∀ n, Pw R (l.drop n) (l'.drop n) := by
 induction h with
 | nil => intro n; simpa using Pw.nil
 | cons hr t ih =>
  intro n
  cases n with
  | zero => exact .cons hr t
  | succ n => exact ih n
theorem Pw.take {l : List α} {l' : List β} (h : Pw R l l') : ∀ n, Pw R (l.take n) (l'.take n) := by
 induction h with
 | nil => intro n; simpa using Pw.nil
 | cons hr t ih =>
  intro n
  cases n with
  | zero => exact .nil
  | succ n => exact .cons hr (ih n)
theorem Pw.set {l : List α} {l' : List β} (h : Pw R l l') {x : α} {y : β} (hxy : R x y) : ∀ n, Pw R (l.set n x) (l'.set n y) := by
 induction h with
 | nil => intro n; simpa using Pw.nil
 | cons hr t ih =>
  intro n
  cases n with
  | zero => exact .cons hxy t
  | succ n => exact .cons hr (ih n)
theorem Pw.mono {R' : α → β → Prop} (hm : ∀ x y, R x y → R' x y) {l : List α} {l' : List β} (h : Pw R l l') : Pw R' l l' := by
 induction h with
 | nil => exact .nil
 | cons hr _ ih => exact .cons (hm _ _ hr) ih
theorem Pw.maps {α' β' : Type} {R' : α' → β' → Prop} {f : α → α'} {g : β → β'} (hm : ∀ x y, R x y → R' (f x) (g y)) {l : List α} {l' : List β} (h : Pw R l l') : Pw R' (l.map f) (l'.map g) := by
 induction h with
 | nil => exact .nil
 | cons hr _ ih => exact .cons (hm _ _ hr) ih
theorem Pw.replicate {x : α} {y : β} (h : R x y) : ∀ n, Pw R (List.replicate n x) (List.replicate n y)
 | 0 => .nil
 | n + 1 => .cons h (Pw.replicate h n)
theorem Pw.all {p : α → Bool} {q : β → Bool} (hm : ∀ x y, R x y → p x = true → q y = true) {l : List α} {l' : List β} (h : Pw R l l') (ha : l.all p = true) : l'.all q = true := by
 induction h with
 | nil => rfl
 | cons hr _ ih =>
  simp only [List.all_cons, Bool.and_eq_true] at ha ⊢
  exact ⟨hm _ _ hr ha.1, ih ha.2⟩
theorem Pw.any {p : α → Bool} {q : β → Bool} (hm : ∀ x y, R x y → p x = false → q y = false) {l : List α} {l' : List β} (h : Pw R l l') (ha : l.any p = false) : l'.any q = false := by
 induction h with
 | nil => rfl
 | cons hr _ ih =>
  simp only [List.any_cons, Bool.or_eq_false_iff] at ha ⊢
  exact ⟨hm _ _ hr ha.1, ih ha.2⟩
end pw
theorem Den.mono {ρ : List Nat} (e : List Nat) {t : TV} {v : V} (h : Den ρ t v) : Den (ρ ++ e) t v := by
 have key : ∀ {i b : Nat}, ρ[i]? = some b → (ρ ++ e)[i]? = some b := fun {i b} h => by
  rw [List.getElem?_append_left (lt_of_get h)]; exact h
 have rt : ∀ {r r'}, RootR ρ r r' → RootR (ρ ++ e) r r' := fun h => by
  cases h with
  | mem o h => exact .mem o (key h)
  | loc j o => exact .loc j o
  | tmp s => exact .tmp s
 refine Den.rec (motive_1 := fun t v _ => Den (ρ ++ e) t v) (motive_2 := fun l l' _ => Pw (Den (ρ ++ e)) l l') ?_ ?_ ?_ ?_ ?_ ?_ ?_ ?_ ?_ ?_ ?_ h
 ·intro t v h; exact .base h
 ·intro i b o h; exact .ptr o (key h)
 ·intro j o; exact .loc j o
 ·intro cs cs' o _ h; exact .ro o h
 ·intro r r' sz i k h; exact .el sz i k (rt h)
 ·intro r r' h; exact .place (rt h)
 ·intro cs cs' _ h; exact .agg h
 ·intro cs cs' _ h; exact .tuple h
 ·intro f cs cs' _ h; exact .func f h
 ·exact .nil
 ·intro a b l l' _ _ h1 h2; exact .cons h1 h2
section tv
def TV.cells : TV → List TV
 | .agg cs => cs
 | v => [v]
def TV.own0 : TV → Bool
 | .sl true _ _ => true
 | .undef => true
 | _ => false
def TV.own1 : TV → Bool
 | .agg cs => cs.any TV.own0
 | v => v.own0
def TV.hasOwn : TV → Bool
 | .tuple vs => vs.any TV.own1
 | v => v.own1
def TV.share0 : TV → TV
 | .sl _ sz xs => .sl false sz xs
 | v => v
def TV.share : TV → TV
 | .agg cs => .agg (cs.map TV.share0)
 | v => v.share0
def TV.good : TV → Bool
 | .bool _ | .int _ _ | .str _ | .nilp | .nils | .sl false _ _ | .nilf | .nili => true
 | .func _ cs => cs.isEmpty
 | _ => false
def TV.left : TV → TV
 | .sl true _ _ => .undef
 | v => v
def TV.low0 : TV → Bool
 | .bool _ | .int _ _ | .str _ | .nilp | .nils | .sl _ _ _ | .nilf | .nili => true
 | .func _ cs => cs.isEmpty
 | _ => false
def TV.low1 : TV → Bool
 | .agg cs => cs.all TV.low0
 | v => v.low0
def TV.low2 : TV → Bool
 | .tuple vs => vs.all TV.low1
 | v => v.low1
def okCapT : TV → Bool
 | .ptr _ _ => true
 | _ => false
def TV.ok0 : TV → Bool
 | .bool _ | .int _ _ | .str _ | .nilp | .ptr _ _ | .nils | .sl _ _ _ | .nilf | .nili => true
 | .func _ cs => cs.all okCapT
 | _ => false
def TV.ok1 : TV → Bool
 | .agg cs => cs.all TV.ok0
 | v => v.ok0
def TV.okArg : TV → Bool
 | .agg cs => cs.all TV.ok0
 | .place (.mem _ _) | .el (.mem _ _) _ _ _ => true
 | v => v.ok0
def rootOkT (lean : Bool) : TV → Bool
 | .place (.tmp _) | .el (.tmp _) _ _ _ => false
 | .place _ | .el _ _ _ _ => !lean
 | .undef => false
 | _ => true
def killV : TV → TV
 | .place (.mem _ _) | .place (.loc _ _) | .el (.mem _ _) _ _ _ | .el (.loc _ _) _ _ _ => .undef
 | v => v
def killLocV : TV → TV
 | .place (.loc _ _) | .el (.loc _ _) _ _ _ => .undef
 | v => v
def killAtV (off n : Nat) : TV → TV
 | .place (.mem b o) => bif Nat.ble off o && Nat.ble (o + 1) (off + n) then .undef else .place (.mem b o)
 | .el (.mem b o) z i k => bif Nat.ble off o && Nat.ble (o + 1) (off + n) then .undef else .el (.mem b o) z i k
 | v => v
def killMV : TV → TV
 | .place (.mem _ _) | .el (.mem _ _) _ _ _ => .undef
 | v => v
def killTV (d : Nat) : TV → TV
 | .place (.tmp s) => bif Nat.beq s d then .undef else .place (.tmp s)
 | .el (.tmp s) z i k => bif Nat.beq s d then .undef else .el (.tmp s) z i k
 | v => v
def killLV (j : Nat) : TV → TV
 | .loc j' o => bif Nat.beq j' j then .undef else .loc j' o
 | .place (.loc j' o) => bif Nat.beq j' j then .undef else .place (.loc j' o)
 | .el (.loc j' o) z i k => bif Nat.beq j' j then .undef else .el (.loc j' o) z i k
 | v => v
def selfPlaceT (d : Option Nat) : TV → Bool
 | .place (.tmp s) => d == some s
 | .el (.tmp s) _ _ _ => d == some s
 | _ => false
variable {ρ : List Nat} {t : TV} {v : V}
theorem Den.undef' (v : V) : Den ρ .undef v := .base (.undef v)
theorem Den.cells (h : Den ρ t v) (ho : t.ok1 = true) : Pw (Den ρ) t.cells v.cells := by
 cases h with
 | agg h => exact h
 | base h0 =>
  have hh := Den.base (ρ := ρ) h0
  cases h0 with
  | undef v => cases ho
  | _ => exact .cons hh .nil
 | ptr o h => exact .cons (.ptr o h) .nil
 | loc j o => exact .cons (.loc j o) .nil
 | ro o h => exact .cons (.ro o h) .nil
 | el sz i k h => exact .cons (.el sz i k h) .nil
 | place h => exact .cons (.place h) .nil
 | tuple h => exact .cons (.tuple h) .nil
 | func f h => exact .cons (.func f h) .nil
theorem Den.own0 (h : Den ρ t v) (ho : t.own0 = false) : v.own0 = false := by
 cases h with
 | base h0 =>
  cases h0 with
  | undef v => cases ho
  | sl own sz _ => cases own <;> first | rfl | cases ho
  | _ => rfl
 | _ => rfl
theorem Den.own1 (h : Den ρ t v) (ho : t.own1 = false) : v.own1 = false := by
 cases h with
 | agg h => exact Pw.any (p := TV.own0) (q := V.own0) (fun _ _ h ho => Den.own0 h ho) h ho
 | base h0 =>
  cases h0 with
  | undef v => cases ho
  | sl own sz _ => cases own <;> first | rfl | cases ho
  | _ => rfl
 | _ => rfl
theorem Den.hasOwn (h : Den ρ t v) (ho : t.hasOwn = false) : v.hasOwn = false := by
 cases h with
 | tuple h => exact Pw.any (p := TV.own1) (q := V.own1) (fun _ _ h ho => Den.own1 h ho) h ho
 | agg h => exact (Den.agg h).own1 ho
 | base h0 =>
  cases h0 with
  | undef v => cases ho
  | sl own sz _ => cases own <;> first | rfl | cases ho
  | _ => rfl
 | _ => rfl
theorem Den.share0 (h : Den ρ t v) : Den ρ t.share0 v.share0 := by
 cases h with
 | base h0 =>
  cases h0 with
  | undef v => exact .undef' _
  | sl own sz h => exact .base (.sl false sz h)
  | sln own sz => exact .base (.sln false sz)
  | bool b => exact .base (.bool b)
  | int k n => exact .base (.int k n)
  | str s => exact .base (.str s)
  | nilp => exact .base .nilp
  | nils => exact .base .nils
  | func f => exact .base (.func f)
  | nilf => exact .base .nilf
  | nili => exact .base .nili
 | ptr o h => exact .ptr o h
 | loc j o => exact .loc j o
 | ro o h => exact .ro o h
 | el sz i k h => exact .el sz i k h
 | place h => exact .place h
 | tuple h => exact .tuple h
 | func f h => exact .func f h
 | agg h => exact .agg h
theorem Den.share (h : Den ρ t v) : Den ρ t.share v.share := by
 cases h with
 | agg h => exact .agg (Pw.maps (f := TV.share0) (g := V.share0) (fun _ _ h => Den.share0 h) h)
 | base h0 =>
  cases h0 with
  | undef v => exact .undef' _
  | sl own sz h => exact .base (.sl false sz h)
  | sln own sz => exact .base (.sln false sz)
  | bool b => exact .base (.bool b)
  | int k n => exact .base (.int k n)
  | str s => exact .base (.str s)
  | nilp => exact .base .nilp
  | nils => exact .base .nils
  | func f => exact .base (.func f)
  | nilf => exact .base .nilf
  | nili => exact .base .nili
 | ptr o h => exact .ptr o h
 | loc j o => exact .loc j o
 | ro o h => exact .ro o h
 | el sz i k h => exact .el sz i k h
 | place h => exact .place h
 | tuple h => exact .tuple h
 | func f h => exact .func f h
theorem Den.left (h : Den ρ t v) : Den ρ t.left v.left := by
 cases h with
 | base h0 =>
  cases h0 with
  | undef v => exact .undef' _
  | sl own sz h => cases own with
   | true => exact .undef' _
   | false => exact .base (.sl false sz h)
  | sln own sz => cases own with
   | true => exact .undef' _
   | false => exact .base (.sln false sz)
  | bool b => exact .base (.bool b)
  | int k n => exact .base (.int k n)
  | str s => exact .base (.str s)
  | nilp => exact .base .nilp
  | nils => exact .base .nils
  | func f => exact .base (.func f)
  | nilf => exact .base .nilf
  | nili => exact .base .nili
 | ptr o h => exact .ptr o h
 | loc j o => exact .loc j o
 | ro o h => exact .ro o h
 | el sz i k h => exact .el sz i k h
 | place h => exact .place h
 | tuple h => exact .tuple h
 | func f h => exact .func f h
 | agg h => exact .agg h
theorem Den0.good (h : Den0 t v) (hg : t.good = true) : v.good = true := by
 cases h with
 | undef v => cases hg
 | sl own sz _ => cases own <;> first | rfl | cases hg
 | func f => rfl
 | _ => rfl
theorem Den.good (h : Den ρ t v) (hg : t.good = true) : Den0 t v ∧ v.good = true := by
 cases h with
 | base h0 => exact ⟨h0, h0.good hg⟩
 | func f h =>
  cases h with
  | nil => exact ⟨.func f, rfl⟩
  | cons _ _ => cases hg
 | _ => cases hg
theorem Den.okCap (h : Den ρ t v) (hg : okCapT t = true) : Am.okCap v = true := by
 cases h with
 | base h0 => cases h0 <;> cases hg
 | ptr o h => rfl
 | _ => cases hg
theorem Den.ok0 (h : Den ρ t v) (hg : t.ok0 = true) : v.ok0 = true := by
 cases h with
 | base h0 => cases h0 <;> first | rfl | cases hg
 | ptr o h => rfl
 | func f h => exact Pw.all (p := okCapT) (q := Am.okCap) (fun _ _ h ho => Den.okCap h ho) h hg
 | _ => cases hg
theorem Den.ok1 (h : Den ρ t v) (hg : t.ok1 = true) : v.ok1 = true := by
 cases h with
 | base h0 => cases h0 <;> first | rfl | cases hg
 | ptr o h => rfl
 | func f h => exact Pw.all (p := okCapT) (q := Am.okCap) (fun _ _ h ho => Den.okCap h ho) h hg
 | agg h => exact Pw.all (p := TV.ok0) (q := V.ok0) (fun _ _ h ho => Den.ok0 h ho) h hg
 | _ => cases hg
theorem Den.okArg (h : Den ρ t v) (hg : t.okArg = true) : v.okArg = true := by
 cases h with
 | base h0 => cases h0 <;> first | rfl | cases hg
 | ptr o h => rfl
 | func f h => exact Pw.all (p := okCapT) (q := Am.okCap) (fun _ _ h ho => Den.okCap h ho) h hg
 | agg h => exact Pw.all (p := TV.ok0) (q := V.ok0) (fun _ _ h ho => Den.ok0 h ho) h hg
 | place h => cases h <;> first | rfl | cases hg
 | el sz i k h => cases h <;> first | rfl | cases hg
 | _ => cases hg
theorem Den.rootOk {lean : Bool} (h : Den ρ t v) (hg : rootOkT lean t = true) : Am.rootOk lean v = true := by
 cases h with
 | base h0 => cases h0 <;> first | rfl | cases hg
 | place h => cases h <;> first | exact hg | rfl
 | el sz i k h => cases h <;> first | exact hg | rfl
 | _ => rfl
theorem Den.killV (h : Den ρ t v) : Den ρ (T.killV t) (Am.killV v) := by
 cases h with
 | base h0 => cases h0 with
  | undef v => exact .undef' _
  | _ => exact .base (by constructor <;> assumption)
 | place h => cases h with
  | tmp s => exact .place (.tmp s)
  | _ => exact .undef' _
 | el sz i k h => cases h with
  | tmp s => exact .el _ _ _ (.tmp s)
  | _ => exact .undef' _
 | ptr o h => exact .ptr o h
 | loc j o => exact .loc j o
 | ro o h => exact .ro o h
 | tuple h => exact .tuple h
 | func f h => exact .func f h
 | agg h => exact .agg h
theorem Den.killMV (h : Den ρ t v) : Den ρ (T.killMV t) (Am.killMV v) := by
 cases h with
 | base h0 => cases h0 with
  | undef v => exact .undef' _
  | _ => exact .base (by constructor <;> assumption)
 | place h => cases h with
  | tmp s => exact .place (.tmp s)
  | loc j o => exact .place (.loc j o)
  | mem o h => exact .undef' _
 | el sz i k h => cases h with
  | tmp s => exact .el _ _ _ (.tmp s)
  | loc j o => exact .el _ _ _ (.loc j o)
  | mem o h => exact .undef' _
 | ptr o h => exact .ptr o h
 | loc j o => exact .loc j o
 | ro o h => exact .ro o h
 | tuple h => exact .tuple h
 | func f h => exact .func f h
 | agg h => exact .agg h
theorem Den.killLocV (h : Den ρ t v) : Den ρ (T.killLocV t) (Am.killLocV v) := by
 cases h with
 | base h0 => cases h0 with
  | undef v => exact .undef' _
  | _ => exact .base (by constructor <;> assumption)
 | place h => cases h with
  | tmp s => exact .place (.tmp s)
  | mem o h => exact .place (.mem o h)
  | loc j o => exact .undef' _
 | el sz i k h => cases h with
  | tmp s => exact .el _ _ _ (.tmp s)
  | mem o h => exact .el _ _ _ (.mem o h)
  | loc j o => exact .undef' _
 | ptr o h => exact .ptr o h
 | loc j o => exact .loc j o
 | ro o h => exact .ro o h
 | tuple h => exact .tuple h
 | func f h => exact .func f h
 | agg h => exact .agg h
theorem win_if {α : Type} {off n o : Nat} {x y : α} : (bif Nat.ble off o && Nat.ble (o + 1) (off + n) then x else y) = if off ≤ o ∧ o < off + n then x else y := by
 by_cases h : off ≤ o ∧ o < off + n
 ·rw [if_pos h, Nat.ble_eq_true_of_le h.1, Nat.ble_eq_true_of_le (show o + 1 ≤ off + n from h.2)]; rfl
 ·rw [if_neg h]
  cases h1 : Nat.ble off o with
  | false => rfl
  | true =>
   cases h2 : Nat.ble (o + 1) (off + n) with
   | false => rfl
   | true => exact absurd ⟨Nat.le_of_ble_eq_true h1, Nat.le_of_ble_eq_true h2⟩ h
theorem Den.killAtV (off n : Nat) (h : Den ρ t v) : Den ρ (T.killAtV off n t) (Am.killAtV off n v) := by
 cases h with
 | base h0 => cases h0 with
  | undef v => exact .undef' _
  | _ => exact .base (by constructor <;> assumption)
 | place h => cases h with
  | tmp s => exact .place (.tmp s)
  | mem o h =>
   simp only [T.killAtV, Am.killAtV, win_if]
   split
   ·exact .undef' _
   ·exact .place (.mem o h)
  | loc j o => exact .place (.loc j o)
 | el sz i k h => cases h with
  | tmp s => exact .el _ _ _ (.tmp s)
  | mem o h =>
   simp only [T.killAtV, Am.killAtV, win_if]
   split
   ·exact .undef' _
   ·exact .el _ _ _ (.mem o h)
  | loc j o => exact .el _ _ _ (.loc j o)
 | ptr o h => exact .ptr o h
 | loc j o => exact .loc j o
 | ro o h => exact .ro o h
 | tuple h => exact .tuple h
 | func f h => exact .func f h
 | agg h => exact .agg h
theorem beq_if {α : Type} {a b : Nat} {x y : α} : (bif Nat.beq a b then x else y) = if a = b then x else y := by
 by_cases h : a = b
 ·subst h; simp
 ·have : Nat.beq a b = false := by
   cases hb : Nat.beq a b with
   | false => rfl
   | true => exact absurd (Nat.eq_of_beq_eq_true hb) h
  simp [h, this]
theorem Den.killTV (d : Nat) (h : Den ρ t v) : Den ρ (T.killTV d t) (Am.killTV d v) := by
 cases h with
 | base h0 => cases h0 with
  | undef v => exact .undef' _
  | _ => exact .base (by constructor <;> assumption)
 | place h => cases h with
  | tmp s =>
   show Den ρ (bif Nat.beq s d then .undef else .place (.tmp s)) (if s = d then .undef else .place (.tmp s))
   rw [beq_if]; split
   ·exact .undef' _
   ·exact .place (.tmp s)
  | loc j o => exact .place (.loc j o)
  | mem o h => exact .place (.mem o h)
 | el sz i k h => cases h with
  | tmp s =>
   show Den ρ (bif Nat.beq s d then .undef else .el (.tmp s) sz i k) (if s = d then .undef else .el (.tmp s) sz i k)
   rw [beq_if]; split
   ·exact .undef' _
   ·exact .el _ _ _ (.tmp s)
  | loc j o => exact .el _ _ _ (.loc j o)
  | mem o h => exact .el _ _ _ (.mem o h)
 | ptr o h => exact .ptr o h
 | loc j o => exact .loc j o
 | ro o h => exact .ro o h
 | tuple h => exact .tuple h
 | func f h => exact .func f h
 | agg h => exact .agg h
theorem Den.killLV (d : Nat) (h : Den ρ t v) : Den ρ (T.killLV d t) (Am.killLV d v) := by
 cases h with
 | base h0 => cases h0 with
  | undef v => exact .undef' _
  | _ => exact .base (by constructor <;> assumption)
 | place h => cases h with
  | loc j o =>
   show Den ρ (bif Nat.beq j d then .undef else .place (.loc j o)) (if j = d then .undef else .place (.loc j o))
   rw [beq_if]; split
   ·exact .undef' _
   ·exact .place (.loc j o)
  | tmp s => exact .place (.tmp s)
  | mem o h => exact .place (.mem o h)
 | el sz i k h => cases h with
  | loc j o =>
   show Den ρ (bif Nat.beq j d then .undef else .el (.loc j o) sz i k) (if j = d then .undef else .el (.loc j o) sz i k)
   rw [beq_if]; split
   ·exact .undef' _
   ·exact .el _ _ _ (.loc j o)
  | tmp s => exact .el _ _ _ (.tmp s)
  | mem o h => exact .el _ _ _ (.mem o h)
 | ptr o h => exact .ptr o h
 | loc j o =>
  show Den ρ (bif Nat.beq j d then .undef else .loc j o) (if j = d then .undef else .loc j o)
  rw [beq_if]; split
  ·exact .undef' _
  ·exact .loc j o
 | ro o h => exact .ro o h
 | tuple h => exact .tuple h
 | func f h => exact .func f h
 | agg h => exact .agg h
theorem Den.selfPlace {d : Option Nat} (h : Den ρ t v) (hu : t ≠ .undef) (hg : selfPlaceT d t = false) : Am.selfPlace d v = false := by
 cases h with
 | base h0 => cases h0 <;> first | rfl | exact absurd rfl hu
 | place h => cases h <;> first | exact hg | rfl
 | el sz i k h => cases h <;> first | exact hg | rfl
 | _ => rfl
theorem Den0.low (h : Den0 t v) (hg : t.low0 = true) : v.top = 0 := by
 cases h <;> first | rfl | cases hg
theorem Den.low (h : Den ρ t v) (hg : t.low0 = true) : v.top = 0 := by
 cases h with
 | base h0 => exact h0.low hg
 | func f h => cases h with
  | nil => rfl
  | cons _ _ => cases hg
 | _ => cases hg
theorem tops_low {cs : List TV} {cs' : List V} (h : Pw (Den ρ) cs cs') (hg : cs.all TV.low0 = true) : tops cs' = 0 := by
 induction h with
 | nil => rfl
 | cons hr _ ih =>
  simp only [List.all_cons, Bool.and_eq_true] at hg
  have e1 := hr.low hg.1
  have e2 := ih hg.2
  unfold tops at e2 ⊢
  simp only [List.foldr_cons, e1, e2]; rfl
theorem Den.low1 (h : Den ρ t v) (hg : t.low1 = true) : v.top1 = 0 := by
 cases h with
 | base h0 => cases h0 <;> first | rfl | cases hg
 | func f h => cases h with
  | nil => rfl
  | cons _ _ => cases hg
 | agg h => exact tops_low h hg
 | _ => cases hg
theorem Den.low2 (h : Den ρ t v) (hg : t.low2 = true) : v.top2 = 0 := by
 cases h with
 | base h0 => cases h0 <;> first | rfl | cases hg
 | func f h => cases h with
  | nil => rfl
  | cons _ _ => cases hg
 | agg h => exact tops_low h hg
 | tuple h =>
  show List.foldr (fun (v : V) (n : Nat) => max v.top1 n) 0 _ = 0
  have hg' : List.all _ TV.low1 = true := hg
  clear hg
  induction h with
  | nil => rfl
  | cons hr _ ih =>
   simp only [List.all_cons, Bool.and_eq_true] at hg'
   simp only [List.foldr_cons, hr.low1 hg'.1, ih hg'.2]; rfl
 | _ => cases hg
theorem Den.bool_inv {b : Bool} (h : Den ρ (.bool b) v) : v = .bool b := by
 cases h with
 | base h0 => cases h0; rfl
theorem Den.int_inv {k : IntKind} {n : Int} (h : Den ρ (.int k n) v) : v = .int k n := by
 cases h with
 | base h0 => cases h0; rfl
theorem Den.str_inv {s : List Int} (h : Den ρ (.str s) v) : ∃ b : List UInt8, v = .str b ∧ s = b.map byteI := by
 cases h with
 | base h0 => cases h0 with
  | str b => exact ⟨b, rfl, rfl⟩
theorem Den.agg_inv {cs : List TV} (h : Den ρ (.agg cs) v) : ∃ cs', v = .agg cs' ∧ Pw (Den ρ) cs cs' := by
 cases h with
 | base h0 => cases h0
 | agg h => exact ⟨_, rfl, h⟩
theorem Den.tuple_inv {cs : List TV} (h : Den ρ (.tuple cs) v) : ∃ cs', v = .tuple cs' ∧ Pw (Den ρ) cs cs' := by
 cases h with
 | base h0 => cases h0
 | tuple h => exact ⟨_, rfl, h⟩
theorem Den.ptr_inv {i o : Nat} (h : Den ρ (.ptr i o) v) : ∃ b, v = .ptr b o ∧ ρ[i]? = some b := by
 cases h with
 | base h0 => cases h0
 | ptr o h => exact ⟨_, rfl, h⟩
theorem Den.loc_inv {i o : Nat} (h : Den ρ (.loc i o) v) : v = .loc i o := by
 cases h with
 | base h0 => cases h0
 | loc j o => rfl
theorem Den.ro_inv {cs : List TV} {o : Nat} (h : Den ρ (.ro cs o) v) : ∃ cs', v = .ro cs' o ∧ Pw (Den ρ) cs cs' := by
 cases h with
 | base h0 => cases h0
 | ro o h => exact ⟨_, rfl, h⟩
theorem Den.el_inv {r : Root} {sz i k : Nat} (h : Den ρ (.el r sz i k) v) : ∃ r', v = .el r' sz i k ∧ RootR ρ r r' := by
 cases h with
 | base h0 => cases h0
 | el sz i k h => exact ⟨_, rfl, h⟩
theorem Den.place_inv {r : Root} (h : Den ρ (.place r) v) : ∃ r', v = .place r' ∧ RootR ρ r r' := by
 cases h with
 | base h0 => cases h0
 | place h => exact ⟨_, rfl, h⟩
theorem Den.func_inv {f : Nat} {cs : List TV} (h : Den ρ (.func f cs) v) : ∃ cs', v = .func f cs' ∧ Pw (Den ρ) cs cs' := by
 cases h with
 | base h0 => cases h0 with
  | func f => exact ⟨_, rfl, .nil⟩
 | func f h => exact ⟨_, rfl, h⟩
theorem Den.nils_inv (h : Den ρ .nils v) : v = .nils := by
 cases h with
 | base h0 => cases h0; rfl
theorem Den.nilp_inv (h : Den ρ .nilp v) : v = .nilp := by
 cases h with
 | base h0 => cases h0; rfl
theorem Den.nilf_inv (h : Den ρ .nilf v) : v = .nilf := by
 cases h with
 | base h0 => cases h0; rfl
theorem Den.sl_inv {own : Bool} {sz : Nat} {xs : List (List TV)} (h : Den ρ (.sl own sz xs) v) : (∃ ys, v = .slice own sz ys ∧ Pw (Pw Den0) xs ys) ∨ (v = .nils ∧ xs = []) := by
 cases h with
 | base h0 => cases h0 with
  | sl own sz h => exact .inl ⟨_, rfl, h⟩
  | sln own sz => exact .inr ⟨rfl, rfl⟩
theorem Pw.base {cs : List TV} {cs' : List V} (h : Pw Den0 cs cs') : Pw (Den ρ) cs cs' := h.mono fun _ _ h => .base h
end tv
end Go.Proofs.YtdlijnfdkeimlaaDoor.Am.T

namespace Go.Proofs.YtdlijnfdkeimlaaDoor.Am.T
open Go.Proofs.YtdlijnfdkeimlaaDoor.Am
abbrev Ts := List (Nat × TV)
abbrev Bs := List (Nat × List TV)
abbrev Ms := List (List TV)
def mapK (f : TV → TV) : Ts → (Ts → Prop) → Prop
 | [], k => k []
 | (s, v) :: r, k => mapK f r fun r' => k ((s, f v) :: r')
def rdP (v : TV) (p : Prop) : Prop :=
 match v with
 | .undef => False
 | .sl true _ _ => False
 | .agg cs => bif cs.any TV.own0 then False else p
 | .tuple vs => bif vs.any TV.own1 then False else p
 | _ => p
def rdV (v : TV) (k : TV → Prop) : Prop := rdP v (k v)
def cV0 : V → TV
 | .bool b => .bool b
 | .int k n => .int k n
 | .str s => .str (s.map byteI)
 | _ => .undef
def cV : V → TV
 | .slice false z xs => .sl false z (xs.map fun cs => cs.map cV0)
 | .bool b => .bool b
 | .int k n => .int k n
 | .str s => .str (s.map byteI)
 | .nilp => .nilp
 | .nils => .nils
 | .func f [] => .func f []
 | .nilf => .nilf
 | .nili => .nili
 | _ => .undef
inductive NilOk : TV → Prop
 | nils : NilOk .nils
 | sl (o : Bool) (z : Nat) : NilOk (.sl o z [])
def cK (v : V) (k : TV → Prop) : Prop :=
 match v with
 | .nils => ∃ t, NilOk t ∧ k t
 | v => k (cV v)
def zeroK : List V → (List TV → Prop) → Prop
 | [], k => k []
 | v :: r, k => cK v fun t => zeroK r fun ts => k (t :: ts)
def forceK {α : Type} : List α → (List α → Prop) → Prop
 | [], k => k []
 | x :: r, k => forceK r fun r' => k (x :: r')
def rdC (L : Ts) (o : Opd) (k : TV → Prop) : Prop :=
 match o with
 | .c v => k (cV v)
 | .t s => match fnd L s with
  | some v => rdV v k
  | none => False
 | .u s .peek => k (.place (.tmp s))
 | .u _ _ => False
def rd (L : Ts) (o : Opd) (k : TV → Ts → Prop) : Prop :=
 match o with
 | .c v => cK v fun t => k t L
 | .t s => match fnd L s with
  | some v => rdV v fun v => k v L
  | none => False
 | .u s .take => match fnd L s with
  | some v => k v ((s, .undef) :: L)
  | none => False
 | .u s .share => match fnd L s with
  | some v => k v.share ((s, .undef) :: L)
  | none => False
 | .u s .peek => k (.place (.tmp s)) L
 | .u s .copy => match fnd L s with
  | some v => rdV v fun v => k v L
  | none => False
def rds (L : Ts) : List Opd → (List TV → Ts → Prop) → Prop
 | [], k => k [] L
 | x :: xs, k => rd L x fun v L1 => rds L1 xs fun vs L2 => k (v :: vs) L2
def rdCs (L : Ts) : List Opd → (List TV → Prop) → Prop
 | [], k => k []
 | x :: xs, k => rdC L x fun v => rdCs L xs fun vs => k (v :: vs)
def lookW (L : Ts) (B : Bs) (m : Ms) (r : Root) (k : TV → Prop) : Prop :=
 match r with
 | .mem b o => match m[b]? with
  | some cs => match cs[o]? with
   | some v => k v
   | none => False
  | none => False
 | .loc j o => match fnd B j with
  | some cs => match cs[o]? with
   | some v => k v
   | none => False
  | none => False
 | .tmp s => match fnd L s with
  | some v => k v
  | none => False
def elemsV (v : TV) (k : List (List TV) → Prop) : Prop :=
 match v with
 | .sl _ _ xs => k xs
 | .nils => k []
 | _ => False
def elemsW (L : Ts) (B : Bs) (m : Ms) (v : TV) (k : List (List TV) → Prop) : Prop :=
 match v with
 | .sl _ _ xs => k xs
 | .nils => k []
 | .place r => lookW L B m r fun v => elemsV v k
 | _ => False
def elemsZV (sz : Nat) (v : TV) (k : List (List TV) → Prop) : Prop :=
 match v with
 | .nils => k []
 | .sl _ z xs => bif Nat.beq z sz then k xs else False
 | _ => False
def by8 (b : Int) : List TV := [.int .u8 b]
def elemsZW (sz : Nat) (L : Ts) (B : Bs) (m : Ms) (v : TV) (k : List (List TV) → Prop) : Prop :=
 match v with
 | .nils => k []
 | .str s => bif Nat.beq sz 1 then k (s.map by8) else False
 | .sl _ z xs => bif Nat.beq z sz then k xs else False
 | .place r => lookW L B m r fun v => elemsZV sz v k
 | _ => False
def lendW (sz : Nat) (L : Ts) (B : Bs) (m : Ms) (v : TV) (k : List (List TV) → Prop) : Prop :=
 match v with
 | .str _ => False
 | v => elemsZW sz L B m v k
def TV.bare : TV → Bool
 | .int _ _ | .bool _ | .str _ => true
 | _ => false
def setT (cs : List TV) (off : Nat) (vs : List TV) : List TV := cs.take off ++ vs ++ cs.drop (off + vs.length)
def ldW (mode : Use) (root : Root) (agg : Bool) (n : Nat) (cs : List TV) (off : Nat) (k : TV → Option (List TV) → Prop) : Prop :=
 match agg with
 | false => bif Nat.beq n 1 then match cs[off]? with
  | some v => match mode with
   | .copy => bif v.own0 then False else k v none
   | .take => forceK (cs.set off v.left) fun c => k v (some c)
   | .share => forceK (cs.set off v.share0) fun c => k v.share0 (some c)
   | .peek => k (.place root) none
  | none => False
  else False
 | true => bif Nat.ble (off + n) cs.length then match mode with
   | .copy => bif ((cs.drop off).take n).any TV.own0 then False else forceK ((cs.drop off).take n) fun d => k (.agg d) none
   | .take => forceK ((cs.drop off).take n) fun d => forceK (setT cs off (d.map TV.left)) fun c => k (.agg d) (some c)
   | .share => forceK (((cs.drop off).take n).map TV.share0) fun d => forceK (setT cs off d) fun c => k (.agg d) (some c)
   | .peek => False
  else False
def loadW (agg : Bool) (n : Nat) (mode : Use) (L : Ts) (B : Bs) (m : Ms) (a : TV) (k : TV → Bs → Ms → Prop) : Prop :=
 match a with
 | .ptr b off => match m[b]? with
  | some cs => ldW mode (.mem b off) agg n cs off fun v c => match c with
   | none => k v B m
   | some c => forceK (m.set b c) fun m' => k v B m'
  | none => False
 | .loc j off => match mode with
  | .share => False
  | mode => match fnd B j with
   | some cs => ldW mode (.loc j off) agg n cs off fun v c => match c with
    | none => k v B m
    | some c => k v ((j, c) :: B) m
   | none => False
 | .ro cs off => match mode with
  | .copy => match agg with
   | false => bif Nat.beq n 1 then (match cs[off]? with
    | some v => k v B m
    | none => False) else False
   | true => bif Nat.ble (off + n) cs.length then forceK ((cs.drop off).take n) fun d => k (.agg d) B m else False
  | _ => False
 | .el r z i o => match mode with
  | .copy => lookW L B m r fun v => match v with
   | .sl true sz xs => bif Nat.beq z sz then ∃ cs, xs[i]? = some cs ∧ match agg with
     | false => bif Nat.beq n 1 then (match cs[o]? with
      | some v => k v B m
      | none => False) else False
     | true => bif Nat.ble (o + n) cs.length then forceK ((cs.drop o).take n) fun d => k (.agg d) B m else False
    else False
   | _ => False
  | _ => False
 | _ => False
def storeW (n : Nat) (cells : List TV) (L : Ts) (B : Bs) (m : Ms) (a : TV) (k : Ts → Bs → Ms → Prop) : Prop :=
 match a with
 | .ptr b off => match m[b]? with
  | some old => bif Nat.ble (off + n) old.length && Nat.beq cells.length n && cells.all TV.ok0 && cells.all TV.low0 then mapK (killAtV off n) L fun L' => forceK (setT old off cells) fun c => forceK (m.set b c) fun m' => k L' B m' else False
  | none => False
 | .loc j off => match fnd B j with
  | some old => bif Nat.ble (off + n) old.length && Nat.beq cells.length n && cells.all TV.ok0 then mapK killLocV L fun L' => forceK (setT old off cells) fun c => k L' ((j, c) :: B) m else False
  | none => False
 | .el r z i o => bif Nat.beq cells.length n && cells.all TV.good then (match r with
  | .mem b q => match m[b]? with
   | some old => match old[q]? with
    | some (.sl true sz xs) => bif Nat.beq z sz then ∃ cs, xs[i]? = some cs ∧ bif Nat.ble (o + n) cs.length then ∃ zs, zs = xs.set i (setT cs o cells) ∧ forceK (old.set q (.sl true sz zs)) fun c => forceK (m.set b c) fun m' => k L B m' else False else False
    | _ => False
   | none => False
  | .loc j q => match fnd B j with
   | some old => match old[q]? with
    | some (.sl true sz xs) => bif Nat.beq z sz then ∃ cs, xs[i]? = some cs ∧ bif Nat.ble (o + n) cs.length then ∃ zs, zs = xs.set i (setT cs o cells) ∧ forceK (old.set q (.sl true sz zs)) fun c => k L ((j, c) :: B) m else False else False
    | _ => False
   | none => False
  | .tmp s => match fnd L s with
   | some (.sl true sz xs) => bif Nat.beq z sz then ∃ cs, xs[i]? = some cs ∧ bif Nat.ble (o + n) cs.length then ∃ zs, zs = xs.set i (setT cs o cells) ∧ k ((s, .sl true sz zs) :: L) B m else False else False
   | _ => False) else False
 | _ => False
def fillW (L : Ts) (cells : List TV) : List (Nat × Nat × Opd) → (List TV → Ts → Prop) → Prop
 | [], k => k cells L
 | (off, n, x) :: r, k => rd L x fun v L1 => bif Nat.beq v.cells.length n && Nat.ble (off + n) cells.length && v.ok1 then forceK (setT cells off v.cells) fun c => fillW L1 c r k else False
def fillEW (L : Ts) (sz : Nat) (xs : List (List TV)) : List (Nat × Opd) → (List (List TV) → Ts → Prop) → Prop
 | [], k => k xs L
 | (i, x) :: r, k => rd L x fun v L1 => bif Nat.beq v.cells.length sz && Nat.blt i xs.length && v.ok1 && v.cells.all TV.good then forceK (xs.set i v.cells) fun ys => fillEW L1 sz ys r k else False
def bndW (L : Ts) (dflt : Nat) (o : Option Opd) (k : Nat → Prop) : Prop :=
 match o with
 | none => k dflt
 | some x => rdC L x fun v => match v with
  | .int _ i => 0 ≤ i ∧ k i.toNat
  | _ => False
def tell (b : Bool) (k : TV → Prop) : Prop := ∀ c : Bool, b = c → k (.bool c)
def binW (op : BinOp) (x y : TV) (k : TV → Prop) : Prop :=
 match x, y with
 | .int a n, .int b p => match op with
  | .shl => 0 ≤ p ∧ k (.int a (a.wrap (n * 2 ^ min p.toNat a.bits)))
  | .shr => 0 ≤ p ∧ k (.int a (n.fdiv (2 ^ min p.toNat a.bits)))
  | .add => bif decide (a = b) then k (.int a (a.wrap (n + p))) else False
  | .sub => bif decide (a = b) then k (.int a (a.wrap (n - p))) else False
  | .mul => bif decide (a = b) then k (.int a (a.wrap (n * p))) else False
  | .quo => bif decide (a = b) then p ≠ 0 ∧ k (.int a (a.wrap (n.tdiv p))) else False
  | .rem => bif decide (a = b) then p ≠ 0 ∧ k (.int a (n.tmod p)) else False
  | .and => bif decide (a = b) then k (.int a (a.wrap ((BitVec.ofInt a.bits n &&& BitVec.ofInt a.bits p).toNat))) else False
  | .or => bif decide (a = b) then k (.int a (a.wrap ((BitVec.ofInt a.bits n ||| BitVec.ofInt a.bits p).toNat))) else False
  | .xor => bif decide (a = b) then k (.int a (a.wrap ((BitVec.ofInt a.bits n ^^^ BitVec.ofInt a.bits p).toNat))) else False
  | .andNot => bif decide (a = b) then k (.int a (a.wrap ((BitVec.ofInt a.bits n &&& ~~~ (BitVec.ofInt a.bits p)).toNat))) else False
  | .eql => bif decide (a = b) then tell (decide (n = p)) k else False
  | .neq => bif decide (a = b) then tell (decide (n ≠ p)) k else False
  | .lss => bif decide (a = b) then tell (decide (n < p)) k else False
  | .leq => bif decide (a = b) then tell (decide (n ≤ p)) k else False
  | .gtr => bif decide (a = b) then tell (decide (n > p)) k else False
  | .geq => bif decide (a = b) then tell (decide (n ≥ p)) k else False
 | .str s, .str t => match op with
  | .add => s.length + t.length ≤ 4611686018427387904 ∧ ∃ u, u = s ++ t ∧ k (.str u)
  | .eql => tell (decide (s = t)) k
  | .neq => tell (decide (s ≠ t)) k
  | _ => False
 | _, _ => False
def leafT : LK → TV → TV → Option Bool
 | .int, .int k a, .int k' b => bif decide (k = k') then some (decide (a = b)) else none
 | .bool, .bool a, .bool b => some (a == b)
 | .str, .str a, .str b => some (decide (a = b))
 | _, _, _ => none
def leavesT : List LK → List TV → List TV → Option Bool
 | [], [], [] => some true
 | k :: ks, x :: xs, y :: ys => match leafT k x y with
  | some b => match leavesT ks xs ys with
   | some c => some (b && c)
   | none => none
  | none => none
 | _, _, _ => none
def eqT (kind : EqK) (x y : TV) : Option Bool :=
 match kind, x, y with
 | .ptr, .nilp, .nilp => some true
 | .ptr, .nilp, .ptr _ _ | .ptr, .ptr _ _, .nilp | .ptr, .nilp, .loc _ _ | .ptr, .loc _ _, .nilp => some false
 | .slice, .nils, .nils => some true
 | .func, .nilf, .nilf => some true
 | .func, .nilf, .func _ _ | .func, .func _ _, .nilf => some false
 | _, _, _ => none
def eqW (neg : Bool) (kind : EqK) (x y : TV) (k : TV → Prop) : Prop :=
 match kind with
 | .bool => match x, y with
  | .bool a, .bool b => tell (bif neg then !(a == b) else (a == b)) k
  | _, _ => False
 | .plain ks => match x, y with
  | .agg xs, .agg ys => match leavesT ks xs ys with
   | some b => tell (bif neg then !b else b) k
   | none => False
  | _, _ => False
 | .slice => match x, y with
  | .sl _ _ xs, .nils => ∀ c : Bool, (c = true → xs = []) → k (.bool (bif neg then !c else c))
  | .nils, .sl _ _ xs => ∀ c : Bool, (c = true → xs = []) → k (.bool (bif neg then !c else c))
  | .nils, .nils => k (.bool (bif neg then !true else true))
  | _, _ => False
 | kind => match eqT kind x y with
  | some b => k (.bool (bif neg then !b else b))
  | none => False
def unW (op : UnOp) (x : TV) (k : TV → Prop) : Prop :=
 match op, x with
 | .neg, .int kd n => k (.int kd (kd.wrap (0 - n)))
 | .not, .bool b => k (.bool !b)
 | .xor, .int kd n => k (.int kd (kd.wrap ((BitVec.ofInt kd.bits (if kd.signed then -1 else kd.max) ^^^ BitVec.ofInt kd.bits n).toNat)))
 | _, _ => False
def appW (sz : Nat) (ys : List (List TV)) (xs : List (List TV)) (z : Nat) (k : TV → Prop) : Prop :=
 bif Nat.beq z sz then xs.length + ys.length ≤ most ∧ ∃ zs, zs = xs ++ ys ∧ k (.sl true sz zs) else False
def minMaxW (mx : Bool) (v : TV) (vs : List TV) (k : TV → Prop) : Prop :=
 match v, vs with
 | .int kd a, [.int kd' b] => bif decide (kd = kd') then (match mx with
  | false => k (.int kd (min a b))
  | true => k (.int kd (max a b))) else False
 | _, _ => False
def Mg (ρ : List Nat) (M : Ms) (m : Am.Ms) : Prop := ρ.Nodup ∧ ρ.length = M.length ∧ ∀ (i b : Nat), ρ[i]? = some b → ∃ (cs : List TV) (cs' : List V), M[i]? = some cs ∧ m[b]? = some cs' ∧ Pw (Den ρ) cs cs'
def Fr (ρ : List Nat) (m : Am.Ms) (ρ' : List Nat) (m' : Am.Ms) : Prop := (∃ e, ρ' = ρ ++ e ∧ ∀ b ∈ e, m.length ≤ b) ∧ m.length ≤ m'.length ∧ ∀ c : Nat, c < m.length → c ∉ ρ → m'[c]? = m[c]?
def CallT (q : Bool) (cf : CF) (f : Nat) (args : List TV) (M : Ms) (r : TV) (M' : Ms) : Prop :=
 ∀ ρ m args', Mg ρ M m → Pw (Den ρ) args args' → ∃ r' m' ρ', cf f args' m = some (r', m') ∧ Den ρ' r r' ∧ Mg ρ' M' m' ∧ Fr ρ m ρ' m' ∧ (r.low2 = true → m'.length = m.length) ∧ (q = true → m' = m)
def runeT (n : Int) : List Int := (Utf8.encode n).data.toList.map byteI
def TV.flatA0 : TV → Bool
 | .bool _ | .int _ _ | .str _ | .nilp | .nils | .sl _ _ _ | .nilf | .nili => true
 | .func _ cs => cs.isEmpty
 | _ => false
def TV.flatA : TV → Bool
 | .agg cs => cs.all TV.flatA0
 | v => v.flatA0
def TV.flatR : TV → Bool
 | .tuple vs => vs.all TV.flatA
 | v => v.flatA
def wpOp (q : Bool) (cf : CF) (op : AOp) (L : Ts) (B : Bs) (m : Ms) (k : TV → Ts → Bs → Ms → Prop) : Prop :=
 match op with
 | .mv x => rd L x fun v L' => k v L' B m
 | .mvK s => match fnd L s with
  | some (.sl _ z xs) => k (.sl false z xs) ((s, .sl false z xs) :: L) B m
  | some .nils => k .nils L B m
  | _ => False
 | .pick c a b => rdC L c fun v => match v with
  | .bool t => rdC L (bif t then a else b) fun w => k w L B m
  | _ => False
 | .allocL j zero => bif zero.all V.ok0 then zeroK zero fun z => mapK (killLV j) L fun L' => k (.loc j 0) L' ((j, z) :: B) m else False
 | .allocM zero => bif zero.all V.ok0 then zeroK zero fun z => bif z.all TV.low0 then forceK (m ++ [z]) fun m' => k (.ptr m.length 0) L B m' else False else False
 | .boxL j x => rd L x fun v L1 => bif v.ok1 then mapK (killLV j) L1 fun L' => k (.loc j 0) L' ((j, v.cells) :: B) m else False
 | .boxM x => rd L x fun v L1 => bif v.ok1 then forceK (m ++ [v.cells]) fun m' => k (.ptr m.length 0) L1 B m' else False
 | .build zero parts => zeroK zero fun z => fillW L z parts fun cs L' => k (.agg cs) L' B m
 | .buildSlice sz zero len parts => bif Nat.beq zero.length sz && zero.all V.good then zeroK zero fun z => bif z.all TV.good then fillEW L sz (List.replicate len z) parts fun xs L' => ∃ zs, zs = xs ∧ k (.sl true sz zs) L' B m else False else False
 | .load agg n p mode => rdC L p fun a => loadW agg n mode L B m a fun v B' m' => k v L B' m'
 | .store n p x => rd L x fun v L1 => rdC L1 p fun a => bif v.ok1 then storeW n v.cells L1 B m a fun L' B' m' => k .undef L' B' m' else False
 | .nilCheck x => rdC L x fun v => match v with
  | .ptr .. | .loc .. | .ro .. | .el .. | .func .. => k v L B m
  | _ => False
 | .bin op x y => rdC L x fun a => rdC L y fun b => binW op a b fun v => k v L B m
 | .eq neg kind x y => rdC L x fun a => rdC L y fun b => eqW neg kind a b fun v => k v L B m
 | .un op x => rdC L x fun a => unW op a fun v => k v L B m
 | .conv kd x => rdC L x fun a => match a with
  | .int _ n => k (.int kd (kd.wrap n)) L B m
  | _ => False
 | .strStr x => rdC L x fun a => match a with
  | .str s => k (.str s) L B m
  | _ => False
 | .strBytes x => rdC L x fun a => match a with
  | .str s => k (.sl true 1 (s.map by8)) L B m
  | _ => False
 | .bytesStr x => rdC L x fun a => elemsW L B m a fun xs => ∃ s : List Int, (xs = s.map by8 ∧ ∀ b ∈ s, 0 ≤ b ∧ b < 256) ∧ k (.str s) L B m
 | .intStr x => rdC L x fun a => match a with
  | .int _ n => k (.str (runeT n)) L B m
  | _ => False
 | .convB x => rd L x fun v L1 => match v with
  | .sl true z xs => bif Nat.beq z 1 then xs ≠ [] ∧ k (.sl true 1 xs) L1 B m else False
  | _ => False
 | .makeSlice sz zero l c => rdC L l fun a => rdC L c fun b => match a, b with
  | .int _ n, .int _ q => (0 ≤ n ∧ n ≤ q ∧ q ≤ (most : Int)) ∧ bif Nat.beq zero.length sz && zero.all V.good then zeroK zero fun z => bif z.all TV.good then ∃ zs, zs = List.replicate n.toNat z ∧ k (.sl true sz zs) L B m else False else False
  | _, _ => False
 | .sliceS x lo hi => rdC L x fun a => match a with
  | .str s => bndW L s.length hi fun h => bndW L 0 lo fun l => (l ≤ h ∧ h ≤ s.length) ∧ ∃ t, t = (s.drop l).take (h - l) ∧ k (.str t) L B m
  | _ => False
 | .sliceV sz x lo hi => rd L x fun v L1 => match v with
  | .nils => bndW L1 0 hi fun h => bndW L1 0 lo fun l => (l = 0 ∧ h = 0) ∧ k .nils L1 B m
  | .sl o z xs => bif Nat.beq z sz then bndW L1 xs.length hi fun h => bndW L1 0 lo fun l => (l ≤ h ∧ h ≤ xs.length) ∧ ∃ zs, zs = (xs.drop l).take (h - l) ∧ k (.sl o sz zs) L1 B m else False
  | _ => False
 | .fieldAddr off x => rdC L x fun v => match v with
  | .ptr b o => k (.ptr b (o + off)) L B m
  | .loc j o => k (.loc j (o + off)) L B m
  | .ro cs o => k (.ro cs (o + off)) L B m
  | .el r z i q => k (.el r z i (q + off)) L B m
  | _ => False
 | .field agg n off x => rdC L x fun v => match v with
  | .agg cs => match agg with
   | false => bif Nat.beq n 1 then (match cs[off]? with
    | some v => k v L B m
    | none => False) else False
   | true => bif Nat.ble (off + n) cs.length then forceK ((cs.drop off).take n) fun d => k (.agg d) L B m else False
  | _ => False
 | .indexArr len sz x i => rdC L x fun v => rdC L i fun n => match n with
  | .int _ i => (0 ≤ i ∧ i < len) ∧ match v with
   | .ptr b o => k (.ptr b (o + i.toNat * sz)) L B m
   | .loc j o => k (.loc j (o + i.toNat * sz)) L B m
   | .ro cs o => k (.ro cs (o + i.toNat * sz)) L B m
   | .el r z e q => k (.el r z e (q + i.toNat * sz)) L B m
   | _ => False
  | _ => False
 | .indexSl sz x i => rdC L x fun v => rdC L i fun n => match n with
  | .int _ i => match v with
   | .sl false z xs => bif Nat.beq z sz then 0 ≤ i ∧ ∃ cs, xs[i.toNat]? = some cs ∧ k (.ro cs 0) L B m else False
   | .place r => lookW L B m r fun v => match v with
    | .sl false z xs => bif Nat.beq z sz then 0 ≤ i ∧ ∃ cs, xs[i.toNat]? = some cs ∧ k (.ro cs 0) L B m else False
    | .sl true z xs => bif Nat.beq z sz then (0 ≤ i ∧ i.toNat < xs.length) ∧ k (.el r sz i.toNat 0) L B m else False
    | _ => False
   | _ => False
  | _ => False
 | .indexAgg agg len sz x i => rdC L x fun v => rdC L i fun n => match v, n with
  | .agg cs, .int _ i => (0 ≤ i ∧ i < len ∧ i.toNat * sz + sz ≤ cs.length) ∧ match agg with
   | false => bif Nat.beq sz 1 then ∃ v, cs[i.toNat * sz]? = some v ∧ k v L B m else False
   | true => k (.agg ((cs.drop (i.toNat * sz)).take sz)) L B m
  | _, _ => False
 | .indexStr x i => rdC L x fun v => rdC L i fun n => match v, n with
  | .str s, .int _ i => 0 ≤ i ∧ ∃ c, s[i.toNat]? = some c ∧ k (.int .u8 c) L B m
  | _, _ => False
 | .extract x i => rd L x fun v L1 => match v with
  | .tuple vs => match vs[i]? with
   | some v => k v L1 B m
   | none => False
  | _ => False
 | .lend f sz x lo => rdC L x fun a => lendW sz L B m a fun xs => lo < xs.length ∧ ∃ zs, zs = xs.drop lo ∧ ∃ r, CallT true cf f [.sl false sz zs] [] r [] ∧ bif Nat.ble 1 sz && r.bare then k r L B m else False
 | .callP f args => rds L args fun vs L1 => bif vs.all TV.flatA then ∃ r, CallT true cf f vs [] r [] ∧ bif r.flatR then k r L1 B m else False else False
 | .callF f args => rds L args fun vs L1 => bif vs.all TV.okArg then ∃ r m', CallT q cf f vs m r m' ∧ mapK killMV L1 fun L' => k r L' B m' else False
 | .callV f args => rdC L f fun v => match v with
  | .func g cap => rds L args fun vs L1 => bif vs.all TV.okArg then cap.all TV.okArg = true ∧ ∃ r m', CallT q cf g (vs ++ cap) m r m' ∧ mapK killMV L1 fun L' => k r L' B m' else False
  | _ => False
 | .lenStr x => rdC L x fun a => match a with
  | .str s => k (.int .i64 s.length) L B m
  | _ => False
 | .lenSl x => rdC L x fun a => elemsW L B m a fun xs => ∃ n : Nat, n = xs.length ∧ k (.int .i64 n) L B m
 | .lenC n => k (.int .i64 n) L B m
 | .append sz x y => rd L x fun p L1 => rd L1 y fun q L2 => elemsZW sz L2 B m q fun ys => match p with
  | .nils => appW sz ys [] sz fun v => k v L2 B m
  | .sl true z xs => appW sz ys xs z fun v => k v L2 B m
  | .place (.tmp s) => match fnd L2 s with
   | some (.sl true z xs) => appW sz ys xs z fun v => k v ((s, .undef) :: L2) B m
   | some .nils => appW sz ys [] sz fun v => k v L2 B m
   | _ => False
  | .place (.mem b o) => match m[b]? with
   | some cs => match cs[o]? with
    | some (.sl true z xs) => appW sz ys xs z fun v => forceK (cs.set o .undef) fun c => forceK (m.set b c) fun m' => k v L2 B m'
    | some .nils => appW sz ys [] sz fun v => k v L2 B m
    | _ => False
   | none => False
  | .place (.loc j o) => match fnd B j with
   | some cs => match cs[o]? with
    | some (.sl true z xs) => appW sz ys xs z fun v => forceK (cs.set o .undef) fun c => k v L2 ((j, c) :: B) m
    | some .nils => appW sz ys [] sz fun v => k v L2 B m
    | _ => False
   | none => False
  | _ => False
 | .minMax mx x ys => rdC L x fun v => rdCs L ys fun vs => minMaxW mx v vs fun r => k r L B m
 | .mkFunc f captured => rdCs L captured fun vs => bif vs.all okCapT then k (.func f vs) L B m else False
def putW (o : AOper) (v : TV) (L : Ts) (k : Ts → Prop) : Prop :=
 match o.dst with
 | none => bif o.kt then (bif selfPlaceT none v then False else match v with
  | .undef => False
  | _ => k L) else k L
 | some d => bif o.kt then (bif selfPlaceT (some d) v then False else match v with
  | .undef => False
  | v => mapK (killTV d) L fun L' => k ((d, v) :: L')) else k ((d, v) :: L)
def skipW (o : AOper) (L : Ts) (k : Ts → Prop) : Prop :=
 match o.dst with
 | none => k L
 | some d => bif o.kt then mapK (killTV d) L fun L' => k ((d, .tuple []) :: L') else k ((d, .tuple []) :: L)
def wpOps (cf : CF) : List AOper → Ts → Bs → Ms → (Ts → Bs → Ms → Prop) → Prop
 | [], L, B, m, k => k L B m
 | o :: os, L, B, m, k => match o.guard with
  | none => wpOp false cf o.op L B m fun v L1 B1 m1 => putW o v L1 fun L2 => wpOps cf os L2 B1 m1 k
  | some (g, want) => match fnd L g with
   | some (.bool b) => bif b == want then wpOp false cf o.op L B m fun v L1 B1 m1 => putW o v L1 fun L2 => wpOps cf os L2 B1 m1 k
    else skipW o L fun L2 => wpOps cf os L2 B m k
   | some (.tuple []) => skipW o L fun L2 => wpOps cf os L2 B m k
   | _ => False
def rootsW (lean : Bool) (L : Ts) : List Nat → Bool
 | [] => true
 | s :: r => match fnd L s with
  | some v => rootOkT lean v && rootsW lean L r
  | none => false
def isStore (op : AOp) : Bool := match op with
 | .store _ _ _ => true
 | _ => false
def isQuiet (mk : Mark) : Bool := match mk with
 | .quiet => true
 | _ => false
def notLocT : TV → Bool
 | .loc _ _ => false
 | .undef => false
 | _ => true
def coolW (L : Ts) : List Nat → Bool
 | [] => true
 | s :: r => match fnd L s with
  | some v => notLocT v && coolW L r
  | none => false
def resOkT (o : AOper) (v : TV) : Bool := rootOkT o.lean v && (match o.mark with
 | .none => true
 | .quiet => notLocT v && (match v with
  | .place _ | .el _ _ _ _ => false
  | _ => true)
 | _ => notLocT v)
def quietA (op : AOp) (L : Ts) (k : Prop) : Prop :=
 match op with
 | .callP _ _ => k
 | .append _ (.u s .take) _ => match fnd L s with
  | some (.sl _ _ _) => k
  | some .nils => k
  | _ => False
 | _ => False
def markW (o : AOper) (L : Ts) (k : Prop) : Prop :=
 match o.mark with
 | .none => k
 | .cool => match o.op.ptr? with
  | none => bif coolW L (slots o.op.opds) then k else False
  | some _ => False
 | .quiet => bif o.op.isCall then k else quietA o.op L k
 | mk => match o.op.ptr? with
  | none => k
  | some p => rdC L p fun v => match v with
   | .loc i _ => bif mk == .loc i then k else False
   | .ptr _ _ => bif mk == .mem then k else False
   | .ro _ _ => bif mk == .free then k else False
   | _ => False
def doD (cf : CF) (o : AOper) (L : Ts) (B : Bs) (m : Ms) (k : Ts → Bs → Ms → Prop) : Prop :=
 bif rootsW o.lean L (slots o.op.opds) then wpOp (isQuiet o.mark) cf o.op L B m fun v L1 B1 m1 => bif isStore o.op || resOkT o v then markW o L (putW o v L1 fun L2 => k L2 B1 m1) else False else False
def wpD (cf : CF) : List AOper → Ts → Bs → Ms → (Ts → Bs → Ms → Prop) → Prop
 | [], L, B, m, k => k L B m
 | o :: os, L, B, m, k => match o.guard with
  | none => doD cf o L B m fun L2 B1 m1 => wpD cf os L2 B1 m1 k
  | some (g, want) => match fnd L g with
   | some (.bool b) => bif b == want then doD cf o L B m fun L2 B1 m1 => wpD cf os L2 B1 m1 k
    else skipW o L fun L2 => wpD cf os L2 B m k
   | some (.tuple []) => skipW o L fun L2 => wpD cf os L2 B m k
   | _ => False
def Ag (ρ : List Nat) (L : Ts) (σ : Nat → V) : Prop := ∀ s t, fnd L s = some t → Den ρ t (σ s)
def AgB (ρ : List Nat) (B : Bs) (l : Nat → List V) : Prop := ∀ s t, fnd B s = some t → Pw (Den ρ) t (l s)
structure Rel (ρ : List Nat) (L : Ts) (B : Bs) (M : Ms) (st : St) : Prop where
 a : Ag ρ L st.σ
 b : AgB ρ B st.l
 m : Mg ρ M st.m
structure WP (cf : CF) (c : ACode) (L : Ts) (B : Bs) (M : Ms) (Q : Ex → Ts → Bs → Ms → Prop) : Prop where
 go : ∀ ρ st, Rel ρ L B M st → ∃ e st', exec cf c st = some (e, st') ∧ ∃ ρ' L' B' M', Rel ρ' L' B' M' st' ∧ Fr ρ st.m ρ' st'.m ∧ Q e L' B' M'
end Go.Proofs.YtdlijnfdkeimlaaDoor.Am.T

namespace Go.Proofs.YtdlijnfdkeimlaaDoor.Am.T
open Go.Proofs.YtdlijnfdkeimlaaDoor.Am
theorem cV0_den (v : V) : Den0 (cV0 v) v := by
 unfold cV0
 split
 ·exact .bool _
 ·exact .int _ _
 ·exact .str _
 ·exact .undef _
theorem cVs_den : ∀ cs : List V, Pw Den0 (cs.map cV0) cs
 | [] => .nil
 | c :: cs => .cons (cV0_den c) (cVs_den cs)
theorem cVss_den : ∀ xs : List (List V), Pw (Pw Den0) (xs.map fun cs => cs.map cV0) xs
 | [] => .nil
 | c :: cs => .cons (cVs_den c) (cVss_den cs)
theorem cV_den {ρ : List Nat} (v : V) : Den ρ (cV v) v := by
 unfold cV
 split
 ·exact .base (.sl _ _ (cVss_den _))
 ·exact .base (.bool _)
 ·exact .base (.int _ _)
 ·exact .base (.str _)
 ·exact .base .nilp
 ·exact .base .nils
 ·exact .base (.func _)
 ·exact .base .nilf
 ·exact .base .nili
 ·exact .undef' _
theorem NilOk.den {ρ : List Nat} {t : TV} (h : NilOk t) : Den ρ t .nils := by
 cases h with
 | nils => exact .base .nils
 | sl o z => exact .base (.sln o z)
theorem cK_sound {ρ : List Nat} {v : V} {k : TV → Prop} (h : cK v k) : ∃ t, Den ρ t v ∧ k t := by
 unfold cK at h
 split at h
 ·obtain ⟨t, h1, h2⟩ := h; exact ⟨t, h1.den, h2⟩
 ·exact ⟨_, cV_den v, h⟩
theorem zeroK_sound {ρ : List Nat} : ∀ {z : List V} {k : List TV → Prop}, zeroK z k → ∃ ts, Pw (Den ρ) ts z ∧ k ts
 | [], k, h => ⟨[], .nil, h⟩
 | v :: z, k, h => by
  obtain ⟨t, h1, h2⟩ := cK_sound (ρ := ρ) h
  obtain ⟨ts, h3, h4⟩ := zeroK_sound h2
  exact ⟨t :: ts, .cons h1 h3, h4⟩
theorem forceK_iff {α : Type} : ∀ {l : List α} {k : List α → Prop}, forceK l k ↔ k l
 | [], _ => Iff.rfl
 | x :: r, k => by
  unfold forceK
  exact forceK_iff
theorem good0 {ρ : List Nat} {cs : List TV} {cs' : List V} (h : Pw (Den ρ) cs cs') (hg : cs.all TV.good = true) : Pw Den0 cs cs' ∧ cs'.all V.good = true := by
 induction h with
 | nil => exact ⟨.nil, rfl⟩
 | cons hr _ ih =>
  simp only [List.all_cons, Bool.and_eq_true] at hg
  obtain ⟨a, b⟩ := hr.good hg.1
  obtain ⟨c, d⟩ := ih hg.2
  exact ⟨.cons a c, by simp only [List.all_cons, b, d, Bool.and_self]⟩
theorem bifT {c : Bool} {p : Prop} (h : bif c then p else False) : c = true ∧ p := bif_inv h
theorem bifF {c : Bool} {p : Prop} (h : bif c then False else p) : c = false ∧ p := by
 cases c with
 | true => exact h.elim
 | false => exact ⟨rfl, h⟩
theorem mapK_iff {f : TV → TV} : ∀ {L : Ts} {k : Ts → Prop}, mapK f L k ↔ k (L.map fun p => (p.1, f p.2))
 | [], _ => Iff.rfl
 | (s, v) :: r, k => by
  unfold mapK
  rw [mapK_iff]; rfl
theorem fnd_map {f : TV → TV} : ∀ {L : Ts} {s : Nat}, fnd (L.map fun p => (p.1, f p.2)) s = (fnd L s).map f
 | [], _ => rfl
 | (k, v) :: r, s => by
  rw [List.map_cons, fnd_cons, fnd_cons, fnd_map]
  split <;> rfl
section
variable {ρ : List Nat} {L : Ts} {B : Bs} {M : Ms} {st : St}
theorem Ag.upd {σ : Nat → V} (h : Ag ρ L σ) (d : Nat) {t : TV} {v : V} (hv : Den ρ t v) : Ag ρ ((d, t) :: L) (Am.upd σ d v) := fun s x hx => by
 rw [fnd_cons] at hx
 unfold Am.upd
 split at hx
 ·rename_i e; rw [if_pos e]; cases hx; exact hv
 ·rename_i e; rw [if_neg e]; exact h s x hx
theorem AgB.upd {l : Nat → List V} (h : AgB ρ B l) (d : Nat) {t : List TV} {v : List V} (hv : Pw (Den ρ) t v) : AgB ρ ((d, t) :: B) (Am.upd l d v) := fun s x hx => by
 rw [fnd_cons] at hx
 unfold Am.upd
 split at hx
 ·rename_i e; rw [if_pos e]; cases hx; exact hv
 ·rename_i e; rw [if_neg e]; exact h s x hx
theorem Ag.map {σ : Nat → V} (h : Ag ρ L σ) {f : TV → TV} {g : V → V} (hf : ∀ t v, Den ρ t v → Den ρ (f t) (g v)) : Ag ρ (L.map fun p => (p.1, f p.2)) (fun i => g (σ i)) := fun s x hx => by
 rw [fnd_map, Option.map_eq_some_iff] at hx
 obtain ⟨y, hy, rfl⟩ := hx
 exact hf _ _ (h s y hy)
theorem Ag.mono {σ : Nat → V} (e : List Nat) (h : Ag ρ L σ) : Ag (ρ ++ e) L σ := fun s t ht => (h s t ht).mono e
theorem AgB.mono {l : Nat → List V} (e : List Nat) (h : AgB ρ B l) : AgB (ρ ++ e) B l := fun s t ht => (h s t ht).mono fun _ _ h => h.mono e
theorem Fr.refl (ρ : List Nat) (m : Am.Ms) : Fr ρ m ρ m := ⟨⟨[], by simp, by simp⟩, Nat.le_refl _, fun _ _ _ => rfl⟩
theorem Fr.trans {ρ ρ1 ρ2 : List Nat} {m m1 m2 : Am.Ms} (h : Fr ρ m ρ1 m1) (g : Fr ρ1 m1 ρ2 m2) : Fr ρ m ρ2 m2 := by
 obtain ⟨⟨e1, rfl, h1⟩, h2, h3⟩ := h
 obtain ⟨⟨e2, rfl, g1⟩, g2, g3⟩ := g
 refine ⟨⟨e1 ++ e2, by simp, fun b hb => ?_⟩, by omega, fun c hc hn => ?_⟩
 ·rcases List.mem_append.1 hb with hb | hb
  ·exact h1 b hb
  ·have := g1 b hb; omega
 ·rw [g3 c (by omega) (fun hh => ?_), h3 c hc hn]
  rcases List.mem_append.1 hh with hh | hh
  ·exact hn hh
  ·have := h1 c hh; omega
theorem Mg.lt {m : Am.Ms} (h : Mg ρ M m) {b : Nat} (hb : b ∈ ρ) : b < m.length := by
 obtain ⟨i, hi, rfl⟩ := List.getElem_of_mem hb
 obtain ⟨_, cs', _, h2, _⟩ := h.2.2 i ρ[i] (List.getElem?_eq_getElem hi)
 exact lt_of_get h2
theorem Mg.get {m : Am.Ms} (h : Mg ρ M m) {i b : Nat} (hi : ρ[i]? = some b) {cs : List TV} (hM : M[i]? = some cs) : ∃ cs', m[b]? = some cs' ∧ Pw (Den ρ) cs cs' := by
 obtain ⟨cs2, cs', h1, h2, h3⟩ := h.2.2 i b hi
 rw [hM] at h1; cases h1
 exact ⟨cs', h2, h3⟩
theorem Mg.has {m : Am.Ms} (h : Mg ρ M m) {i : Nat} {cs : List TV} (hM : M[i]? = some cs) : ∃ b cs', ρ[i]? = some b ∧ m[b]? = some cs' ∧ Pw (Den ρ) cs cs' := by
 have hi : i < ρ.length := by rw [h.2.1]; exact lt_of_get hM
 have e := List.getElem?_eq_getElem hi
 obtain ⟨cs', h1, h2⟩ := h.get e hM
 exact ⟨_, cs', e, h1, h2⟩
theorem nodup_inj (h : ρ.Nodup) {i j b : Nat} (hi : ρ[i]? = some b) (hj : ρ[j]? = some b) : i = j := by
 obtain ⟨h1, e1⟩ := List.getElem?_eq_some_iff.1 hi
 obtain ⟨h2, e2⟩ := List.getElem?_eq_some_iff.1 hj
 exact (List.getElem_inj (h₀ := h1) (h₁ := h2) h).1 (by rw [e1, e2])
theorem Mg.set {m : Am.Ms} (h : Mg ρ M m) {i b : Nat} (hi : ρ[i]? = some b) {cs : List TV} {cs' : List V} (hc : Pw (Den ρ) cs cs') : Mg ρ (M.set i cs) (m.set b cs') := by
 refine ⟨h.1, by rw [List.length_set]; exact h.2.1, fun j c hj => ?_⟩
 obtain ⟨x, y, h1, h2, h3⟩ := h.2.2 j c hj
 by_cases e : i = j
 ·subst e
  have : b = c := by rw [hi] at hj; exact Option.some.inj hj
  subst this
  exact ⟨cs, cs', List.getElem?_set_self (lt_of_get h1), List.getElem?_set_self (lt_of_get h2), hc⟩
 ·have hne : b ≠ c := fun hh => e (nodup_inj h.1 hi (by rw [hh]; exact hj))
  exact ⟨x, y, by rw [List.getElem?_set_ne e]; exact h1, by rw [List.getElem?_set_ne hne]; exact h2, h3⟩
theorem Fr.set {m : Am.Ms} {i b : Nat} (hi : ρ[i]? = some b) (cs' : List V) : Fr ρ m ρ (m.set b cs') :=
 ⟨⟨[], by simp, by simp⟩, by simp, fun c _ hn => by
  rw [List.getElem?_set_ne]
  rintro rfl
  exact hn (List.mem_of_getElem? hi)⟩
theorem Mg.alloc {m : Am.Ms} (h : Mg ρ M m) {cs : List TV} {cs' : List V} (hc : Pw (Den ρ) cs cs') : Mg (ρ ++ [m.length]) (M ++ [cs]) (m ++ [cs']) := by
 refine ⟨?_, by simp [h.2.1], fun j c hj => ?_⟩
 ·rw [List.nodup_append]
  refine ⟨h.1, by simp, fun a ha b hb => ?_⟩
  rw [List.mem_singleton.1 hb]
  exact Nat.ne_of_lt (h.lt ha)
 ·by_cases e : j < ρ.length
  ·rw [List.getElem?_append_left e] at hj
   obtain ⟨x, y, h1, h2, h3⟩ := h.2.2 j c hj
   exact ⟨x, y, by rw [List.getElem?_append_left (lt_of_get h1)]; exact h1, by rw [List.getElem?_append_left (lt_of_get h2)]; exact h2, h3.mono fun _ _ h => h.mono _⟩
  ·have hl := lt_of_get hj
   simp only [List.length_append, List.length_singleton] at hl
   have ej : j = ρ.length := by omega
   subst ej
   simp only [List.getElem?_concat_length, Option.some.injEq] at hj
   subst hj
   refine ⟨cs, cs', ?_, List.getElem?_concat_length .., hc.mono fun _ _ h => h.mono _⟩
   rw [h.2.1]; exact List.getElem?_concat_length ..
theorem Fr.alloc (ρ : List Nat) (m : Am.Ms) (cs' : List V) : Fr ρ m (ρ ++ [m.length]) (m ++ [cs']) :=
 ⟨⟨[m.length], rfl, fun b hb => by rw [List.mem_singleton.1 hb]; exact Nat.le_refl _⟩, by simp, fun c hc _ => List.getElem?_append_left hc⟩
theorem Rel.sig {σ : Nat → V} {L' : Ts} (h : Rel ρ L B M st) (ha : Ag ρ L' σ) : Rel ρ L' B M { st with σ := σ } := ⟨ha, h.b, h.m⟩
theorem rdV_inv {t : TV} {v : V} {k : TV → Prop} (hd : Den ρ t v) (h : rdV t k) : v.hasOwn = false ∧ k t := by
 have key : t.hasOwn = false ∧ k t := by
  unfold rdV rdP at h
  split at h
  ·exact h.elim
  ·exact h.elim
  ·obtain ⟨a, b⟩ := bifF h; exact ⟨a, b⟩
  ·obtain ⟨a, b⟩ := bifF h; exact ⟨a, b⟩
  ·rename_i h0 h1 h2 h3
   refine ⟨?_, h⟩
   cases t with
   | undef => exact (h0 rfl).elim
   | sl o z xs => cases o with
    | true => exact (h1 _ _ rfl).elim
    | false => rfl
   | agg cs => exact (h2 _ rfl).elim
   | tuple vs => exact (h3 _ rfl).elim
   | _ => rfl
 exact ⟨hd.hasOwn key.1, key.2⟩
theorem rdC_sound (h : Ag ρ L st.σ) {o : Opd} {k : TV → Prop} (hk : rdC L o k) : ∃ v t, getC st o = some v ∧ Den ρ t v ∧ k t := by
 unfold rdC at hk
 cases o with
 | c v => exact ⟨v, cV v, rfl, cV_den v, hk⟩
 | t s =>
  simp only at hk
  cases hs : fnd L s with
  | none => rw [hs] at hk; exact hk.elim
  | some t =>
   rw [hs] at hk
   have hd := h s t hs
   obtain ⟨h1, h2⟩ := rdV_inv hd hk
   refine ⟨st.σ s, t, ?_, hd, h2⟩
   simp [getC, h1]
 | u s how =>
  cases how with
  | peek => exact ⟨_, _, rfl, .place (.tmp s), hk⟩
  | _ => exact hk.elim
theorem rd_sound (h : Ag ρ L st.σ) {o : Opd} {k : TV → Ts → Prop} (hk : rd L o k) : ∃ v σ', getO st o = some (v, { st with σ := σ' }) ∧ ∃ t L', Den ρ t v ∧ Ag ρ L' σ' ∧ k t L' := by
 unfold rd at hk
 have copy : ∀ s, (match fnd L s with | some v => rdV v fun v => k v L | none => False) → (st.σ s).hasOwn = false ∧ ∃ t, Den ρ t (st.σ s) ∧ k t L := fun s hk => by
  cases hs : fnd L s with
  | none => rw [hs] at hk; exact hk.elim
  | some v =>
   rw [hs] at hk
   have hd := h s v hs
   obtain ⟨h1, h2⟩ := rdV_inv hd hk
   exact ⟨h1, v, hd, h2⟩
 have mv : ∀ (f : TV → TV) (g : V → V) s, (∀ t v, Den ρ t v → Den ρ (f t) (g v)) → (match fnd L s with | some v => k (f v) ((s, .undef) :: L) | none => False) → ∃ t, Den ρ t (g (st.σ s)) ∧ k t ((s, .undef) :: L) := fun f g s hf hk => by
  cases hs : fnd L s with
  | none => rw [hs] at hk; exact hk.elim
  | some v => rw [hs] at hk; exact ⟨f v, hf _ _ (h s v hs), hk⟩
 cases o with
 | c v =>
  obtain ⟨t, h1, h2⟩ := cK_sound hk
  exact ⟨v, st.σ, rfl, t, L, h1, h, h2⟩
 | t s =>
  obtain ⟨h1, t, h2, h3⟩ := copy s hk
  exact ⟨_, st.σ, by simp [getO, h1], t, L, h2, h, h3⟩
 | u s how =>
  cases how with
  | copy =>
   obtain ⟨h1, t, h2, h3⟩ := copy s hk
   exact ⟨_, st.σ, by simp [getO, h1], t, L, h2, h, h3⟩
  | take =>
   obtain ⟨t, h1, h2⟩ := mv id id s (fun _ _ h => h) hk
   exact ⟨_, _, rfl, t, _, h1, h.upd s (.undef' _), h2⟩
  | share =>
   obtain ⟨t, h1, h2⟩ := mv TV.share V.share s (fun _ _ h => h.share) hk
   exact ⟨_, _, rfl, t, _, h1, h.upd s (.undef' _), h2⟩
  | peek => exact ⟨_, st.σ, rfl, _, L, .place (.tmp s), h, hk⟩
theorem rds_sound : ∀ {xs : List Opd} {L : Ts} {st : St} (_ : Ag ρ L st.σ) {k : List TV → Ts → Prop} (_ : rds L xs k), ∃ vs σ', getOs st xs = some (vs, { st with σ := σ' }) ∧ ∃ ts L', Pw (Den ρ) ts vs ∧ Ag ρ L' σ' ∧ k ts L'
 | [], L, st, h, k, hk => ⟨[], st.σ, rfl, [], L, .nil, h, hk⟩
 | x :: xs, L, st, h, k, hk => by
  unfold rds at hk
  obtain ⟨v, σ1, e1, t, L1, hd, h1, hk1⟩ := rd_sound h hk
  obtain ⟨vs, σ2, e2, ts, L2, hd2, h2, hk2⟩ := rds_sound (st := { st with σ := σ1 }) (L := L1) h1 hk1
  exact ⟨v :: vs, σ2, by simp [getOs, e1, e2], t :: ts, L2, .cons hd hd2, h2, hk2⟩
theorem rdCs_sound (h : Ag ρ L st.σ) : ∀ {xs : List Opd} {k : List TV → Prop} (_ : rdCs L xs k), ∃ vs ts, getCs st xs = some vs ∧ Pw (Den ρ) ts vs ∧ k ts
 | [], k, hk => ⟨[], [], rfl, .nil, hk⟩
 | x :: xs, k, hk => by
  unfold rdCs at hk
  obtain ⟨v, t, e1, hd, hk1⟩ := rdC_sound h hk
  obtain ⟨vs, ts, e2, hd2, hk2⟩ := rdCs_sound h hk1
  exact ⟨v :: vs, t :: ts, by simp [getCs, e1, e2], .cons hd hd2, hk2⟩
theorem RootR.look (h : Rel ρ L B M st) {r r' : Root} (hr : RootR ρ r r') {k : TV → Prop} (hk : lookW L B M r k) : ∃ t, Den ρ t (look st r') ∧ k t := by
 unfold lookW at hk
 cases hr with
 | @mem i b o hi =>
  simp only at hk
  split at hk
  ·rename_i cs hcs
   split at hk
   ·rename_i v hv
    obtain ⟨cs', h1, h2⟩ := h.m.get hi hcs
    obtain ⟨v', h3, h4⟩ := h2.get hv
    refine ⟨v, ?_, hk⟩
    show Den ρ v ((st.m.getD b []).getD o .undef)
    rw [getD_of h1, getD_of h3]; exact h4
   ·exact hk.elim
  ·exact hk.elim
 | loc j o =>
  simp only at hk
  split at hk
  ·rename_i cs hcs
   split at hk
   ·rename_i v hv
    obtain ⟨v', h3, h4⟩ := (h.b j cs hcs).get hv
    refine ⟨v, ?_, hk⟩
    show Den ρ v ((st.l j).getD o .undef)
    rw [getD_of h3]; exact h4
   ·exact hk.elim
  ·exact hk.elim
 | tmp s =>
  simp only at hk
  split at hk
  ·rename_i v hv; exact ⟨v, h.a s v hv, hk⟩
  ·exact hk.elim
theorem elemsV_sound {t : TV} {v : V} (hd : Den ρ t v) {k : List (List TV) → Prop} (hk : elemsV t k) : ∃ xs, (v = .nils ∧ xs = [] ∨ ∃ o z, v = .slice o z xs) ∧ ∃ ys, Pw (Pw Den0) ys xs ∧ k ys := by
 unfold elemsV at hk
 cases t with
 | nils => rw [hd.nils_inv]; exact ⟨[], .inl ⟨rfl, rfl⟩, [], .nil, hk⟩
 | sl o z xs =>
  rcases hd.sl_inv with ⟨ys, rfl, h⟩ | ⟨rfl, rfl⟩
  ·exact ⟨ys, .inr ⟨_, _, rfl⟩, xs, h, hk⟩
  ·exact ⟨[], .inl ⟨rfl, rfl⟩, [], .nil, hk⟩
 | _ => exact hk.elim
theorem elemsW_sound (h : Rel ρ L B M st) {t : TV} {v : V} (hd : Den ρ t v) {k : List (List TV) → Prop} (hk : elemsW L B M t k) : ∃ xs, elems st v = some xs ∧ ∃ ys, Pw (Pw Den0) ys xs ∧ k ys := by
 unfold elemsW at hk
 cases t with
 | nils => rw [hd.nils_inv]; exact ⟨[], rfl, [], .nil, hk⟩
 | sl o z xs =>
  rcases hd.sl_inv with ⟨ys, rfl, h⟩ | ⟨rfl, rfl⟩
  ·exact ⟨ys, rfl, xs, h, hk⟩
  ·exact ⟨[], rfl, [], .nil, hk⟩
 | place r =>
  obtain ⟨r', rfl, hr⟩ := hd.place_inv
  obtain ⟨t, hd2, hk2⟩ := hr.look h hk
  obtain ⟨xs, hx, ys, h1, h2⟩ := elemsV_sound hd2 hk2
  refine ⟨xs, ?_, ys, h1, h2⟩
  unfold elems
  rcases hx with ⟨e, rfl⟩ | ⟨o, z, e⟩
  ·simp only [e]
  ·simp only [e]
 | _ => exact hk.elim
theorem by8_den : ∀ (s : List UInt8), Pw (Pw Den0) ((s.map byteI).map by8) (byteCells s)
 | [] => .nil
 | b :: s => .cons (.cons (.int .u8 _) .nil) (by8_den s)
theorem elemsZW_sound (h : Rel ρ L B M st) {sz : Nat} {t : TV} {v : V} (hd : Den ρ t v) {k : List (List TV) → Prop} (hk : elemsZW sz L B M t k) : ∃ xs, elemsZ sz st v = some xs ∧ ∃ ys, Pw (Pw Den0) ys xs ∧ k ys := by
 unfold elemsZW at hk
 cases t with
 | nils => rw [hd.nils_inv]; exact ⟨[], rfl, [], .nil, hk⟩
 | str s =>
  obtain ⟨e, hk⟩ := beq_inv hk
  obtain ⟨b, rfl, rfl⟩ := hd.str_inv
  exact ⟨_, by simp [elemsZ, e], _, by8_den b, hk⟩
 | sl o z xs =>
  obtain ⟨e, hk⟩ := beq_inv hk
  rcases hd.sl_inv with ⟨ys, rfl, h⟩ | ⟨rfl, rfl⟩
  ·exact ⟨ys, by simp [elemsZ, e], xs, h, hk⟩
  ·exact ⟨[], rfl, [], .nil, hk⟩
 | place r =>
  obtain ⟨r', rfl, hr⟩ := hd.place_inv
  obtain ⟨t, hd2, hk2⟩ := hr.look h hk
  unfold elemsZV at hk2
  unfold elemsZ
  cases t with
  | nils => exact ⟨[], by simp only [hd2.nils_inv], [], .nil, hk2⟩
  | sl o z xs =>
   obtain ⟨e, hk⟩ := beq_inv hk2
   rcases hd2.sl_inv with ⟨ys, e2, h⟩ | ⟨e2, rfl⟩
   ·exact ⟨ys, by simp only [e2, e, if_true], xs, h, hk⟩
   ·exact ⟨[], by simp only [e2], [], .nil, hk⟩
  | _ => exact hk2.elim
 | _ => exact hk.elim
theorem lendW_sound (h : Rel ρ L B M st) {sz : Nat} {t : TV} {v : V} (hd : Den ρ t v) {k : List (List TV) → Prop} (hk : lendW sz L B M t k) : ∃ xs, lendS sz st v = some xs ∧ ∃ ys, Pw (Pw Den0) ys xs ∧ k ys := by
 cases t with
 | str s => exact hk.elim
 | undef => exact hk.elim
 | nils => obtain ⟨xs, e, r⟩ := elemsZW_sound (sz := sz) h hd hk; rw [hd.nils_inv] at e ⊢; exact ⟨xs, e, r⟩
 | sl o z xs =>
  obtain ⟨ys, e, r⟩ := elemsZW_sound (sz := sz) h hd hk
  rcases hd.sl_inv with ⟨zs, rfl, _⟩ | ⟨rfl, _⟩ <;> exact ⟨ys, e, r⟩
 | place r =>
  obtain ⟨ys, e, q⟩ := elemsZW_sound (sz := sz) h hd hk
  obtain ⟨r', rfl, _⟩ := hd.place_inv
  exact ⟨ys, e, q⟩
 | _ => exact hk.elim
theorem bare_den {ρ : List Nat} {t : TV} {v : V} (hd : Den ρ t v) (hb : t.bare = true) : v.bare = true ∧ ∀ ρ', Den ρ' t v := by
 cases t with
 | int k n => cases hd with | base h => cases h; exact ⟨rfl, fun _ => .base (.int _ _)⟩
 | bool b => cases hd with | base h => cases h; exact ⟨rfl, fun _ => .base (.bool _)⟩
 | str s => cases hd with | base h => cases h; exact ⟨rfl, fun _ => .base (.str _)⟩
 | _ => cases hb
theorem setT_den {cs : List TV} {cs' : List V} (h : Pw (Den ρ) cs cs') (off : Nat) {vs : List TV} {vs' : List V} (g : Pw (Den ρ) vs vs') : Pw (Den ρ) (setT cs off vs) (setAt cs' off vs') := by
 unfold setT setAt
 rw [g.length]
 exact ((h.take _).append g).append (h.drop _)
theorem setT_den0 {cs : List TV} {cs' : List V} (h : Pw Den0 cs cs') (off : Nat) {vs : List TV} {vs' : List V} (g : Pw Den0 vs vs') : Pw Den0 (setT cs off vs) (setAt cs' off vs') := by
 unfold setT setAt
 rw [g.length]
 exact ((h.take _).append g).append (h.drop _)
theorem ble_le {a b : Nat} (h : Nat.ble a b = true) : a ≤ b := Nat.le_of_ble_eq_true h
theorem ldW_sound {mode : Use} {root root' : Root} (hr : RootR ρ root root') {agg : Bool} {n : Nat} {cs : List TV} {cs' : List V} (hc : Pw (Den ρ) cs cs') {off : Nat} {k : TV → Option (List TV) → Prop} (hk : ldW mode root agg n cs off k) :
  off + n ≤ cs'.length ∧ ∃ v t c, loadV mode root' agg ((cs'.drop off).take n) = some v ∧ Den ρ t v ∧ (mode.writes = true → ∃ d, c = some d ∧ Pw (Den ρ) d (setAt cs' off (leftV mode ((cs'.drop off).take n)))) ∧ (mode.writes = false → c = none) ∧ k t c := by
 unfold ldW at hk
 cases agg with
 | false =>
  obtain ⟨rfl, hk'⟩ := beq_inv hk
  clear hk
  have hk := hk'
  split at hk
  ·rename_i t ht
   obtain ⟨v, hv, hd⟩ := hc.get ht
   refine ⟨lt_of_get hv, ?_⟩
   rw [take1 hv]
   cases mode with
   | copy =>
    obtain ⟨h1, h2⟩ := bifF hk
    exact ⟨v, t, none, by simp [loadV, agg?, hd.own0 h1], hd, (fun hh => by cases hh), fun _ => rfl, h2⟩
   | take =>
    refine ⟨v, t, _, by simp [loadV, agg?], hd, fun _ => ⟨_, rfl, ?_⟩, (fun hh => by cases hh), (by have hk' := forceK_iff.1 hk; exact hk')⟩
    show Pw (Den ρ) _ (setAt cs' off [v.left])
    rw [setAt1 hv]; exact hc.set hd.left _
   | share =>
    refine ⟨v.share0, t.share0, _, by simp [loadV, agg?], hd.share0, fun _ => ⟨_, rfl, ?_⟩, (fun hh => by cases hh), (by have hk' := forceK_iff.1 hk; exact hk')⟩
    show Pw (Den ρ) _ (setAt cs' off [v.share0])
    rw [setAt1 hv]; exact hc.set hd.share0 _
   | peek => exact ⟨.place root', .place root, none, by simp [loadV], .place hr, (fun hh => by cases hh), fun _ => rfl, hk⟩
  ·exact hk.elim
 | true =>
  obtain ⟨hl, hk⟩ := bifT hk
  have hl := ble_le hl
  refine ⟨by rw [← hc.length]; exact hl, ?_⟩
  have hd : Pw (Den ρ) ((cs.drop off).take n) ((cs'.drop off).take n) := (hc.drop _).take _
  cases mode with
  | copy =>
   obtain ⟨h1, h2⟩ := bifF hk
   have h3 := Pw.any (p := TV.own0) (q := V.own0) (fun _ _ h ho => Den.own0 h ho) hd h1
   exact ⟨_, _, none, by simp only [loadV, h3, Bool.false_eq_true, if_false, agg?, if_true], .agg hd, (fun hh => by cases hh), fun _ => rfl, forceK_iff.1 h2⟩
  | take => exact ⟨_, _, _, rfl, .agg hd, fun _ => ⟨_, rfl, setT_den hc off (Pw.maps (f := TV.left) (g := V.left) (fun _ _ h => h.left) hd)⟩, (fun hh => by cases hh), (by have hk' := forceK_iff.1 hk; have hk2 := forceK_iff.1 hk'; exact hk2)⟩
  | share => exact ⟨_, _, _, rfl, .agg (Pw.maps (f := TV.share0) (g := V.share0) (fun _ _ h => h.share0) hd), fun _ => ⟨_, rfl, setT_den hc off (Pw.maps (f := TV.share0) (g := V.share0) (fun _ _ h => h.share0) hd)⟩, (fun hh => by cases hh), (by have hk' := forceK_iff.1 hk; have hk2 := forceK_iff.1 hk'; exact hk2)⟩
  | peek => exact hk.elim
theorem loadW_sound (h : Rel ρ L B M st) {agg : Bool} {n : Nat} {mode : Use} {a : TV} {a' : V} (ha : Den ρ a a') {k : TV → Bs → Ms → Prop} (hk : loadW agg n mode L B M a k) :
  ∃ v st', doLoad st agg n mode a' = some (v, st') ∧ ∃ t B' M', Den ρ t v ∧ Rel ρ L B' M' st' ∧ Fr ρ st.m ρ st'.m ∧ k t B' M' := by
 unfold loadW at hk
 cases a with
 | ptr i off =>
  obtain ⟨b, rfl, hi⟩ := ha.ptr_inv
  simp only at hk
  split at hk
  ·rename_i cs hcs
   obtain ⟨cs', h1, h2⟩ := h.m.get hi hcs
   obtain ⟨h3, v, t, c, e, hd, hw, hw2, hk⟩ := ldW_sound (.mem off hi) h2 hk
   have e1 := getD_of (d := []) h1
   simp only [doLoad, e1]
   rw [if_pos ⟨lt_of_get h1, h3⟩, e]
   refine ⟨v, _, rfl, t, ?_⟩
   cases hm : mode.writes with
   | true =>
    obtain ⟨d, rfl, hd2⟩ := hw hm
    exact ⟨B, M.set i d, hd, ⟨h.a, h.b, h.m.set hi hd2⟩, .set hi _, (by have hk' := forceK_iff.1 hk; exact hk')⟩
   | false =>
    rw [hw2 hm] at hk
    exact ⟨B, M, hd, h, .refl _ _, hk⟩
  ·exact hk.elim
 | loc j off =>
  rw [ha.loc_inv]
  have key : ∀ cs, fnd B j = some cs → mode ≠ .share → ldW mode (.loc j off) agg n cs off (fun v c => match c with | none => k v B M | some c => k v ((j, c) :: B) M) →
    ∃ v st', doLoad st agg n mode (.loc j off) = some (v, st') ∧ ∃ t B' M', Den ρ t v ∧ Rel ρ L B' M' st' ∧ Fr ρ st.m ρ st'.m ∧ k t B' M' := fun cs hj hm hk => by
   obtain ⟨h3, v, t, c, e, hd, hw, hw2, hk⟩ := ldW_sound (.loc j off) (h.b j cs hj) hk
   simp only [doLoad]
   rw [if_pos ⟨h3, hm⟩, e]
   refine ⟨v, _, rfl, t, ?_⟩
   cases hm : mode.writes with
   | true =>
    obtain ⟨d, rfl, hd2⟩ := hw hm
    exact ⟨(j, d) :: B, M, hd, ⟨h.a, h.b.upd j hd2, h.m⟩, .refl _ _, hk⟩
   | false =>
    rw [hw2 hm] at hk
    exact ⟨B, M, hd, h, .refl _ _, hk⟩
  cases hj : fnd B j with
  | none => simp only [hj] at hk; cases mode <;> exact hk.elim
  | some cs =>
   simp only [hj] at hk
   cases mode with
   | share => exact hk.elim
   | _ => exact key cs hj (by simp) hk
 | ro cs off =>
  obtain ⟨cs', rfl, hc⟩ := ha.ro_inv
  cases mode with
  | copy =>
   cases agg with
   | false =>
    obtain ⟨rfl, hk'⟩ := beq_inv hk
    clear hk
    have hk := hk'
    split at hk
    ·rename_i t ht
     obtain ⟨v, hv, hd⟩ := hc.get ht
     exact ⟨v, st, by simp only [doLoad]; rw [if_pos ⟨trivial, Nat.succ_le_of_lt (lt_of_get hv)⟩, take1 hv]; rfl, t, B, M, hd, h, .refl _ _, hk⟩
    ·exact hk.elim
   | true =>
    obtain ⟨hl, hk⟩ := bifT hk
    have hl := ble_le hl
    rw [hc.length] at hl
    exact ⟨_, st, by simp only [doLoad]; rw [if_pos ⟨trivial, hl⟩]; rfl, _, B, M, .agg ((hc.drop _).take _), h, .refl _ _, (by have hk' := forceK_iff.1 hk; exact hk')⟩
  | _ => exact hk.elim
 | el r z i o =>
  obtain ⟨r', rfl, hr⟩ := ha.el_inv
  cases mode with
  | copy =>
   obtain ⟨t, hd, hk⟩ := hr.look h hk
   simp only [doLoad]
   cases t with
   | sl own sz xs =>
    cases own with
    | false => exact hk.elim
    | true =>
     obtain ⟨rfl, cs, hcs, hk⟩ := beq_inv hk
     rcases hd.sl_inv with ⟨ys, e2, hxy⟩ | ⟨e2, rfl⟩
     ·obtain ⟨cs', hcs', hc⟩ := hxy.get hcs
      have e := getD_of (d := []) hcs'
      simp only [e2, e]
      cases agg with
      | false =>
       obtain ⟨rfl, hk'⟩ := beq_inv hk
       clear hk
       have hk := hk'
       split at hk
       ·rename_i t ht
        obtain ⟨v, hv, hd⟩ := hc.get ht
        exact ⟨v, st, by simp only [if_true]; rw [if_pos ⟨trivial, lt_of_get hcs', Nat.succ_le_of_lt (lt_of_get hv)⟩, take1 hv]; rfl, t, B, M, .base hd, h, .refl _ _, hk⟩
       ·exact hk.elim
      | true =>
       obtain ⟨hl, hk⟩ := bifT hk
       have hl := ble_le hl
       rw [hc.length] at hl
       exact ⟨_, st, by simp only [if_true]; rw [if_pos ⟨trivial, lt_of_get hcs', hl⟩]; rfl, _, B, M, .agg (((hc.drop _).take _).base), h, .refl _ _, (by have hk' := forceK_iff.1 hk; exact hk')⟩
     ·simp at hcs
   | _ => exact hk.elim
  | _ => exact hk.elim
 | _ => exact hk.elim
theorem mapK_sound {σ : Nat → V} (h : Ag ρ L σ) {f : TV → TV} {g : V → V} (hf : ∀ t v, Den ρ t v → Den ρ (f t) (g v)) {k : Ts → Prop} (hk : mapK f L k) : ∃ L', Ag ρ L' (fun i => g (σ i)) ∧ k L' := ⟨_, h.map hf, mapK_iff.1 hk⟩
theorem storeW_sound (h : Rel ρ L B M st) {n : Nat} {cells : List TV} {cells' : List V} (hcl : Pw (Den ρ) cells cells') {a : TV} {a' : V} (ha : Den ρ a a') {k : Ts → Bs → Ms → Prop} (hk : storeW n cells L B M a k) :
  ∃ st', doStore st n cells' a' = some st' ∧ ∃ L' B' M', Rel ρ L' B' M' st' ∧ Fr ρ st.m ρ st'.m ∧ k L' B' M' := by
 unfold storeW at hk
 have ok : cells.all TV.ok0 = true → cells'.all V.ok0 = true := fun hh => Pw.all (p := TV.ok0) (q := V.ok0) (fun _ _ h ho => Den.ok0 h ho) hcl hh
 cases a with
 | ptr i off =>
  obtain ⟨b, rfl, hi⟩ := ha.ptr_inv
  simp only at hk
  split at hk
  ·rename_i old hold
   obtain ⟨hb, hk⟩ := bifT hk
   simp only [Bool.and_eq_true] at hb
   obtain ⟨⟨⟨h1, h2⟩, h3⟩, h4⟩ := hb
   have h1 := ble_le h1
   have h2 := Nat.eq_of_beq_eq_true h2
   obtain ⟨old', ho1, ho2⟩ := h.m.get hi hold
   have e1 := getD_of (d := []) ho1
   obtain ⟨L', hL', hk⟩ := mapK_sound h.a (fun _ _ h => Den.killAtV off n h) hk
   simp only [doStore, e1]
   rw [if_pos ⟨lt_of_get ho1, by rw [← ho2.length]; exact h1, by rw [← hcl.length]; exact h2, ok h3, by rw [tops_low hcl h4]; omega⟩]
   exact ⟨_, rfl, L', B, _, ⟨hL', h.b, h.m.set hi (setT_den ho2 off hcl)⟩, .set hi _, (by have hk' := forceK_iff.1 hk; have hk2 := forceK_iff.1 hk'; exact hk2)⟩
  ·exact hk.elim
 | loc j off =>
  rw [ha.loc_inv]
  simp only at hk
  split at hk
  ·rename_i old hold
   obtain ⟨hb, hk⟩ := bifT hk
   simp only [Bool.and_eq_true] at hb
   obtain ⟨⟨h1, h2⟩, h3⟩ := hb
   have h1 := ble_le h1
   have h2 := Nat.eq_of_beq_eq_true h2
   have ho2 := h.b j old hold
   obtain ⟨L', hL', hk⟩ := mapK_sound h.a (fun _ _ h => Den.killLocV h) hk
   simp only [doStore]
   rw [if_pos ⟨by rw [← ho2.length]; exact h1, by rw [← hcl.length]; exact h2, ok h3⟩]
   exact ⟨_, rfl, L', _, M, ⟨hL', h.b.upd j (setT_den ho2 off hcl), h.m⟩, .refl _ _, (by have hk' := forceK_iff.1 hk; exact hk')⟩
  ·exact hk.elim
 | el r z i o =>
  obtain ⟨r', rfl, hr⟩ := ha.el_inv
  obtain ⟨hg, hk⟩ := bifT hk
  simp only [Bool.and_eq_true] at hg
  obtain ⟨hn, hg⟩ := hg
  have hn := Nat.eq_of_beq_eq_true hn
  obtain ⟨hc0, hg'⟩ := good0 hcl hg
  have hn' : cells'.length = n := by rw [← hcl.length]; exact hn
  simp only [doStore]
  rw [if_pos ⟨hn', hg'⟩]
  cases hr with
  | @mem q b off hi =>
   simp only at hk
   split at hk
   ·rename_i old hold
    split at hk
    ·rename_i sz xs hxs
     obtain ⟨rfl, cs, hcs, hk⟩ := beq_inv hk
     obtain ⟨hl, _, rfl, hk⟩ := bifT hk
     have hl := ble_le hl
     obtain ⟨old', ho1, ho2⟩ := h.m.get hi hold
     obtain ⟨v', hv1, hv2⟩ := ho2.get hxs
     have e1 := getD_of (d := []) ho1
     have e2 := getD_of (d := V.undef) hv1
     rcases hv2.sl_inv with ⟨ys, rfl, hxy⟩ | ⟨_, rfl⟩
     ·obtain ⟨cs', hcs', hc⟩ := hxy.get hcs
      have e3 := getD_of (d := []) hcs'
      simp only [look, e1, e2, e3]
      rw [if_pos ⟨trivial, lt_of_get hcs', by rw [← hc.length]; exact hl⟩]
      exact ⟨_, rfl, L, B, _, ⟨h.a, h.b, h.m.set hi (ho2.set (.base (.sl true _ (hxy.set (setT_den0 hc o hc0) i))) off)⟩, .set hi _, (by have hk' := forceK_iff.1 hk; have hk2 := forceK_iff.1 hk'; exact hk2)⟩
     ·simp at hcs
    ·exact hk.elim
   ·exact hk.elim
  | loc j q =>
   simp only at hk
   split at hk
   ·rename_i old hold
    split at hk
    ·rename_i sz xs hxs
     obtain ⟨rfl, cs, hcs, hk⟩ := beq_inv hk
     obtain ⟨hl, _, rfl, hk⟩ := bifT hk
     have hl := ble_le hl
     have ho2 := h.b j old hold
     obtain ⟨v', hv1, hv2⟩ := ho2.get hxs
     have e2 := getD_of (d := V.undef) hv1
     rcases hv2.sl_inv with ⟨ys, rfl, hxy⟩ | ⟨_, rfl⟩
     ·obtain ⟨cs', hcs', hc⟩ := hxy.get hcs
      have e3 := getD_of (d := []) hcs'
      simp only [look, e2, e3]
      rw [if_pos ⟨trivial, lt_of_get hcs', by rw [← hc.length]; exact hl⟩]
      exact ⟨_, rfl, L, _, M, ⟨h.a, h.b.upd j (ho2.set (.base (.sl true _ (hxy.set (setT_den0 hc o hc0) i))) q), h.m⟩, .refl _ _, (by have hk' := forceK_iff.1 hk; exact hk')⟩
     ·simp at hcs
    ·exact hk.elim
   ·exact hk.elim
  | tmp s =>
   simp only at hk
   split at hk
   ·rename_i sz xs hxs
    obtain ⟨rfl, cs, hcs, hk⟩ := beq_inv hk
    obtain ⟨hl, _, rfl, hk⟩ := bifT hk
    have hl := ble_le hl
    have hv2 := h.a s _ hxs
    rcases hv2.sl_inv with ⟨ys, e2, hxy⟩ | ⟨_, rfl⟩
    ·obtain ⟨cs', hcs', hc⟩ := hxy.get hcs
     have e3 := getD_of (d := []) hcs'
     simp only [look, e2, e3]
     rw [if_pos ⟨trivial, lt_of_get hcs', by rw [← hc.length]; exact hl⟩]
     exact ⟨_, rfl, _, B, M, ⟨h.a.upd s (.base (.sl true _ (hxy.set (setT_den0 hc o hc0) i))), h.b, h.m⟩, .refl _ _, hk⟩
    ·simp at hcs
   ·exact hk.elim
 | _ => exact hk.elim
theorem fillW_sound : ∀ {ps : List (Nat × Nat × Opd)} {L : Ts} {st : St} (_ : Ag ρ L st.σ) {cells : List TV} {cells' : List V} (_ : Pw (Den ρ) cells cells') {k : List TV → Ts → Prop} (_ : fillW L cells ps k), ∃ cs' σ', fillParts st cells' ps = some (cs', { st with σ := σ' }) ∧ ∃ cs L', Pw (Den ρ) cs cs' ∧ Ag ρ L' σ' ∧ k cs L'
 | [], L, st, h, cells, cells', hc, k, hk => ⟨cells', st.σ, rfl, cells, L, hc, h, hk⟩
 | (off, n, x) :: r, L, st, h, cells, cells', hc, k, hk => by
  unfold fillW at hk
  obtain ⟨v, σ1, e1, t, L1, hd, h1, hk⟩ := rd_sound h hk
  obtain ⟨hb, hk⟩ := bifT hk
  simp only [Bool.and_eq_true] at hb
  obtain ⟨⟨b1, b2⟩, b3⟩ := hb
  have hcd := hd.cells b3
  obtain ⟨cs, σ2, e2, cs2, L2, hd2, h2, hk2⟩ := fillW_sound (st := { st with σ := σ1 }) h1 (setT_den hc off hcd) (by have hk' := forceK_iff.1 hk; exact hk')
  refine ⟨cs, σ2, ?_, cs2, L2, hd2, h2, hk2⟩
  simp only [fillParts, e1, Option.bind_some]
  rw [if_pos ⟨by rw [← hcd.length]; exact Nat.eq_of_beq_eq_true b1, by rw [← hc.length]; exact ble_le b2, hd.ok1 b3⟩]; exact e2
theorem fillEW_sound {sz : Nat} : ∀ {ps : List (Nat × Opd)} {L : Ts} {st : St} (_ : Ag ρ L st.σ) {xs : List (List TV)} {xs' : List (List V)} (_ : Pw (Pw Den0) xs xs') {k : List (List TV) → Ts → Prop} (_ : fillEW L sz xs ps k), ∃ ys' σ', fillElems st sz xs' ps = some (ys', { st with σ := σ' }) ∧ ∃ ys L', Pw (Pw Den0) ys ys' ∧ Ag ρ L' σ' ∧ k ys L'
 | [], L, st, h, xs, xs', hx, k, hk => ⟨xs', st.σ, rfl, xs, L, hx, h, hk⟩
 | (i, x) :: r, L, st, h, xs, xs', hx, k, hk => by
  unfold fillEW at hk
  obtain ⟨v, σ1, e1, t, L1, hd, h1, hk⟩ := rd_sound h hk
  obtain ⟨hb, hk⟩ := bifT hk
  simp only [Bool.and_eq_true] at hb
  obtain ⟨⟨⟨b1, b2⟩, b3⟩, b4⟩ := hb
  have hcd := hd.cells b3
  obtain ⟨hc0, hg⟩ := good0 hcd b4
  obtain ⟨cs, σ2, e2, cs2, L2, hd2, h2, hk2⟩ := fillEW_sound (st := { st with σ := σ1 }) h1 (hx.set hc0 i) (by have hk' := forceK_iff.1 hk; exact hk')
  refine ⟨cs, σ2, ?_, cs2, L2, hd2, h2, hk2⟩
  simp only [fillElems, e1, Option.bind_some]
  have b2' : i < xs.length := ble_le b2
  rw [if_pos ⟨by rw [← hcd.length]; exact Nat.eq_of_beq_eq_true b1, by rw [← hx.length]; exact b2', hg⟩]; exact e2
theorem bndW_sound (h : Ag ρ L st.σ) {d : Nat} {o : Option Opd} {k : Nat → Prop} (hk : bndW L d o k) : ∃ n, getBound st d o = some n ∧ k n := by
 unfold bndW at hk
 cases o with
 | none => exact ⟨d, rfl, hk⟩
 | some x =>
  obtain ⟨v, t, e, hd, hk⟩ := rdC_sound h hk
  cases t with
  | int kd i => rw [hd.int_inv] at e; exact ⟨_, by simp [getBound, e, hk.1], hk.2⟩
  | _ => exact hk.elim
end
end Go.Proofs.YtdlijnfdkeimlaaDoor.Am.T
