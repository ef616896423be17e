/-
A part of the proof of a law: ly code a, ly shelf, ly code, ly good a, tw val.
-/
import Derived.Test.YtakdnfneikbjjaaGreatDoorAmLayoutCoversRow3
import Derived.Shelf.Strconv.ParseIntPublic10
import Derived.Ground.NamesProg
import Derived.Test.YtakdnfneikbjjaaGreatDoorProg
namespace Go.Proofs.YtakdnfneikbjjaaGreatDoor.Am.LayA
abbrev o_ (d : Nat) (x : AOp) : AOper := ⟨some d, none, false, x, .none⟩
def p11 : Plan := ⟨[], 3, [((9, 69), { mode := .take, mark := (.loc 1) }),
 ((9, 65), { uses := [(109, .share)], mark := .free, pure := true }),
 ((9, 60), { uses := [(104, .share)], mark := .free, pure := true }),
 ((9, 47), { mark := .free, pure := true }),
 ((9, 46), { mark := .free }),
 ((9, 44), { mark := .free }),
 ((9, 40), { mark := .free }),
 ((9, 38), { mark := .free }),
 ((9, 33), { mark := .free }),
 ((9, 28), { mark := .free, pure := true }),
 ((9, 27), { mark := .free }),
 ((9, 25), { mark := .free }),
 ((9, 20), { mark := .free, pure := true }),
 ((9, 19), { mark := .free }),
 ((9, 17), { mark := .free }),
 ((9, 12), { mark := .free, pure := true }),
 ((9, 11), { mark := .free }),
 ((9, 9), { mark := .free }),
 ((9, 4), { mark := .free }),
 ((7, 5), { mark := .free, pure := true }),
 ((7, 4), { uses := [(36, .take)], mark := .free }),
 ((7, 3), { uses := [(33, .share), (34, .share), (35, .share)], mark := .free }),
 ((7, 2), { mark := (.loc 2) }),
 ((7, 1), { mark := (.loc 2) }),
 ((7, 0), { mark := (.loc 2) }),
 ((5, 1), { mark := .free, pure := true }),
 ((5, 0), { mode := .take, mark := (.loc 1) }),
 ((1, 4), { box := some 0 }),
 ((1, 5), { uses := [(12, .share)] }),
 ((4, 3), { uses := [(25, .share)] }),
 ((4, 7), { box := some 1 }),
 ((4, 8), { uses := [(27, .take)] }),
 ((5, 2), { uses := [(29, .share)] }),
 ((5, 3), { uses := [(31, .share)] }),
 ((6, 1), { box := some 2 }),
 ((6, 2), { uses := [(32, .take)] }),
 ((7, 6), { uses := [(37, .share)] }),
 ((7, 7), { uses := [(39, .share)] }),
 ((8, 0), { mode := .take }),
 ((8, 1), { uses := [(41, .share)] }),
 ((9, 70), { uses := [(114, .share)] })],
 []⟩
def a11 : AFunc := ⟨0, 118, 3, [.tmp 0],
 .seq (.region false [o_ 0 (.mv (.c (.bool false)))])
 (.seq (.region false [o_ 11 (.callF 22 [(.c (.str [108, 97, 121, 111, 117, 116, 32, 123, 32, 99, 111, 108, 115, 32, 123, 32, 112, 97, 110, 101, 32, 115, 105, 122, 101, 61, 52, 59, 32, 114, 111, 119, 115, 32, 123, 32, 112, 97, 110, 101, 59, 32, 112, 97, 110, 101, 32, 125, 32, 125, 32, 125]))]),
 o_ 10 (.mv (.t 11)),
 o_ 12 (.extract (.t 10) 0),
 o_ 13 (.extract (.t 10) 1),
 o_ 2 (.allocL 0 [(.int .i64 0), (.int .i64 0)]),
 o_ 1 (.mv (.u 12 .share)),
 ⟨none, none, false, .store 2 (.t 2) (.t 13), .none⟩])
 (.seq (.seq (.region false [o_ 14 (.fieldAddr 0 (.t 2)),
 o_ 15 (.load false 1 (.t 14) .copy),
 o_ 16 (.bin .neq (.t 15) (.c (.int .i64 0))),
 o_ 17 (.mv (.t 16)),
 ⟨(some 18), (some (17, false)), false, .mv (.t 1), .none⟩,
 ⟨(some 19), (some (17, false)), false, .lenSl (.t 18), .none⟩,
 ⟨(some 20), (some (17, false)), false, .bin .neq (.t 19) (.c (.int .i64 1)), .none⟩,
 o_ 21 (.pick (.t 17) (.c (.bool true)) (.t 20))])
 (.cond (.t 21)
 (.seq (.region false [o_ 0 (.mv (.c (.bool false)))])
 (.ret))
 (.skip)))
 (.seq (.region false [o_ 23 (.mv (.t 1)),
 o_ 24 (.indexSl 4 (.t 23) (.c (.int .i64 0))),
 o_ 25 (.load true 4 (.t 24) .copy),
 o_ 26 (.callF 19 [(.u 25 .share)]),
 o_ 22 (.mv (.t 26)),
 o_ 27 (.extract (.t 22) 0),
 o_ 28 (.extract (.t 22) 1),
 o_ 3 (.allocL 1 [(.int .i64 0), (.int .i64 0), (.int .i64 0), (.str []), .nils, .nils]),
 ⟨none, none, false, .store 6 (.t 3) (.u 27 .take), .none⟩,
 o_ 4 (.mv (.t 28))])
 (.seq (.region true [⟨(some 29), none, false, .load true 6 (.t 3) .take, (.loc 1)⟩,
 ⟨(some 30), none, false, .callP 26 [(.c (.int .i64 0)), (.c (.int .i64 0)), (.c (.int .i64 10)), (.c (.int .i64 5))], .free⟩,
 o_ 31 (.callF 13 [(.u 29 .share), (.t 30)]),
 o_ 5 (.mv (.u 31 .share))])
 (.seq (.region false [o_ 32 (.build [(.int .i64 0), (.int .i64 0), (.int .i64 0), (.str []), .nils, .nils] [(0, 1, (.c (.int .i64 1)))]),
 o_ 6 (.allocL 2 [(.int .i64 0), (.int .i64 0), (.int .i64 0), (.str []), .nils, .nils]),
 ⟨none, none, false, .store 6 (.t 6) (.u 32 .take), .none⟩])
 (.seq (.region true [⟨(some 33), none, false, .load true 6 (.t 6) .copy, (.loc 2)⟩,
 ⟨(some 34), none, false, .load true 6 (.t 6) .copy, (.loc 2)⟩,
 ⟨(some 35), none, false, .load true 6 (.t 6) .copy, (.loc 2)⟩,
 ⟨(some 36), none, false, .buildSlice 6 [(.int .i64 0), (.int .i64 0), (.int .i64 0), (.str []), .nils, .nils] 3 [(0, (.u 33 .share)), (1, (.u 34 .share)), (2, (.u 35 .share))], .free⟩,
 ⟨(some 37), none, false, .build [(.int .i64 0), (.int .i64 0), (.int .i64 0), (.str []), .nils, .nils] [(0, 1, (.c (.int .i64 4))), (4, 1, (.u 36 .take))], .free⟩,
 ⟨(some 38), none, false, .callP 26 [(.c (.int .i64 0)), (.c (.int .i64 0)), (.c (.int .i64 9)), (.c (.int .i64 5))], .free⟩,
 o_ 39 (.callF 13 [(.u 37 .share), (.t 38)]),
 o_ 7 (.mv (.u 39 .share))])
 (.seq (.region false [o_ 41 (.load true 6 (.t 3) .take),
 o_ 42 (.callF 12 [(.u 41 .share)]),
 o_ 40 (.mv (.t 42)),
 o_ 43 (.extract (.t 40) 0),
 o_ 44 (.extract (.t 40) 1),
 o_ 8 (.mv (.t 43)),
 o_ 9 (.mv (.t 44))])
 (.seq (.region true [o_ 45 (.mv (.t 4)),
 o_ 46 (.bin .eql (.t 45) (.c (.int .i64 0))),
 o_ 47 (.mv (.t 46)),
 ⟨(some 48), (some (47, true)), false, .mv (.t 5), .none⟩,
 ⟨(some 49), (some (47, true)), false, .lenSl (.t 48), .free⟩,
 ⟨(some 50), (some (47, true)), false, .bin .eql (.t 49) (.c (.int .i64 3)), .none⟩,
 o_ 51 (.pick (.t 47) (.t 50) (.c (.bool false))),
 o_ 52 (.mv (.t 51)),
 ⟨(some 53), (some (52, true)), false, .mv (.t 5), .none⟩,
 ⟨(some 54), (some (52, true)), false, .indexSl 7 (.t 53) (.c (.int .i64 0)), .free⟩,
 ⟨(some 55), (some (52, true)), false, .fieldAddr 1 (.t 54), .none⟩,
 ⟨(some 56), (some (52, true)), false, .load true 4 (.t 55) .copy, .free⟩,
 ⟨(some 57), (some (52, true)), false, .callP 26 [(.c (.int .i64 0)), (.c (.int .i64 0)), (.c (.int .i64 4)), (.c (.int .i64 5))], .free⟩,
 ⟨(some 58), (some (52, true)), false, .eq false (.plain [.int, .int, .int, .int]) (.t 56) (.t 57), .none⟩,
 o_ 59 (.pick (.t 52) (.t 58) (.c (.bool false))),
 o_ 60 (.mv (.t 59)),
 ⟨(some 61), (some (60, true)), false, .mv (.t 5), .none⟩,
 ⟨(some 62), (some (60, true)), false, .indexSl 7 (.t 61) (.c (.int .i64 1)), .free⟩,
 ⟨(some 63), (some (60, true)), false, .fieldAddr 1 (.t 62), .none⟩,
 ⟨(some 64), (some (60, true)), false, .load true 4 (.t 63) .copy, .free⟩,
 ⟨(some 65), (some (60, true)), false, .callP 26 [(.c (.int .i64 4)), (.c (.int .i64 0)), (.c (.int .i64 6)), (.c (.int .i64 3))], .free⟩,
 ⟨(some 66), (some (60, true)), false, .eq false (.plain [.int, .int, .int, .int]) (.t 64) (.t 65), .none⟩,
 o_ 67 (.pick (.t 60) (.t 66) (.c (.bool false))),
 o_ 68 (.mv (.t 67)),
 ⟨(some 69), (some (68, true)), false, .mv (.t 5), .none⟩,
 ⟨(some 70), (some (68, true)), false, .indexSl 7 (.t 69) (.c (.int .i64 2)), .free⟩,
 ⟨(some 71), (some (68, true)), false, .fieldAddr 1 (.t 70), .none⟩,
 ⟨(some 72), (some (68, true)), false, .load true 4 (.t 71) .copy, .free⟩,
 ⟨(some 73), (some (68, true)), false, .callP 26 [(.c (.int .i64 4)), (.c (.int .i64 3)), (.c (.int .i64 6)), (.c (.int .i64 2))], .free⟩,
 ⟨(some 74), (some (68, true)), false, .eq false (.plain [.int, .int, .int, .int]) (.t 72) (.t 73), .none⟩,
 o_ 75 (.pick (.t 68) (.t 74) (.c (.bool false))),
 o_ 76 (.mv (.t 75)),
 ⟨(some 77), (some (76, true)), false, .mv (.t 7), .none⟩,
 ⟨(some 78), (some (76, true)), false, .lenSl (.t 77), .free⟩,
 ⟨(some 79), (some (76, true)), false, .bin .eql (.t 78) (.c (.int .i64 3)), .none⟩,
 o_ 80 (.pick (.t 76) (.t 79) (.c (.bool false))),
 o_ 81 (.mv (.t 80)),
 ⟨(some 82), (some (81, true)), false, .mv (.t 7), .none⟩,
 ⟨(some 83), (some (81, true)), false, .indexSl 7 (.t 82) (.c (.int .i64 1)), .free⟩,
 ⟨(some 84), (some (81, true)), false, .fieldAddr 6 (.t 83), .none⟩,
 ⟨(some 85), (some (81, true)), false, .load false 1 (.t 84) .copy, .free⟩,
 o_ 86 (.pick (.t 81) (.t 85) (.c (.bool false))),
 o_ 87 (.mv (.t 86)),
 ⟨(some 88), (some (87, true)), false, .mv (.t 7), .none⟩,
 ⟨(some 89), (some (87, true)), false, .indexSl 7 (.t 88) (.c (.int .i64 2)), .free⟩,
 ⟨(some 90), (some (87, true)), false, .fieldAddr 1 (.t 89), .none⟩,
 ⟨(some 91), (some (87, true)), false, .load true 4 (.t 90) .copy, .free⟩,
 ⟨(some 92), (some (87, true)), false, .callP 26 [(.c (.int .i64 0)), (.c (.int .i64 2)), (.c (.int .i64 9)), (.c (.int .i64 3))], .free⟩,
 ⟨(some 93), (some (87, true)), false, .eq false (.plain [.int, .int, .int, .int]) (.t 91) (.t 92), .none⟩,
 o_ 94 (.pick (.t 87) (.t 93) (.c (.bool false))),
 o_ 95 (.mv (.t 94)),
 ⟨(some 96), (some (95, true)), false, .mv (.t 8), .none⟩,
 ⟨(some 97), (some (95, true)), false, .bin .eql (.t 96) (.c (.int .i64 3)), .none⟩,
 o_ 98 (.pick (.t 95) (.t 97) (.c (.bool false))),
 o_ 99 (.mv (.t 98)),
 ⟨(some 100), (some (99, true)), false, .mv (.t 9), .none⟩,
 ⟨(some 101), (some (99, true)), false, .bin .eql (.t 100) (.c (.int .i64 0)), .none⟩,
 o_ 102 (.pick (.t 99) (.t 101) (.c (.bool false))),
 o_ 103 (.mv (.t 102)),
 ⟨(some 104), (some (103, true)), false, .mv (.t 5), .none⟩,
 ⟨(some 105), (some (103, true)), false, .callP 23 [(.u 104 .share), (.c (.int .i64 5)), (.c (.int .i64 4))], .free⟩,
 ⟨(some 106), (some (103, true)), false, .bin .eql (.t 105) (.c (.int .i64 2)), .none⟩,
 o_ 107 (.pick (.t 103) (.t 106) (.c (.bool false))),
 o_ 108 (.mv (.t 107)),
 ⟨(some 109), (some (108, true)), false, .mv (.t 5), .none⟩,
 ⟨(some 110), (some (108, true)), false, .callP 23 [(.u 109 .share), (.c (.int .i64 50)), (.c (.int .i64 4))], .free⟩,
 ⟨(some 111), (some (108, true)), false, .bin .eql (.t 110) (.c (.int .i64 (-1))), .none⟩,
 o_ 112 (.pick (.t 108) (.t 111) (.c (.bool false))),
 o_ 113 (.mv (.t 112)),
 ⟨(some 114), (some (113, true)), false, .load true 6 (.t 3) .take, (.loc 1)⟩,
 ⟨(some 115), (some (113, true)), false, .callF 15 [(.u 114 .share)], .none⟩,
 ⟨(some 116), (some (113, true)), false, .bin .eql (.t 115) (.c (.int .i64 0)), .none⟩,
 o_ 117 (.pick (.t 113) (.t 116) (.c (.bool false))),
 o_ 0 (.mv (.t 117))])
 (.ret)))))))))⟩
theorem c11 : zap Go.Proofs.Tryz.prog p11 11 = some a11 := by decide +kernel
def p12 : Plan := ⟨[], 1, [((0, 0), { box := some 0 }),
 ((1, 1), { uses := [(5, .share)] }),
 ((4, 1), { uses := [(8, .share)] })],
 []⟩
def a12 : AFunc := ⟨1, 14, 1, [.tmp 2, .tmp 3],
 .seq (.region false [o_ 1 (.boxL 0 (.t 0)),
 o_ 2 (.mv (.c (.int .i64 0))),
 o_ 3 (.mv (.c (.int .i64 0)))])
 (.seq (.seq (.region false [o_ 5 (.load true 6 (.t 1) .copy),
 o_ 6 (.callF 15 [(.u 5 .share)]),
 o_ 7 (.bin .neq (.t 6) (.c (.int .i64 0)))])
 (.cond (.t 7)
 (.seq (.region false [o_ 2 (.mv (.c (.int .i64 0))),
 o_ 3 (.mv (.c (.int .i64 0)))])
 (.ret))
 (.skip)))
 (.seq (.region false [o_ 4 (.allocM [(.int .i64 0)]),
 ⟨none, none, false, .store 1 (.t 4) (.c (.int .i64 0)), .none⟩])
 (.seq (.region false [o_ 8 (.load true 6 (.t 1) .copy),
 o_ 9 (.callF 34 [(.u 8 .share), (.c (.int .i64 1)), (.t 4)])])
 (.seq (.region true [o_ 10 (.load false 1 (.t 4) .copy),
 o_ 11 (.fieldAddr 5 (.t 1)),
 o_ 12 (.load false 1 (.t 11) .copy),
 o_ 13 (.lenSl (.t 12)),
 o_ 2 (.mv (.t 10)),
 o_ 3 (.mv (.t 13))])
 (.ret)))))⟩
theorem c12 : zap Go.Proofs.Tryz.prog p12 12 = some a12 := by decide +kernel
def p13 : Plan := ⟨[], 3, [((9, 8), { mark := .free, pure := true }),
 ((9, 7), { mark := (.loc 1) }),
 ((9, 6), { mark := .free, pure := true }),
 ((9, 5), { mark := (.loc 1) }),
 ((9, 3), { mark := (.loc 1) }),
 ((9, 1), { mark := (.loc 2) }),
 ((0, 0), { box := some 0 }),
 ((0, 1), { box := some 1 }),
 ((1, 1), { uses := [(8, .share)] }),
 ((3, 1), { pure := true }),
 ((4, 1), { uses := [(13, .take)] }),
 ((5, 3), { uses := [(16, .share)] }),
 ((8, 3), { box := some 2 }),
 ((11, 3), { mode := .take }),
 ((11, 4), { uses := [(43, .take)] })],
 [[3, 5, 20, 21, 22]]⟩
def a13 : AFunc := ⟨2, 44, 3, [.tmp 4],
 .seq (.region false [o_ 2 (.boxL 0 (.t 0)),
 o_ 3 (.boxL 1 (.t 1)),
 o_ 4 (.mv (.c .nils))])
 (.seq (.seq (.region false [o_ 8 (.load true 6 (.t 2) .copy),
 o_ 9 (.callF 15 [(.u 8 .share)]),
 o_ 10 (.bin .neq (.t 9) (.c (.int .i64 0)))])
 (.cond (.t 10)
 (.seq (.region false [o_ 4 (.mv (.c .nils))])
 (.ret))
 (.skip)))
 (.seq (.region false [o_ 11 (.load true 4 (.t 3) .copy),
 o_ 12 (.callP 25 [(.t 11)]),
 ⟨none, none, false, .store 4 (.t 3) (.t 12), .none⟩])
 (.seq (.region false [o_ 13 (.build [.nils] []),
 o_ 14 (.boxM (.u 13 .take)),
 o_ 5 (.mv (.t 14))])
 (.seq (.region false [o_ 15 (.mv (.t 5)),
 o_ 16 (.load true 6 (.t 2) .copy),
 o_ 17 (.load true 4 (.t 3) .copy),
 o_ 18 (.callF 35 [(.t 15), (.u 16 .share), (.t 17)])])
 (.seq (.seq (.region false [o_ 19 (.fieldAddr 5 (.t 2)),
 o_ 20 (.load false 1 (.t 19) .copy),
 o_ 21 (.lenSl (.t 20)),
 o_ 22 (.mv (.c (.int .i64 0)))])
 (.block 0 (.loop [3, 5, 20, 21, 22] (.seq (.region false [o_ 23 (.bin .lss (.t 22) (.t 21))])
 (.seq (.cond (.t 23)
 (.skip)
 (.exit 0))
 (.seq (.block 1 (.seq (.region false [o_ 24 (.mv (.t 22)),
 o_ 25 (.indexSl 4 (.t 20) (.t 22)),
 o_ 26 (.load true 4 (.t 25) .copy),
 o_ 7 (.allocL 2 [(.int .i64 0), (.int .i64 0), (.int .i64 0), (.int .i64 0)]),
 o_ 6 (.mv (.t 24)),
 ⟨none, none, false, .store 4 (.t 7) (.t 26), .none⟩])
 (.region true [o_ 27 (.mv (.t 5)),
 ⟨(some 28), none, false, .load true 4 (.t 7) .copy, (.loc 2)⟩,
 o_ 29 (.fieldAddr 0 (.t 3)),
 ⟨(some 30), none, false, .load false 1 (.t 29) .copy, (.loc 1)⟩,
 o_ 31 (.fieldAddr 1 (.t 3)),
 ⟨(some 32), none, false, .load false 1 (.t 31) .copy, (.loc 1)⟩,
 ⟨(some 33), none, false, .callP 28 [(.t 28), (.t 30), (.t 32)], .free⟩,
 ⟨(some 34), none, false, .load true 4 (.t 3) .copy, (.loc 1)⟩,
 ⟨(some 35), none, false, .callP 37 [(.t 33), (.t 34)], .free⟩,
 o_ 36 (.mv (.t 6)),
 o_ 37 (.bin .add (.t 36) (.c (.int .i64 1))),
 o_ 38 (.callF 36 [(.t 27), (.t 35), (.t 37), (.c (.bool false))])])))
 (.region false [o_ 39 (.bin .add (.t 22) (.c (.int .i64 1))),
 o_ 22 (.mv (.t 39))])))))))
 (.seq (.region false [o_ 40 (.mv (.t 5)),
 o_ 41 (.nilCheck (.t 40)),
 o_ 42 (.fieldAddr 0 (.t 41)),
 o_ 43 (.load false 1 (.t 42) .take),
 o_ 4 (.mv (.u 43 .take))])
 (.ret)))))))⟩
theorem c13 : zap Go.Proofs.Tryz.prog p13 13 = some a13 := by decide +kernel
def p15 : Plan := ⟨[], 1, [((0, 0), { box := some 0 }),
 ((2, 1), { uses := [(4, .share)] })],
 []⟩
def a15 : AFunc := ⟨1, 15, 1, [.tmp 2],
 .seq (.region false [o_ 1 (.boxL 0 (.t 0)),
 o_ 2 (.mv (.c (.int .i64 0)))])
 (.seq (.region false [o_ 3 (.allocM [(.int .i64 0)]),
 ⟨none, none, false, .store 1 (.t 3) (.c (.int .i64 0)), .none⟩])
 (.seq (.seq (.region false [o_ 4 (.load true 6 (.t 1) .copy),
 o_ 5 (.callF 34 [(.u 4 .share), (.c (.int .i64 1)), (.t 3)]),
 o_ 6 (.un .not (.t 5)),
 o_ 7 (.mv (.t 6)),
 ⟨(some 8), (some (7, false)), false, .fieldAddr 5 (.t 1), .none⟩,
 ⟨(some 9), (some (7, false)), false, .load false 1 (.t 8) .copy, .none⟩,
 ⟨(some 10), (some (7, false)), false, .lenSl (.t 9), .none⟩,
 ⟨(some 11), (some (7, false)), false, .load false 1 (.t 3) .copy, .none⟩,
 ⟨(some 12), (some (7, false)), false, .bin .sub (.c (.int .i64 24)) (.t 11), .none⟩,
 ⟨(some 13), (some (7, false)), false, .bin .gtr (.t 10) (.t 12), .none⟩,
 o_ 14 (.pick (.t 7) (.c (.bool true)) (.t 13))])
 (.cond (.t 14)
 (.seq (.region false [o_ 2 (.mv (.c (.int .i64 100)))])
 (.ret))
 (.skip)))
 (.seq (.region false [o_ 2 (.mv (.c (.int .i64 0)))])
 (.ret))))⟩
theorem c15 : zap Go.Proofs.Tryz.prog p15 15 = some a15 := by decide +kernel
def p19 : Plan := ⟨[], 5, [((10, 11), { mark := .free }),
 ((10, 10), { mark := .free, pure := true }),
 ((10, 9), { mark := .free }),
 ((10, 7), { mark := (.loc 3) }),
 ((10, 5), { mark := (.loc 3) }),
 ((10, 3), { mark := (.loc 3) }),
 ((10, 1), { mark := (.loc 3) }),
 ((0, 0), { box := some 0 }),
 ((0, 1), { box := some 1 }),
 ((2, 1), { uses := [(20, .take)] }),
 ((3, 1), { box := some 2 }),
 ((3, 2), { uses := [(21, .take)] }),
 ((8, 2), { box := some 3 }),
 ((8, 3), { uses := [(28, .take)] }),
 ((10, 0), { uses := [(5, .take)] }),
 ((10, 2), { uses := [(33, .share)] }),
 ((10, 4), { uses := [(35, .share)] }),
 ((10, 6), { uses := [(37, .share)] }),
 ((10, 8), { uses := [(39, .share)] }),
 ((10, 12), { uses := [(32, .take), (43, .take)] }),
 ((10, 13), { uses := [(44, .take)] }),
 ((11, 0), { mode := .take }),
 ((11, 1), { uses := [(46, .share)] }),
 ((11, 5), { box := some 4 }),
 ((11, 6), { uses := [(48, .take)] }),
 ((13, 1), { uses := [(52, .take)] }),
 ((14, 1), { mode := .take }),
 ((14, 2), { mode := .take }),
 ((14, 3), { uses := [(55, .share)] }),
 ((14, 4), { uses := [(54, .take), (56, .take)] }),
 ((14, 6), { uses := [(57, .take)] }),
 ((16, 1), { mode := .peek }),
 ((17, 1), { mode := .peek }),
 ((17, 4), { uses := [(67, .take)] }),
 ((18, 0), { uses := [(5, .take)] }),
 ((18, 2), { uses := [(68, .share)] }),
 ((19, 0), { mode := .take }),
 ((19, 1), { uses := [(70, .share)] }),
 ((20, 1), { uses := [(73, .take)] }),
 ((21, 0), { mode := .take }),
 ((21, 1), { uses := [(74, .take)] })],
 [[2, 4, 5, 6, 23, 24, 25]]⟩
def a19 : AFunc := ⟨1, 75, 5, [.cell 2 true 6, .tmp 3],
 .seq (.region false [o_ 1 (.boxL 0 (.t 0)),
 o_ 2 (.allocL 1 [(.int .i64 0), (.int .i64 0), (.int .i64 0), (.str []), .nils, .nils]),
 o_ 3 (.mv (.c (.int .i64 0)))])
 (.seq (.seq (.region false [o_ 11 (.fieldAddr 0 (.t 1)),
 o_ 12 (.load false 1 (.t 11) .copy),
 o_ 13 (.bin .neq (.t 12) (.c (.str [108, 97, 121, 111, 117, 116]))),
 o_ 14 (.mv (.t 13)),
 ⟨(some 15), (some (14, false)), false, .fieldAddr 3 (.t 1), .none⟩,
 ⟨(some 16), (some (14, false)), false, .load false 1 (.t 15) .copy, .none⟩,
 ⟨(some 17), (some (14, false)), false, .lenSl (.t 16), .none⟩,
 ⟨(some 18), (some (14, false)), false, .bin .gtr (.t 17) (.c (.int .i64 40)), .none⟩,
 o_ 19 (.pick (.t 14) (.c (.bool true)) (.t 18))])
 (.cond (.t 19)
 (.seq (.region false [o_ 20 (.build [(.int .i64 0), (.int .i64 0), (.int .i64 0), (.str []), .nils, .nils] []),
 ⟨none, none, false, .store 6 (.t 2) (.u 20 .take), .none⟩,
 o_ 3 (.mv (.c (.int .i64 100)))])
 (.ret))
 (.skip)))
 (.seq (.region false [o_ 21 (.build [(.int .i64 0), (.int .i64 0), (.int .i64 0), (.str []), .nils, .nils] [(0, 1, (.c (.int .i64 3)))]),
 o_ 4 (.allocL 2 [(.int .i64 0), (.int .i64 0), (.int .i64 0), (.str []), .nils, .nils]),
 ⟨none, none, false, .store 6 (.t 4) (.u 21 .take), .none⟩])
 (.seq (.region false [o_ 5 (.mv (.c .nils))])
 (.seq (.region false [o_ 6 (.allocM [(.int .i64 0)]),
 ⟨none, none, false, .store 1 (.t 6) (.c (.int .i64 0)), .none⟩])
 (.seq (.seq (.region false [o_ 22 (.fieldAddr 3 (.t 1)),
 o_ 23 (.load false 1 (.t 22) .copy),
 o_ 24 (.lenSl (.t 23)),
 o_ 25 (.mv (.c (.int .i64 0)))])
 (.block 0 (.loop [2, 4, 5, 6, 23, 24, 25] (.seq (.region false [o_ 26 (.bin .lss (.t 25) (.t 24))])
 (.seq (.cond (.t 26)
 (.skip)
 (.exit 0))
 (.seq (.block 1 (.seq (.region false [o_ 27 (.indexSl 4 (.t 23) (.t 25)),
 o_ 28 (.load true 4 (.t 27) .copy),
 o_ 8 (.allocL 3 [(.str []), .nils, .nils, .nils]),
 ⟨none, none, false, .store 4 (.t 8) (.u 28 .take), .none⟩])
 (.seq (.seq (.region false [o_ 29 (.fieldAddr 0 (.t 8)),
 o_ 30 (.load false 1 (.t 29) .copy),
 o_ 31 (.bin .eql (.t 30) (.c (.str [102, 108, 111, 97, 116])))])
 (.cond (.t 31)
 (.seq (.region true [o_ 32 (.mv (.u 5 .take)),
 ⟨(some 33), none, false, .load true 4 (.t 8) .copy, (.loc 3)⟩,
 o_ 34 (.callF 44 [(.u 33 .share), (.c (.str [120]))]),
 ⟨(some 35), none, false, .load true 4 (.t 8) .copy, (.loc 3)⟩,
 o_ 36 (.callF 44 [(.u 35 .share), (.c (.str [121]))]),
 ⟨(some 37), none, false, .load true 4 (.t 8) .copy, (.loc 3)⟩,
 o_ 38 (.callF 44 [(.u 37 .share), (.c (.str [119]))]),
 ⟨(some 39), none, false, .load true 4 (.t 8) .copy, (.loc 3)⟩,
 o_ 40 (.callF 44 [(.u 39 .share), (.c (.str [104]))]),
 ⟨(some 41), none, false, .build [(.int .i64 0), (.int .i64 0), (.int .i64 0), (.int .i64 0)] [(0, 1, (.t 34)), (1, 1, (.t 36)), (2, 1, (.t 38)), (3, 1, (.t 40))], .free⟩,
 ⟨(some 42), none, false, .callP 25 [(.t 41)], .free⟩,
 ⟨(some 43), none, false, .buildSlice 4 [(.int .i64 0), (.int .i64 0), (.int .i64 0), (.int .i64 0)] 1 [(0, (.t 42))], .free⟩,
 o_ 44 (.append 4 (.u 32 .take) (.u 43 .take)),
 o_ 5 (.mv (.u 44 .take))])
 (.exit 1))
 (.skip)))
 (.seq (.region false [o_ 46 (.load true 4 (.t 8) .take),
 o_ 47 (.callF 45 [(.u 46 .share), (.c (.int .i64 1)), (.t 6)]),
 o_ 45 (.mv (.t 47)),
 o_ 48 (.extract (.t 45) 0),
 o_ 49 (.extract (.t 45) 1),
 o_ 9 (.allocL 4 [(.int .i64 0), (.int .i64 0), (.int .i64 0), (.str []), .nils, .nils]),
 ⟨none, none, false, .store 6 (.t 9) (.u 48 .take), .none⟩,
 o_ 10 (.mv (.t 49))])
 (.seq (.seq (.region false [o_ 50 (.mv (.t 10)),
 o_ 51 (.un .not (.t 50))])
 (.cond (.t 51)
 (.seq (.region false [o_ 52 (.build [(.int .i64 0), (.int .i64 0), (.int .i64 0), (.str []), .nils, .nils] []),
 ⟨none, none, false, .store 6 (.t 2) (.u 52 .take), .none⟩,
 o_ 3 (.mv (.c (.int .i64 100)))])
 (.ret))
 (.skip)))
 (.region false [o_ 53 (.fieldAddr 4 (.t 4)),
 o_ 54 (.load false 1 (.t 53) .take),
 o_ 55 (.load true 6 (.t 9) .take),
 o_ 56 (.buildSlice 6 [(.int .i64 0), (.int .i64 0), (.int .i64 0), (.str []), .nils, .nils] 1 [(0, (.u 55 .share))]),
 o_ 57 (.append 6 (.u 54 .take) (.u 56 .take)),
 o_ 58 (.fieldAddr 4 (.t 4)),
 ⟨none, none, false, .store 1 (.t 58) (.u 57 .take), .none⟩]))))))
 (.region false [o_ 59 (.bin .add (.t 25) (.c (.int .i64 1))),
 o_ 25 (.mv (.t 59))])))))))
 (.seq (.seq (.region false [o_ 60 (.fieldAddr 4 (.t 4)),
 o_ 61 (.load false 1 (.t 60) .peek),
 o_ 62 (.lenSl (.t 61)),
 o_ 63 (.bin .eql (.t 62) (.c (.int .i64 1)))])
 (.cond (.t 63)
 (.region false [o_ 64 (.fieldAddr 4 (.t 4)),
 o_ 65 (.load false 1 (.t 64) .peek),
 o_ 66 (.indexSl 6 (.t 65) (.c (.int .i64 0))),
 o_ 67 (.load true 6 (.t 66) .copy),
 ⟨none, none, false, .store 6 (.t 4) (.u 67 .take), .none⟩])
 (.skip)))
 (.seq (.region false [o_ 68 (.mv (.u 5 .take)),
 o_ 69 (.fieldAddr 5 (.t 4)),
 ⟨none, none, false, .store 1 (.t 69) (.u 68 .share), .none⟩])
 (.seq (.seq (.region false [o_ 70 (.load true 6 (.t 4) .take),
 o_ 71 (.callF 15 [(.u 70 .share)]),
 o_ 72 (.bin .neq (.t 71) (.c (.int .i64 0)))])
 (.cond (.t 72)
 (.seq (.region false [o_ 73 (.build [(.int .i64 0), (.int .i64 0), (.int .i64 0), (.str []), .nils, .nils] []),
 ⟨none, none, false, .store 6 (.t 2) (.u 73 .take), .none⟩,
 o_ 3 (.mv (.c (.int .i64 100)))])
 (.ret))
 (.skip)))
 (.seq (.region false [o_ 74 (.load true 6 (.t 4) .take),
 ⟨none, none, false, .store 6 (.t 2) (.u 74 .take), .none⟩,
 o_ 3 (.mv (.c (.int .i64 0)))])
 (.ret))))))))))⟩
theorem c19 : zap Go.Proofs.Tryz.prog p19 19 = some a19 := by decide +kernel
def p22 : Plan := ⟨[], 2, [((0, 1), { box := some 0 }),
 ((1, 1), { pure := true }),
 ((1, 5), { box := some 1 }),
 ((1, 6), { uses := [(11, .share)] }),
 ((4, 3), { uses := [(17, .share)] }),
 ((4, 4), { uses := [(20, .share)] }),
 ((5, 2), { uses := [(23, .share)] }),
 ((10, 2), { uses := [(43, .share)] })],
 []⟩
def a22 : AFunc := ⟨1, 45, 2, [.tmp 2, .cell 3 true 2],
 .seq (.region false [o_ 2 (.mv (.c .nils)),
 o_ 3 (.allocL 0 [(.int .i64 0), (.int .i64 0)])])
 (.seq (.region false [o_ 9 (.mv (.t 0)),
 o_ 10 (.callP 50 [(.t 9)]),
 o_ 8 (.mv (.t 10)),
 o_ 11 (.extract (.t 8) 0),
 o_ 12 (.extract (.t 8) 1),
 o_ 5 (.allocL 1 [(.int .i64 0), (.int .i64 0)]),
 o_ 4 (.mv (.u 11 .share)),
 ⟨none, none, false, .store 2 (.t 5) (.t 12), .none⟩])
 (.seq (.seq (.region false [o_ 13 (.fieldAddr 0 (.t 5)),
 o_ 14 (.load false 1 (.t 13) .copy),
 o_ 15 (.bin .neq (.t 14) (.c (.int .i64 0)))])
 (.cond (.t 15)
 (.seq (.region true [o_ 16 (.load true 2 (.t 5) .copy),
 o_ 2 (.mv (.c .nils)),
 ⟨none, none, false, .store 2 (.t 3) (.t 16), .none⟩])
 (.ret))
 (.skip)))
 (.seq (.region false [o_ 17 (.mv (.t 4)),
 o_ 18 (.mv (.t 0)),
 o_ 19 (.lenStr (.t 18)),
 o_ 20 (.build [.nils, (.int .i64 0), (.int .i64 0), (.int .i64 0), (.int .i64 0), (.int .i64 0)] [(0, 1, (.u 17 .share)), (2, 1, (.t 19))]),
 o_ 21 (.boxM (.u 20 .share)),
 o_ 6 (.mv (.t 21))])
 (.seq (.region false [o_ 22 (.mv (.t 6)),
 o_ 23 (.callF 51 [(.t 22), (.c (.int .i64 0))]),
 o_ 7 (.mv (.u 23 .share))])
 (.seq (.seq (.region false [o_ 24 (.mv (.t 6)),
 o_ 25 (.nilCheck (.t 24)),
 o_ 26 (.fieldAddr 1 (.t 25)),
 o_ 27 (.load false 1 (.t 26) .copy),
 o_ 28 (.mv (.t 4)),
 o_ 29 (.lenSl (.t 28)),
 o_ 30 (.bin .lss (.t 27) (.t 29))])
 (.cond (.t 30)
 (.region false [o_ 31 (.mv (.t 6)),
 o_ 32 (.callF 52 [(.t 31)])])
 (.skip)))
 (.seq (.seq (.region false [o_ 33 (.mv (.t 6)),
 o_ 34 (.nilCheck (.t 33)),
 o_ 35 (.fieldAddr 4 (.t 34)),
 o_ 36 (.fieldAddr 0 (.t 35)),
 o_ 37 (.load false 1 (.t 36) .copy),
 o_ 38 (.bin .neq (.t 37) (.c (.int .i64 0)))])
 (.cond (.t 38)
 (.seq (.region true [o_ 39 (.mv (.t 6)),
 o_ 40 (.nilCheck (.t 39)),
 o_ 41 (.fieldAddr 4 (.t 40)),
 o_ 42 (.load true 2 (.t 41) .copy),
 o_ 2 (.mv (.c .nils)),
 ⟨none, none, false, .store 2 (.t 3) (.t 42), .none⟩])
 (.ret))
 (.skip)))
 (.seq (.region false [o_ 43 (.mv (.t 7)),
 o_ 44 (.build [(.int .i64 0), (.int .i64 0)] []),
 o_ 2 (.mv (.u 43 .share)),
 ⟨none, none, false, .store 2 (.t 3) (.t 44), .none⟩])
 (.ret))))))))⟩
theorem c22 : zap Go.Proofs.Tryz.prog p22 22 = some a22 := by decide +kernel
def p23 : Plan := ⟨[], 1, [((4, 3), { box := some 0 }),
 ((5, 4), { pure := true })],
 [[0, 1, 2, 7, 14, 15, 16]]⟩
def a23 : AFunc := ⟨3, 49, 1, [.tmp 6],
 .seq (.region false [o_ 6 (.mv (.c (.int .i64 0)))])
 (.seq (.region false [o_ 7 (.mv (.c (.int .i64 (-1))))])
 (.seq (.seq (.region false [o_ 10 (.mv (.t 0)),
 o_ 11 (.mv (.t 0)),
 o_ 12 (.lenSl (.t 11)),
 o_ 13 (.minMax false (.t 12) [(.c (.int .i64 24))]),
 o_ 14 (.sliceV 7 (.t 10) none (some (.t 13))),
 o_ 15 (.lenSl (.t 14)),
 o_ 16 (.mv (.c (.int .i64 0)))])
 (.block 0 (.loop [0, 1, 2, 7, 14, 15, 16] (.seq (.region false [o_ 17 (.bin .lss (.t 16) (.t 15))])
 (.seq (.cond (.t 17)
 (.skip)
 (.exit 0))
 (.seq (.block 1 (.seq (.region false [o_ 18 (.mv (.t 16)),
 o_ 19 (.indexSl 7 (.t 14) (.t 16)),
 o_ 20 (.load true 7 (.t 19) .copy),
 o_ 9 (.allocL 0 [(.int .i64 0), (.int .i64 0), (.int .i64 0), (.int .i64 0), (.int .i64 0), (.int .i64 0), (.bool false)]),
 o_ 8 (.mv (.t 18)),
 ⟨none, none, false, .store 7 (.t 9) (.t 20), .none⟩])
 (.seq (.region true [o_ 21 (.fieldAddr 1 (.t 9)),
 o_ 22 (.load true 4 (.t 21) .copy),
 o_ 23 (.mv (.t 1)),
 o_ 24 (.mv (.t 2)),
 o_ 25 (.callP 53 [(.t 22), (.t 23), (.t 24)]),
 o_ 26 (.mv (.t 25)),
 ⟨(some 27), (some (26, true)), false, .mv (.t 7), .none⟩,
 ⟨(some 28), (some (26, true)), false, .bin .lss (.t 27) (.c (.int .i64 0)), .none⟩,
 ⟨(some 29), (some (26, true)), false, .mv (.t 28), .none⟩,
 ⟨(some 30), (some (29, false)), false, .fieldAddr 5 (.t 9), .none⟩,
 ⟨(some 31), (some (29, false)), false, .load false 1 (.t 30) .copy, .none⟩,
 ⟨(some 32), (some (29, false)), false, .mv (.t 0), .none⟩,
 ⟨(some 33), (some (29, false)), false, .mv (.t 7), .none⟩,
 ⟨(some 34), (some (29, false)), false, .indexSl 7 (.t 32) (.t 33), .none⟩,
 ⟨(some 35), (some (29, false)), false, .fieldAddr 5 (.t 34), .none⟩,
 ⟨(some 36), (some (29, false)), false, .load false 1 (.t 35) .copy, .none⟩,
 ⟨(some 37), (some (29, false)), false, .bin .geq (.t 31) (.t 36), .none⟩,
 ⟨(some 38), (some (26, true)), false, .pick (.t 29) (.c (.bool true)) (.t 37), .none⟩,
 o_ 39 (.pick (.t 26) (.t 38) (.c (.bool false)))])
 (.cond (.t 39)
 (.region false [o_ 40 (.mv (.t 8)),
 o_ 7 (.mv (.t 40))])
 (.skip)))))
 (.region false [o_ 41 (.bin .add (.t 16) (.c (.int .i64 1))),
 o_ 16 (.mv (.t 41))])))))))
 (.seq (.seq (.region false [o_ 42 (.mv (.t 7)),
 o_ 43 (.bin .lss (.t 42) (.c (.int .i64 0)))])
 (.cond (.t 43)
 (.seq (.region false [o_ 6 (.mv (.c (.int .i64 (-1))))])
 (.ret))
 (.skip)))
 (.seq (.region false [o_ 44 (.mv (.t 0)),
 o_ 45 (.mv (.t 7)),
 o_ 46 (.indexSl 7 (.t 44) (.t 45)),
 o_ 47 (.fieldAddr 0 (.t 46)),
 o_ 48 (.load false 1 (.t 47) .copy),
 o_ 6 (.mv (.t 48))])
 (.ret)))))⟩
theorem c23 : zap Go.Proofs.Tryz.prog p23 23 = some a23 := by decide +kernel
def p25 : Plan := ⟨[], 2, [((2, 17), { mark := (.loc 0) }),
 ((2, 15), { mark := (.loc 0) }),
 ((2, 13), { mark := .free, pure := true }),
 ((2, 12), { mark := .free }),
 ((2, 10), { mark := (.loc 0) }),
 ((2, 8), { mark := (.loc 0) }),
 ((2, 6), { mark := .free, pure := true }),
 ((2, 5), { mark := .free }),
 ((2, 3), { mark := (.loc 0) }),
 ((2, 1), { mark := (.loc 0) }),
 ((1, 9), { mark := (.loc 0) }),
 ((1, 7), { mark := (.loc 0) }),
 ((1, 5), { mark := .free, pure := true }),
 ((1, 4), { mark := (.loc 0) }),
 ((1, 2), { mark := .free, pure := true }),
 ((1, 1), { mark := (.loc 0) }),
 ((0, 0), { box := some 0 }),
 ((0, 1), { box := some 1 })],
 []⟩
def a25 : AFunc := ⟨1, 37, 2, [.cell 2 true 4],
 .seq (.region false [o_ 1 (.boxL 0 (.t 0)),
 o_ 2 (.allocL 1 [(.int .i64 0), (.int .i64 0), (.int .i64 0), (.int .i64 0)])])
 (.seq (.region true [o_ 3 (.fieldAddr 0 (.t 1)),
 ⟨(some 4), none, false, .load false 1 (.t 3) .copy, (.loc 0)⟩,
 ⟨(some 5), none, false, .callP 55 [(.t 4), (.c (.int .i64 (-5000))), (.c (.int .i64 5000))], .free⟩,
 o_ 6 (.fieldAddr 1 (.t 1)),
 ⟨(some 7), none, false, .load false 1 (.t 6) .copy, (.loc 0)⟩,
 ⟨(some 8), none, false, .callP 55 [(.t 7), (.c (.int .i64 (-5000))), (.c (.int .i64 5000))], .free⟩,
 o_ 9 (.fieldAddr 0 (.t 1)),
 ⟨none, none, false, .store 1 (.t 9) (.t 5), (.loc 0)⟩,
 o_ 10 (.fieldAddr 1 (.t 1)),
 ⟨none, none, false, .store 1 (.t 10) (.t 8), (.loc 0)⟩])
 (.seq (.region true [o_ 11 (.fieldAddr 2 (.t 1)),
 ⟨(some 12), none, false, .load false 1 (.t 11) .copy, (.loc 0)⟩,
 o_ 13 (.fieldAddr 0 (.t 1)),
 ⟨(some 14), none, false, .load false 1 (.t 13) .copy, (.loc 0)⟩,
 o_ 15 (.bin .sub (.c (.int .i64 5000)) (.t 14)),
 ⟨(some 16), none, false, .minMax false (.c (.int .i64 200)) [(.t 15)], .free⟩,
 ⟨(some 17), none, false, .callP 55 [(.t 12), (.c (.int .i64 0)), (.t 16)], .free⟩,
 o_ 18 (.fieldAddr 3 (.t 1)),
 ⟨(some 19), none, false, .load false 1 (.t 18) .copy, (.loc 0)⟩,
 o_ 20 (.fieldAddr 1 (.t 1)),
 ⟨(some 21), none, false, .load false 1 (.t 20) .copy, (.loc 0)⟩,
 o_ 22 (.bin .sub (.c (.int .i64 5000)) (.t 21)),
 ⟨(some 23), none, false, .minMax false (.c (.int .i64 200)) [(.t 22)], .free⟩,
 ⟨(some 24), none, false, .callP 55 [(.t 19), (.c (.int .i64 0)), (.t 23)], .free⟩,
 o_ 25 (.fieldAddr 2 (.t 1)),
 ⟨none, none, false, .store 1 (.t 25) (.t 17), (.loc 0)⟩,
 o_ 26 (.fieldAddr 3 (.t 1)),
 ⟨none, none, false, .store 1 (.t 26) (.t 24), (.loc 0)⟩])
 (.seq (.seq (.region false [o_ 27 (.fieldAddr 2 (.t 1)),
 o_ 28 (.load false 1 (.t 27) .copy),
 o_ 29 (.bin .eql (.t 28) (.c (.int .i64 0))),
 o_ 30 (.mv (.t 29)),
 ⟨(some 31), (some (30, false)), false, .fieldAddr 3 (.t 1), .none⟩,
 ⟨(some 32), (some (30, false)), false, .load false 1 (.t 31) .copy, .none⟩,
 ⟨(some 33), (some (30, false)), false, .bin .eql (.t 32) (.c (.int .i64 0)), .none⟩,
 o_ 34 (.pick (.t 30) (.c (.bool true)) (.t 33))])
 (.cond (.t 34)
 (.seq (.region false [o_ 35 (.build [(.int .i64 0), (.int .i64 0), (.int .i64 0), (.int .i64 0)] []),
 ⟨none, none, false, .store 4 (.t 2) (.t 35), .none⟩])
 (.ret))
 (.skip)))
 (.seq (.region false [o_ 36 (.load true 4 (.t 1) .copy),
 ⟨none, none, false, .store 4 (.t 2) (.t 36), .none⟩])
 (.ret)))))⟩
theorem c25 : zap Go.Proofs.Tryz.prog p25 25 = some a25 := by decide +kernel
def p26 : Plan := ⟨[], 1, [((0, 0), { box := some 0 })],
 []⟩
def a26 : AFunc := ⟨4, 14, 1, [.cell 8 true 4],
 .seq (.region false [o_ 8 (.allocL 0 [(.int .i64 0), (.int .i64 0), (.int .i64 0), (.int .i64 0)])])
 (.seq (.region false [o_ 9 (.mv (.t 0)),
 o_ 10 (.mv (.t 1)),
 o_ 11 (.mv (.t 2)),
 o_ 12 (.mv (.t 3)),
 o_ 13 (.build [(.int .i64 0), (.int .i64 0), (.int .i64 0), (.int .i64 0)] [(0, 1, (.t 9)), (1, 1, (.t 10)), (2, 1, (.t 11)), (3, 1, (.t 12))]),
 ⟨none, none, false, .store 4 (.t 8) (.t 13), .none⟩])
 (.ret))⟩
theorem c26 : zap Go.Proofs.Tryz.prog p26 26 = some a26 := by decide +kernel
def p27 : Plan := ⟨[6, 7], 1, [((1, 9), { uses := [(24, .share)] }),
 ((11, 3), { box := some 0 }),
 ((12, 0), { uses := [(6, .take)] }),
 ((12, 3), { pure := true }),
 ((12, 5), { uses := [(44, .take), (48, .take)] }),
 ((12, 6), { uses := [(49, .take)] }),
 ((13, 1), { uses := [(6, .peek)] }),
 ((15, 0), { uses := [(7, .take)] }),
 ((15, 3), { uses := [(59, .take), (61, .take)] }),
 ((15, 4), { uses := [(62, .take)] }),
 ((17, 0), { uses := [(6, .peek)] }),
 ((20, 0), { uses := [(6, .peek)] }),
 ((21, 0), { uses := [(6, .peek)] }),
 ((23, 0), { uses := [(7, .peek)] }),
 ((24, 0), { uses := [(6, .peek)] }),
 ((24, 1), { uses := [(6, .peek)] }),
 ((25, 0), { uses := [(6, .take)] }),
 ((25, 1), { uses := [(101, .share)] }),
 ((26, 0), { uses := [(7, .peek)] }),
 ((29, 0), { uses := [(6, .peek)], name := some 6 }),
 ((29, 2), { name := some 6 }),
 ((29, 3), { name := some 6 }),
 ((29, 5), { uses := [(7, .peek)], name := some 7 }),
 ((29, 6), { name := some 7 }),
 ((29, 9), { name := some 6 }),
 ((29, 10), { name := some 6 }),
 ((30, 2), { uses := [(7, .peek)] }),
 ((31, 0), { uses := [(6, .peek)] }),
 ((33, 0), { uses := [(6, .take)] }),
 ((33, 1), { uses := [(132, .share)] })],
 [[0, 6, 7, 8, 37, 38, 39], [6, 7, 8, 11], [6, 7, 8, 102, 103, 104]]⟩
def a27 : AFunc := ⟨2, 133, 1, [.tmp 4, .tmp 5],
 .seq (.region false [o_ 4 (.mv (.c .nils)),
 o_ 5 (.mv (.c (.int .i64 0)))])
 (.seq (.block 0 (.seq (.region false [o_ 16 (.mv (.t 1)),
 o_ 17 (.lenSl (.t 16)),
 o_ 18 (.bin .eql (.t 17) (.c (.int .i64 0))),
 o_ 19 (.mv (.t 18)),
 ⟨(some 20), (some (19, false)), false, .mv (.t 0), .none⟩,
 ⟨(some 21), (some (19, false)), false, .bin .gtr (.t 20) (.c (.int .i64 200)), .none⟩,
 o_ 22 (.pick (.t 19) (.c (.bool true)) (.t 21)),
 o_ 23 (.mv (.t 22)),
 ⟨(some 24), (some (23, false)), false, .mv (.t 1), .none⟩,
 ⟨(some 25), (some (23, false)), false, .callF 56 [(.u 24 .share), (.c (.func 57 []))], .none⟩,
 o_ 26 (.pick (.t 23) (.c (.bool true)) (.t 25)),
 o_ 15 (.mv (.t 26))])
 (.cond (.t 15)
 (.seq (.region false [o_ 4 (.mv (.c .nils)),
 o_ 5 (.mv (.c (.int .i64 1)))])
 (.ret))
 (.seq (.region false [o_ 28 (.mv (.t 1)),
 o_ 29 (.lenSl (.t 28)),
 o_ 30 (.bin .gtr (.t 29) (.c (.int .i64 16))),
 o_ 27 (.mv (.t 30))])
 (.cond (.t 27)
 (.seq (.region false [o_ 4 (.mv (.c .nils)),
 o_ 5 (.mv (.c (.int .i64 3)))])
 (.ret))
 (.seq (.region false [o_ 32 (.mv (.t 0)),
 o_ 33 (.mv (.t 1)),
 o_ 34 (.lenSl (.t 33)),
 o_ 35 (.bin .lss (.t 32) (.t 34)),
 o_ 31 (.mv (.t 35))])
 (.cond (.t 31)
 (.seq (.region false [o_ 4 (.mv (.c .nils)),
 o_ 5 (.mv (.c (.int .i64 90)))])
 (.ret))
 (.skip))))))))
 (.seq (.region false [⟨(some 6), none, true, .mv (.c .nils), .none⟩,
 ⟨(some 7), none, true, .mv (.c .nils), .none⟩])
 (.seq (.region false [o_ 36 (.mv (.t 0)),
 o_ 8 (.mv (.t 36))])
 (.seq (.seq (.region false [o_ 37 (.mv (.t 1)),
 o_ 38 (.lenSl (.t 37)),
 o_ 39 (.mv (.c (.int .i64 0)))])
 (.block 1 (.loop [0, 6, 7, 8, 37, 38, 39] (.seq (.region false [o_ 40 (.bin .lss (.t 39) (.t 38))])
 (.seq (.cond (.t 40)
 (.skip)
 (.exit 1))
 (.seq (.block 2 (.seq (.region false [o_ 41 (.mv (.t 39)),
 o_ 42 (.indexSl 2 (.t 37) (.t 39)),
 o_ 43 (.load true 2 (.t 42) .copy),
 o_ 10 (.allocL 0 [(.int .i64 0), (.int .i64 0)]),
 o_ 9 (.mv (.t 41)),
 ⟨none, none, false, .store 2 (.t 10) (.t 43), .none⟩])
 (.seq (.region false [o_ 44 (.mv (.u 6 .take)),
 o_ 45 (.mv (.t 0)),
 o_ 46 (.load true 2 (.t 10) .copy),
 o_ 47 (.callP 59 [(.t 45), (.t 46)]),
 o_ 48 (.buildSlice 1 [(.int .i64 0)] 1 [(0, (.t 47))]),
 o_ 49 (.append 1 (.u 44 .take) (.u 48 .take)),
 ⟨(some 6), none, true, .mv (.u 49 .take), .none⟩])
 (.seq (.region false [o_ 50 (.mv (.t 8)),
 o_ 51 (.mv (.u 6 .peek)),
 o_ 52 (.mv (.t 9)),
 o_ 53 (.indexSl 1 (.t 51) (.t 52)),
 o_ 54 (.load false 1 (.t 53) .copy),
 o_ 55 (.bin .sub (.t 50) (.t 54)),
 o_ 8 (.mv (.t 55))])
 (.seq (.region false [o_ 56 (.fieldAddr 0 (.t 10)),
 o_ 57 (.load false 1 (.t 56) .copy),
 o_ 58 (.bin .eql (.t 57) (.c (.int .i64 0)))])
 (.cond (.t 58)
 (.region false [o_ 59 (.mv (.u 7 .take)),
 o_ 60 (.mv (.t 9)),
 o_ 61 (.buildSlice 1 [(.int .i64 0)] 1 [(0, (.t 60))]),
 o_ 62 (.append 1 (.u 59 .take) (.u 61 .take)),
 ⟨(some 7), none, true, .mv (.u 62 .take), .none⟩])
 (.skip)))))))
 (.region false [o_ 63 (.bin .add (.t 39) (.c (.int .i64 1))),
 o_ 39 (.mv (.t 63))])))))))
 (.seq (.seq (.region false [o_ 64 (.mv (.u 6 .peek)),
 o_ 65 (.lenSl (.t 64)),
 o_ 66 (.bin .sub (.t 65) (.c (.int .i64 1))),
 o_ 11 (.mv (.t 66))])
 (.block 3 (.loop [6, 7, 8, 11] (.seq (.seq (.region false [o_ 67 (.mv (.t 8)),
 o_ 68 (.bin .lss (.t 67) (.c (.int .i64 0)))])
 (.cond (.t 68)
 (.skip)
 (.exit 3)))
 (.seq (.block 4 (.seq (.region false [o_ 71 (.mv (.u 6 .peek)),
 o_ 72 (.mv (.t 11)),
 o_ 73 (.indexSl 1 (.t 71) (.t 72)),
 o_ 74 (.load false 1 (.t 73) .copy),
 o_ 75 (.bin .sub (.t 74) (.c (.int .i64 1))),
 o_ 76 (.mv (.t 8)),
 o_ 77 (.un .neg (.t 76)),
 o_ 78 (.minMax false (.t 75) [(.t 77)]),
 o_ 12 (.mv (.t 78))])
 (.seq (.region false [o_ 79 (.mv (.u 6 .peek)),
 o_ 80 (.mv (.t 11)),
 o_ 81 (.indexSl 1 (.t 79) (.t 80)),
 o_ 82 (.load false 1 (.t 81) .copy),
 o_ 83 (.mv (.t 12)),
 o_ 84 (.bin .sub (.t 82) (.t 83)),
 o_ 85 (.indexSl 1 (.t 79) (.t 80)),
 ⟨none, none, false, .store 1 (.t 85) (.t 84), .none⟩])
 (.region false [o_ 86 (.mv (.t 8)),
 o_ 87 (.mv (.t 12)),
 o_ 88 (.bin .add (.t 86) (.t 87)),
 o_ 8 (.mv (.t 88))]))))
 (.region false [o_ 69 (.mv (.t 11)),
 o_ 70 (.bin .sub (.t 69) (.c (.int .i64 1))),
 o_ 11 (.mv (.t 70))]))))))
 (.seq (.seq (.region false [o_ 89 (.mv (.u 7 .peek)),
 o_ 90 (.lenSl (.t 89)),
 o_ 91 (.bin .eql (.t 90) (.c (.int .i64 0)))])
 (.cond (.t 91)
 (.seq (.region false [o_ 92 (.mv (.u 6 .peek)),
 o_ 93 (.mv (.u 6 .peek)),
 o_ 94 (.lenSl (.t 93)),
 o_ 95 (.bin .sub (.t 94) (.c (.int .i64 1))),
 o_ 96 (.indexSl 1 (.t 92) (.t 95)),
 o_ 97 (.load false 1 (.t 96) .copy),
 o_ 98 (.mv (.t 8)),
 o_ 99 (.bin .add (.t 97) (.t 98)),
 o_ 100 (.indexSl 1 (.t 92) (.t 95)),
 ⟨none, none, false, .store 1 (.t 100) (.t 99), .none⟩])
 (.seq (.region false [o_ 101 (.mv (.u 6 .take)),
 o_ 4 (.mv (.u 101 .share)),
 o_ 5 (.mv (.c (.int .i64 0)))])
 (.ret)))
 (.skip)))
 (.seq (.seq (.region false [o_ 102 (.mv (.u 7 .peek)),
 o_ 103 (.lenSl (.t 102)),
 o_ 104 (.mv (.c (.int .i64 0)))])
 (.block 5 (.loop [6, 7, 8, 102, 103, 104] (.seq (.region false [o_ 105 (.bin .lss (.t 104) (.t 103))])
 (.seq (.cond (.t 105)
 (.skip)
 (.exit 5))
 (.seq (.block 6 (.seq (.region false [o_ 106 (.mv (.t 104)),
 o_ 107 (.indexSl 1 (.t 102) (.t 104)),
 o_ 108 (.load false 1 (.t 107) .copy),
 o_ 13 (.mv (.t 106)),
 o_ 14 (.mv (.t 108))])
 (.seq (.region true [o_ 109 (.tOp 6 .place),
 o_ 110 (.mv (.t 14)),
 o_ 111 (.tOp 6 (.index 1 109 (.t 110))),
 o_ 112 (.tOp 6 (.load false 1 111)),
 o_ 113 (.mv (.t 8)),
 o_ 114 (.tOp 7 .place),
 o_ 115 (.tOp 7 (.len 114)),
 o_ 116 (.bin .quo (.t 113) (.t 115)),
 o_ 117 (.bin .add (.t 112) (.t 116)),
 o_ 118 (.tOp 6 (.index 1 109 (.t 110))),
 ⟨none, none, false, .tOp 6 (.store 1 118 (.t 117)), .none⟩])
 (.seq (.region false [o_ 119 (.mv (.t 13)),
 o_ 120 (.mv (.t 8)),
 o_ 121 (.mv (.u 7 .peek)),
 o_ 122 (.lenSl (.t 121)),
 o_ 123 (.bin .rem (.t 120) (.t 122)),
 o_ 124 (.bin .lss (.t 119) (.t 123))])
 (.cond (.t 124)
 (.region false [o_ 125 (.mv (.u 6 .peek)),
 o_ 126 (.mv (.t 14)),
 o_ 127 (.indexSl 1 (.t 125) (.t 126)),
 o_ 128 (.load false 1 (.t 127) .copy),
 o_ 129 (.bin .add (.t 128) (.c (.int .i64 1))),
 o_ 130 (.indexSl 1 (.t 125) (.t 126)),
 ⟨none, none, false, .store 1 (.t 130) (.t 129), .none⟩])
 (.skip))))))
 (.region false [o_ 131 (.bin .add (.t 104) (.c (.int .i64 1))),
 o_ 104 (.mv (.t 131))])))))))
 (.seq (.region false [o_ 132 (.mv (.u 6 .take)),
 o_ 4 (.mv (.u 132 .share)),
 o_ 5 (.mv (.c (.int .i64 0)))])
 (.ret)))))))))⟩
theorem c27 : zap Go.Proofs.Tryz.prog p27 27 = some a27 := by decide +kernel
def p28 : Plan := ⟨[], 2, [((2, 11), { mark := (.loc 0) }),
 ((2, 9), { mark := (.loc 0) }),
 ((2, 7), { mark := .free, pure := true }),
 ((2, 5), { mark := (.loc 0) }),
 ((2, 3), { mark := .free, pure := true }),
 ((2, 1), { mark := (.loc 0) }),
 ((0, 0), { box := some 0 }),
 ((0, 1), { box := some 1 }),
 ((1, 1), { pure := true }),
 ((3, 1), { pure := true })],
 []⟩
def a28 : AFunc := ⟨3, 21, 2, [.cell 6 true 4],
 .seq (.region false [o_ 3 (.boxL 0 (.t 0)),
 o_ 6 (.allocL 1 [(.int .i64 0), (.int .i64 0), (.int .i64 0), (.int .i64 0)])])
 (.seq (.region false [o_ 7 (.load true 4 (.t 3) .copy),
 o_ 8 (.callP 25 [(.t 7)]),
 ⟨none, none, false, .store 4 (.t 3) (.t 8), .none⟩])
 (.seq (.region true [o_ 9 (.fieldAddr 0 (.t 3)),
 ⟨(some 10), none, false, .load false 1 (.t 9) .copy, (.loc 0)⟩,
 o_ 11 (.mv (.t 1)),
 ⟨(some 12), none, false, .callP 60 [(.t 10), (.t 11)], .free⟩,
 o_ 13 (.fieldAddr 1 (.t 3)),
 ⟨(some 14), none, false, .load false 1 (.t 13) .copy, (.loc 0)⟩,
 o_ 15 (.mv (.t 2)),
 ⟨(some 16), none, false, .callP 60 [(.t 14), (.t 15)], .free⟩,
 o_ 17 (.fieldAddr 0 (.t 3)),
 ⟨none, none, false, .store 1 (.t 17) (.t 12), (.loc 0)⟩,
 o_ 18 (.fieldAddr 1 (.t 3)),
 ⟨none, none, false, .store 1 (.t 18) (.t 16), (.loc 0)⟩])
 (.seq (.region false [o_ 19 (.load true 4 (.t 3) .copy),
 o_ 20 (.callP 25 [(.t 19)]),
 ⟨none, none, false, .store 4 (.t 6) (.t 20), .none⟩])
 (.ret))))⟩
theorem c28 : zap Go.Proofs.Tryz.prog p28 28 = some a28 := by decide +kernel
def p34 : Plan := ⟨[], 2, [((0, 0), { box := some 0 }),
 ((1, 5), { pure := true }),
 ((11, 1), { mode := .peek }),
 ((11, 6), { mode := .peek }),
 ((15, 2), { box := some 1 }),
 ((15, 3), { uses := [(50, .take)] }),
 ((16, 9), { mode := .take }),
 ((16, 13), { uses := [(60, .share)] })],
 [[1, 2, 3, 45, 46, 47]]⟩
def a34 : AFunc := ⟨3, 68, 2, [.tmp 6],
 .seq (.region false [o_ 3 (.boxL 0 (.t 0)),
 o_ 6 (.mv (.c (.bool false)))])
 (.seq (.seq (.region false [o_ 9 (.mv (.t 1)),
 o_ 10 (.bin .gtr (.t 9) (.c (.int .i64 12))),
 o_ 11 (.mv (.t 10)),
 ⟨(some 12), (some (11, false)), false, .fieldAddr 1 (.t 3), .none⟩,
 ⟨(some 13), (some (11, false)), false, .load true 2 (.t 12) .copy, .none⟩,
 ⟨(some 14), (some (11, false)), false, .callP 58 [(.t 13)], .none⟩,
 ⟨(some 15), (some (11, false)), false, .bin .neq (.t 14) (.c (.int .i64 0)), .none⟩,
 o_ 16 (.pick (.t 11) (.c (.bool true)) (.t 15))])
 (.cond (.t 16)
 (.seq (.region false [o_ 6 (.mv (.c (.bool false)))])
 (.ret))
 (.skip)))
 (.seq (.seq (.region false [o_ 17 (.fieldAddr 0 (.t 3)),
 o_ 18 (.load false 1 (.t 17) .copy)])
 (.block 0 (.seq (.region false [o_ 20 (.bin .eql (.t 18) (.c (.int .i64 1))),
 o_ 19 (.mv (.t 20))])
 (.cond (.t 19)
 (.seq (.region false [o_ 21 (.mv (.t 2)),
 o_ 22 (.nilCheck (.t 21)),
 o_ 23 (.load false 1 (.t 22) .copy),
 o_ 24 (.bin .add (.t 23) (.c (.int .i64 1))),
 o_ 25 (.nilCheck (.t 21)),
 ⟨none, none, false, .store 1 (.t 25) (.t 24), .none⟩])
 (.seq (.region false [o_ 26 (.mv (.t 2)),
 o_ 27 (.nilCheck (.t 26)),
 o_ 28 (.load false 1 (.t 27) .copy),
 o_ 29 (.bin .leq (.t 28) (.c (.int .i64 24))),
 o_ 6 (.mv (.t 29))])
 (.ret)))
 (.seq (.seq (.region false [o_ 31 (.bin .eql (.t 18) (.c (.int .i64 2))),
 o_ 30 (.mv (.t 31))])
 (.cond (.t 30)
 (.skip)
 (.seq (.region false [o_ 32 (.bin .eql (.t 18) (.c (.int .i64 3))),
 o_ 30 (.mv (.t 32))])
 (.cond (.t 30)
 (.skip)
 (.region false [o_ 33 (.bin .eql (.t 18) (.c (.int .i64 4))),
 o_ 30 (.mv (.t 33))])))))
 (.cond (.t 30)
 (.skip)
 (.seq (.region false [o_ 6 (.mv (.c (.bool false)))])
 (.ret))))))))
 (.seq (.seq (.region false [o_ 34 (.fieldAddr 4 (.t 3)),
 o_ 35 (.load false 1 (.t 34) .peek),
 o_ 36 (.lenSl (.t 35)),
 o_ 37 (.bin .lss (.t 36) (.c (.int .i64 1))),
 o_ 38 (.mv (.t 37)),
 ⟨(some 39), (some (38, false)), false, .fieldAddr 4 (.t 3), .none⟩,
 ⟨(some 40), (some (38, false)), false, .load false 1 (.t 39) .peek, .none⟩,
 ⟨(some 41), (some (38, false)), false, .lenSl (.t 40), .none⟩,
 ⟨(some 42), (some (38, false)), false, .bin .gtr (.t 41) (.c (.int .i64 16)), .none⟩,
 o_ 43 (.pick (.t 38) (.c (.bool true)) (.t 42))])
 (.cond (.t 43)
 (.seq (.region false [o_ 6 (.mv (.c (.bool false)))])
 (.ret))
 (.skip)))
 (.seq (.seq (.region false [o_ 44 (.fieldAddr 4 (.t 3)),
 o_ 45 (.load false 1 (.t 44) .copy),
 o_ 46 (.lenSl (.t 45)),
 o_ 47 (.mv (.c (.int .i64 0)))])
 (.block 1 (.loop [1, 2, 3, 45, 46, 47] (.seq (.region false [o_ 48 (.bin .lss (.t 47) (.t 46))])
 (.seq (.cond (.t 48)
 (.skip)
 (.exit 1))
 (.seq (.block 2 (.seq (.region false [o_ 49 (.indexSl 6 (.t 45) (.t 47)),
 o_ 50 (.load true 6 (.t 49) .copy),
 o_ 8 (.allocL 1 [(.int .i64 0), (.int .i64 0), (.int .i64 0), (.str []), .nils, .nils]),
 ⟨none, none, false, .store 6 (.t 8) (.u 50 .take), .none⟩])
 (.seq (.region false [o_ 51 (.fieldAddr 0 (.t 3)),
 o_ 52 (.load false 1 (.t 51) .copy),
 o_ 53 (.bin .eql (.t 52) (.c (.int .i64 4))),
 o_ 54 (.mv (.t 53)),
 ⟨(some 55), (some (54, true)), false, .fieldAddr 0 (.t 8), .none⟩,
 ⟨(some 56), (some (54, true)), false, .load false 1 (.t 55) .copy, .none⟩,
 ⟨(some 57), (some (54, true)), false, .bin .neq (.t 56) (.c (.int .i64 1)), .none⟩,
 o_ 58 (.pick (.t 54) (.t 57) (.c (.bool false))),
 o_ 59 (.mv (.t 58)),
 ⟨(some 60), (some (59, false)), false, .load true 6 (.t 8) .take, .none⟩,
 ⟨(some 61), (some (59, false)), false, .mv (.t 1), .none⟩,
 ⟨(some 62), (some (59, false)), false, .bin .add (.t 61) (.c (.int .i64 1)), .none⟩,
 ⟨(some 63), (some (59, false)), false, .mv (.t 2), .none⟩,
 ⟨(some 64), (some (59, false)), false, .callF 34 [(.u 60 .share), (.t 62), (.t 63)], .none⟩,
 ⟨(some 65), (some (59, false)), false, .un .not (.t 64), .none⟩,
 o_ 66 (.pick (.t 59) (.c (.bool true)) (.t 65))])
 (.cond (.t 66)
 (.seq (.region false [o_ 6 (.mv (.c (.bool false)))])
 (.ret))
 (.skip)))))
 (.region false [o_ 67 (.bin .add (.t 47) (.c (.int .i64 1))),
 o_ 47 (.mv (.t 67))])))))))
 (.seq (.region false [o_ 6 (.mv (.c (.bool true)))])
 (.ret))))))⟩
theorem c34 : zap Go.Proofs.Tryz.prog p34 34 = some a34 := by decide +kernel
def p35 : Plan := ⟨[], 3, [((10, 13), { mark := (.loc 1) }),
 ((10, 11), { mark := (.loc 1) }),
 ((10, 8), { mark := (.loc 2) }),
 ((10, 6), { mark := (.loc 1) }),
 ((10, 3), { mark := (.loc 2) }),
 ((10, 1), { mark := (.loc 1) }),
 ((0, 0), { box := some 0 }),
 ((0, 1), { box := some 1 }),
 ((6, 1), { mode := .take }),
 ((6, 2), { uses := [(21, .take)] }),
 ((8, 1), { box := some 2 }),
 ((11, 2), { pure := true }),
 ((13, 2), { pure := true }),
 ((2, 3), { uses := [(10, .share)] })],
 [[0, 5, 23, 24]]⟩
def a35 : AFunc := ⟨3, 54, 3, [],
 .seq (.region false [o_ 4 (.boxL 0 (.t 1)),
 o_ 5 (.boxL 1 (.t 2))])
 (.seq (.region false [o_ 7 (.fieldAddr 0 (.t 4)),
 o_ 8 (.load false 1 (.t 7) .copy)])
 (.block 0 (.seq (.region false [o_ 14 (.bin .eql (.t 8) (.c (.int .i64 1))),
 o_ 13 (.mv (.t 14))])
 (.cond (.t 13)
 (.region false [o_ 15 (.mv (.t 0)),
 o_ 16 (.load true 4 (.t 5) .copy),
 o_ 17 (.callF 36 [(.t 15), (.t 16), (.c (.int .i64 0)), (.c (.bool false))])])
 (.seq (.region false [o_ 19 (.bin .eql (.t 8) (.c (.int .i64 4))),
 o_ 18 (.mv (.t 19))])
 (.cond (.t 18)
 (.seq (.seq (.region false [o_ 20 (.fieldAddr 4 (.t 4)),
 o_ 21 (.load false 1 (.t 20) .take),
 o_ 22 (.sliceV 6 (.u 21 .take) (some (.c (.int .i64 1))) none),
 o_ 23 (.lenSl (.t 22)),
 o_ 24 (.mv (.c (.int .i64 0)))])
 (.block 1 (.loop [0, 5, 23, 24] (.seq (.region false [o_ 25 (.bin .lss (.t 24) (.t 23))])
 (.seq (.cond (.t 25)
 (.skip)
 (.exit 1))
 (.seq (.block 2 (.seq (.region false [o_ 26 (.load true 4 (.t 5) .copy),
 o_ 6 (.allocL 2 [(.int .i64 0), (.int .i64 0), (.int .i64 0), (.int .i64 0)]),
 ⟨none, none, false, .store 4 (.t 6) (.t 26), .none⟩])
 (.seq (.region false [o_ 27 (.fieldAddr 3 (.t 5)),
 o_ 28 (.load false 1 (.t 27) .copy),
 o_ 29 (.bin .sub (.t 28) (.c (.int .i64 1))),
 o_ 30 (.minMax true (.t 29) [(.c (.int .i64 0))]),
 o_ 31 (.minMax false (.c (.int .i64 1)) [(.t 30)]),
 o_ 32 (.fieldAddr 3 (.t 6)),
 ⟨none, none, false, .store 1 (.t 32) (.t 31), .none⟩])
 (.seq (.region true [o_ 33 (.fieldAddr 1 (.t 5)),
 ⟨(some 34), none, false, .load false 1 (.t 33) .copy, (.loc 1)⟩,
 o_ 35 (.fieldAddr 3 (.t 6)),
 ⟨(some 36), none, false, .load false 1 (.t 35) .copy, (.loc 2)⟩,
 o_ 37 (.bin .add (.t 34) (.t 36)),
 o_ 38 (.fieldAddr 3 (.t 5)),
 ⟨(some 39), none, false, .load false 1 (.t 38) .copy, (.loc 1)⟩,
 o_ 40 (.fieldAddr 3 (.t 6)),
 ⟨(some 41), none, false, .load false 1 (.t 40) .copy, (.loc 2)⟩,
 o_ 42 (.bin .sub (.t 39) (.t 41)),
 o_ 43 (.fieldAddr 1 (.t 5)),
 ⟨none, none, false, .store 1 (.t 43) (.t 37), (.loc 1)⟩,
 o_ 44 (.fieldAddr 3 (.t 5)),
 ⟨none, none, false, .store 1 (.t 44) (.t 42), (.loc 1)⟩])
 (.region false [o_ 45 (.mv (.t 0)),
 o_ 46 (.load true 4 (.t 6) .copy),
 o_ 47 (.callP 25 [(.t 46)]),
 o_ 48 (.callF 36 [(.t 45), (.t 47), (.c (.int .i64 0)), (.c (.bool true))])])))))
 (.region false [o_ 49 (.bin .add (.t 24) (.c (.int .i64 1))),
 o_ 24 (.mv (.t 49))])))))))
 (.region false [o_ 50 (.mv (.t 0)),
 o_ 51 (.load true 4 (.t 5) .copy),
 o_ 52 (.callP 25 [(.t 51)]),
 o_ 53 (.callF 36 [(.t 50), (.t 52), (.c (.int .i64 0)), (.c (.bool false))])]))
 (.region false [o_ 9 (.mv (.t 0)),
 o_ 10 (.load true 6 (.t 4) .copy),
 o_ 11 (.load true 4 (.t 5) .copy),
 o_ 12 (.callF 62 [(.t 9), (.u 10 .share), (.t 11)])])))))))⟩
theorem c35 : zap Go.Proofs.Tryz.prog p35 35 = some a35 := by decide +kernel
def p36 : Plan := ⟨[], 1, [((1, 18), { uses := [(23, .take)], mark := .mem }),
 ((1, 14), { mark := .free }),
 ((1, 13), { mark := .free }),
 ((1, 10), { mark := (.loc 0) }),
 ((0, 0), { box := some 0 }),
 ((1, 4), { mode := .peek }),
 ((1, 8), { mode := .peek }),
 ((1, 15), { uses := [(12, .take), (22, .take)] })],
 []⟩
def a36 : AFunc := ⟨4, 26, 1, [],
 .seq (.region false [o_ 5 (.boxL 0 (.t 1))])
 (.region true [o_ 8 (.mv (.t 0)),
 o_ 9 (.mv (.t 0)),
 o_ 10 (.nilCheck (.t 9)),
 o_ 11 (.fieldAddr 0 (.t 10)),
 o_ 12 (.load false 1 (.t 11) .peek),
 o_ 13 (.mv (.t 0)),
 o_ 14 (.nilCheck (.t 13)),
 o_ 15 (.fieldAddr 0 (.t 14)),
 o_ 16 (.load false 1 (.t 15) .peek),
 o_ 17 (.lenSl (.t 16)),
 ⟨(some 18), none, false, .load true 4 (.t 5) .copy, (.loc 0)⟩,
 o_ 19 (.mv (.t 2)),
 o_ 20 (.mv (.t 3)),
 ⟨(some 21), none, false, .build [(.int .i64 0), (.int .i64 0), (.int .i64 0), (.int .i64 0), (.int .i64 0), (.int .i64 0), (.bool false)] [(0, 1, (.t 17)), (1, 4, (.t 18)), (5, 1, (.t 19)), (6, 1, (.t 20))], .free⟩,
 ⟨(some 22), none, false, .buildSlice 7 [(.int .i64 0), (.int .i64 0), (.int .i64 0), (.int .i64 0), (.int .i64 0), (.int .i64 0), (.bool false)] 1 [(0, (.t 21))], .free⟩,
 o_ 23 (.append 7 (.u 12 .take) (.u 22 .take)),
 o_ 24 (.nilCheck (.t 8)),
 o_ 25 (.fieldAddr 0 (.t 24)),
 ⟨none, none, false, .store 1 (.t 25) (.u 23 .take), .mem⟩])⟩
theorem c36 : zap Go.Proofs.Tryz.prog p36 36 = some a36 := by decide +kernel
def p37 : Plan := ⟨[], 3, [((2, 13), { mark := (.loc 0) }),
 ((2, 11), { mark := (.loc 0) }),
 ((2, 9), { mark := .free }),
 ((2, 8), { mark := (.loc 1) }),
 ((2, 6), { mark := (.loc 0) }),
 ((2, 4), { mark := .free }),
 ((2, 3), { mark := (.loc 1) }),
 ((2, 1), { mark := (.loc 0) }),
 ((1, 5), { mark := (.loc 1) }),
 ((1, 4), { mark := (.loc 0) }),
 ((1, 3), { mark := .free, pure := true }),
 ((1, 2), { mark := (.loc 1) }),
 ((1, 1), { mark := .free, pure := true }),
 ((1, 0), { mark := (.loc 0) }),
 ((0, 0), { box := some 0 }),
 ((0, 1), { box := some 1 }),
 ((0, 2), { box := some 2 }),
 ((3, 12), { pure := true }),
 ((4, 12), { pure := true }),
 ((5, 1), { pure := true })],
 []⟩
def a37 : AFunc := ⟨2, 51, 3, [.cell 4 true 4],
 .seq (.region false [o_ 2 (.boxL 0 (.t 0)),
 o_ 3 (.boxL 1 (.t 1)),
 o_ 4 (.allocL 2 [(.int .i64 0), (.int .i64 0), (.int .i64 0), (.int .i64 0)])])
 (.seq (.region true [⟨(some 5), none, false, .load true 4 (.t 2) .copy, (.loc 0)⟩,
 ⟨(some 6), none, false, .callP 25 [(.t 5)], .free⟩,
 ⟨(some 7), none, false, .load true 4 (.t 3) .copy, (.loc 1)⟩,
 ⟨(some 8), none, false, .callP 25 [(.t 7)], .free⟩,
 ⟨none, none, false, .store 4 (.t 2) (.t 6), (.loc 0)⟩,
 ⟨none, none, false, .store 4 (.t 3) (.t 8), (.loc 1)⟩])
 (.seq (.region true [o_ 9 (.fieldAddr 2 (.t 2)),
 ⟨(some 10), none, false, .load false 1 (.t 9) .copy, (.loc 0)⟩,
 o_ 11 (.fieldAddr 2 (.t 3)),
 ⟨(some 12), none, false, .load false 1 (.t 11) .copy, (.loc 1)⟩,
 ⟨(some 13), none, false, .minMax false (.t 10) [(.t 12)], .free⟩,
 o_ 14 (.fieldAddr 3 (.t 2)),
 ⟨(some 15), none, false, .load false 1 (.t 14) .copy, (.loc 0)⟩,
 o_ 16 (.fieldAddr 3 (.t 3)),
 ⟨(some 17), none, false, .load false 1 (.t 16) .copy, (.loc 1)⟩,
 ⟨(some 18), none, false, .minMax false (.t 15) [(.t 17)], .free⟩,
 o_ 19 (.fieldAddr 2 (.t 2)),
 ⟨none, none, false, .store 1 (.t 19) (.t 13), (.loc 0)⟩,
 o_ 20 (.fieldAddr 3 (.t 2)),
 ⟨none, none, false, .store 1 (.t 20) (.t 18), (.loc 0)⟩])
 (.seq (.region false [o_ 21 (.fieldAddr 0 (.t 2)),
 o_ 22 (.load false 1 (.t 21) .copy),
 o_ 23 (.fieldAddr 0 (.t 3)),
 o_ 24 (.load false 1 (.t 23) .copy),
 o_ 25 (.fieldAddr 0 (.t 3)),
 o_ 26 (.load false 1 (.t 25) .copy),
 o_ 27 (.fieldAddr 2 (.t 3)),
 o_ 28 (.load false 1 (.t 27) .copy),
 o_ 29 (.bin .add (.t 26) (.t 28)),
 o_ 30 (.fieldAddr 2 (.t 2)),
 o_ 31 (.load false 1 (.t 30) .copy),
 o_ 32 (.bin .sub (.t 29) (.t 31)),
 o_ 33 (.callP 55 [(.t 22), (.t 24), (.t 32)]),
 o_ 34 (.fieldAddr 0 (.t 2)),
 ⟨none, none, false, .store 1 (.t 34) (.t 33), .none⟩])
 (.seq (.region false [o_ 35 (.fieldAddr 1 (.t 2)),
 o_ 36 (.load false 1 (.t 35) .copy),
 o_ 37 (.fieldAddr 1 (.t 3)),
 o_ 38 (.load false 1 (.t 37) .copy),
 o_ 39 (.fieldAddr 1 (.t 3)),
 o_ 40 (.load false 1 (.t 39) .copy),
 o_ 41 (.fieldAddr 3 (.t 3)),
 o_ 42 (.load false 1 (.t 41) .copy),
 o_ 43 (.bin .add (.t 40) (.t 42)),
 o_ 44 (.fieldAddr 3 (.t 2)),
 o_ 45 (.load false 1 (.t 44) .copy),
 o_ 46 (.bin .sub (.t 43) (.t 45)),
 o_ 47 (.callP 55 [(.t 36), (.t 38), (.t 46)]),
 o_ 48 (.fieldAddr 1 (.t 2)),
 ⟨none, none, false, .store 1 (.t 48) (.t 47), .none⟩])
 (.seq (.region false [o_ 49 (.load true 4 (.t 2) .copy),
 o_ 50 (.callP 25 [(.t 49)]),
 ⟨none, none, false, .store 4 (.t 4) (.t 50), .none⟩])
 (.ret))))))⟩
def v37 : List Nat := [0, 1, 2, 3, 4]
theorem c37 : zap Go.Proofs.Tryz.prog p37 37 = some a37 := by decide +kernel
def p44 : Plan := ⟨[], 2, [((0, 0), { box := some 0 }),
 ((1, 2), { uses := [(6, .share)] }),
 ((1, 3), { box := some 1 })],
 []⟩
def a44 : AFunc := ⟨2, 14, 2, [.tmp 4],
 .seq (.region false [o_ 2 (.boxL 0 (.t 0)),
 o_ 4 (.mv (.c (.int .i64 0)))])
 (.seq (.region false [o_ 6 (.load true 4 (.t 2) .copy),
 o_ 7 (.mv (.t 1)),
 o_ 8 (.callF 69 [(.u 6 .share), (.t 7)]),
 o_ 5 (.allocL 1 [(.int .i64 0), (.str []), (.int .i64 0), (.bool false)]),
 ⟨none, none, false, .store 4 (.t 5) (.t 8), .none⟩])
 (.seq (.seq (.region false [o_ 9 (.fieldAddr 0 (.t 5)),
 o_ 10 (.load false 1 (.t 9) .copy),
 o_ 11 (.bin .neq (.t 10) (.c (.int .i64 2)))])
 (.cond (.t 11)
 (.seq (.region false [o_ 4 (.mv (.c (.int .i64 0)))])
 (.ret))
 (.skip)))
 (.seq (.region false [o_ 12 (.fieldAddr 2 (.t 5)),
 o_ 13 (.load false 1 (.t 12) .copy),
 o_ 4 (.mv (.t 13))])
 (.ret))))⟩
theorem c44 : zap Go.Proofs.Tryz.prog p44 44 = some a44 := by decide +kernel
def p45 : Plan := ⟨[], 6, [((2, 6), { uses := [(24, .take)], mark := (.loc 3) }),
 ((2, 4), { mark := .cool }),
 ((2, 3), { mark := (.loc 2) }),
 ((2, 2), { mark := .cool, pure := true }),
 ((2, 1), { mark := (.loc 0) }),
 ((2, 0), { mark := (.fa 0) }),
 ((0, 0), { box := some 0 }),
 ((0, 1), { box := some 1 }),
 ((1, 1), { uses := [(16, .share)] }),
 ((1, 5), { box := some 2 }),
 ((2, 5), { box := some 3 }),
 ((5, 0), { mode := .take }),
 ((5, 1), { uses := [(47, .share)] }),
 ((7, 1), { mode := .peek }),
 ((7, 6), { mode := .peek }),
 ((8, 1), { mode := .peek }),
 ((9, 0), { mode := .take }),
 ((9, 1), { uses := [(69, .share)] }),
 ((11, 0), { mode := .take }),
 ((11, 1), { uses := [(74, .share)] }),
 ((14, 2), { box := some 4 }),
 ((14, 3), { uses := [(81, .take)] }),
 ((15, 0), { mode := .take }),
 ((15, 4), { uses := [(83, .share)] }),
 ((15, 8), { box := some 5 }),
 ((15, 9), { uses := [(88, .take)] }),
 ((17, 0), { mode := .take }),
 ((17, 1), { uses := [(92, .share)] }),
 ((18, 1), { mode := .take }),
 ((18, 2), { mode := .take }),
 ((18, 3), { uses := [(95, .share)] }),
 ((18, 4), { uses := [(94, .take), (96, .take)] }),
 ((18, 6), { uses := [(97, .take)] }),
 ((20, 0), { mode := .take }),
 ((20, 1), { uses := [(100, .share)] })],
 [[1, 2, 6, 10, 76, 77, 78]]⟩
def a45 : AFunc := ⟨3, 101, 6, [.cell 6 true 6, .tmp 7],
 .seq (.region false [o_ 3 (.boxL 0 (.t 0)),
 o_ 6 (.allocL 1 [(.int .i64 0), (.int .i64 0), (.int .i64 0), (.str []), .nils, .nils]),
 o_ 7 (.mv (.c (.bool false)))])
 (.seq (.region false [o_ 16 (.load true 4 (.t 3) .copy),
 o_ 17 (.callF 70 [(.u 16 .share)]),
 o_ 15 (.mv (.t 17)),
 o_ 18 (.extract (.t 15) 0),
 o_ 19 (.extract (.t 15) 1),
 o_ 8 (.allocL 2 [(.int .i64 0), (.int .i64 0)]),
 ⟨none, none, false, .store 2 (.t 8) (.t 18), .none⟩,
 o_ 9 (.mv (.t 19))])
 (.seq (.region true [⟨(some 20), none, false, .fieldAddr 0 (.t 3), (.fa 0)⟩,
 ⟨(some 21), none, false, .load false 1 (.t 20) .copy, (.loc 0)⟩,
 ⟨(some 22), none, false, .callP 71 [(.t 21)], .cool⟩,
 ⟨(some 23), none, false, .load true 2 (.t 8) .copy, (.loc 2)⟩,
 ⟨(some 24), none, false, .build [(.int .i64 0), (.int .i64 0), (.int .i64 0), (.str []), .nils, .nils] [(0, 1, (.t 22)), (1, 2, (.t 23))], .cool⟩,
 o_ 10 (.allocL 3 [(.int .i64 0), (.int .i64 0), (.int .i64 0), (.str []), .nils, .nils]),
 ⟨none, none, false, .store 6 (.t 10) (.u 24 .take), (.loc 3)⟩])
 (.seq (.region false [o_ 25 (.mv (.t 2)),
 o_ 26 (.nilCheck (.t 25)),
 o_ 27 (.load false 1 (.t 26) .copy),
 o_ 28 (.bin .add (.t 27) (.c (.int .i64 1))),
 o_ 29 (.nilCheck (.t 25)),
 ⟨none, none, false, .store 1 (.t 29) (.t 28), .none⟩])
 (.seq (.seq (.region false [o_ 30 (.mv (.t 9)),
 o_ 31 (.un .not (.t 30)),
 o_ 32 (.mv (.t 31)),
 ⟨(some 33), (some (32, false)), false, .fieldAddr 0 (.t 10), .none⟩,
 ⟨(some 34), (some (32, false)), false, .load false 1 (.t 33) .copy, .none⟩,
 ⟨(some 35), (some (32, false)), false, .bin .eql (.t 34) (.c (.int .i64 0)), .none⟩,
 o_ 36 (.pick (.t 32) (.c (.bool true)) (.t 35)),
 o_ 37 (.mv (.t 36)),
 ⟨(some 38), (some (37, false)), false, .mv (.t 1), .none⟩,
 ⟨(some 39), (some (37, false)), false, .bin .gtr (.t 38) (.c (.int .i64 12)), .none⟩,
 o_ 40 (.pick (.t 37) (.c (.bool true)) (.t 39)),
 o_ 41 (.mv (.t 40)),
 ⟨(some 42), (some (41, false)), false, .mv (.t 2), .none⟩,
 ⟨(some 43), (some (41, false)), false, .nilCheck (.t 42), .none⟩,
 ⟨(some 44), (some (41, false)), false, .load false 1 (.t 43) .copy, .none⟩,
 ⟨(some 45), (some (41, false)), false, .bin .gtr (.t 44) (.c (.int .i64 288)), .none⟩,
 o_ 46 (.pick (.t 41) (.c (.bool true)) (.t 45))])
 (.cond (.t 46)
 (.seq (.region false [o_ 47 (.load true 6 (.t 10) .take),
 ⟨none, none, false, .store 6 (.t 6) (.u 47 .share), .none⟩,
 o_ 7 (.mv (.c (.bool false)))])
 (.ret))
 (.skip)))
 (.seq (.seq (.region false [o_ 48 (.fieldAddr 0 (.t 10)),
 o_ 49 (.load false 1 (.t 48) .copy),
 o_ 50 (.bin .eql (.t 49) (.c (.int .i64 1)))])
 (.cond (.t 50)
 (.seq (.seq (.region false [o_ 51 (.fieldAddr 1 (.t 3)),
 o_ 52 (.load false 1 (.t 51) .peek),
 o_ 53 (.lenSl (.t 52)),
 o_ 54 (.bin .gtr (.t 53) (.c (.int .i64 0))),
 o_ 55 (.mv (.t 54)),
 ⟨(some 56), (some (55, true)), false, .fieldAddr 1 (.t 3), .none⟩,
 ⟨(some 57), (some (55, true)), false, .load false 1 (.t 56) .peek, .none⟩,
 ⟨(some 58), (some (55, true)), false, .indexSl 4 (.t 57) (.c (.int .i64 0)), .none⟩,
 ⟨(some 59), (some (55, true)), false, .fieldAddr 0 (.t 58), .none⟩,
 ⟨(some 60), (some (55, true)), false, .load false 1 (.t 59) .copy, .none⟩,
 ⟨(some 61), (some (55, true)), false, .bin .eql (.t 60) (.c (.int .i64 1)), .none⟩,
 o_ 62 (.pick (.t 55) (.t 61) (.c (.bool false)))])
 (.cond (.t 62)
 (.region false [o_ 63 (.fieldAddr 1 (.t 3)),
 o_ 64 (.load false 1 (.t 63) .peek),
 o_ 65 (.indexSl 4 (.t 64) (.c (.int .i64 0))),
 o_ 66 (.fieldAddr 1 (.t 65)),
 o_ 67 (.load false 1 (.t 66) .copy),
 o_ 68 (.fieldAddr 3 (.t 10)),
 ⟨none, none, false, .store 1 (.t 68) (.t 67), .none⟩])
 (.skip)))
 (.seq (.region false [o_ 69 (.load true 6 (.t 10) .take),
 ⟨none, none, false, .store 6 (.t 6) (.u 69 .share), .none⟩,
 o_ 7 (.mv (.c (.bool true)))])
 (.ret)))
 (.skip)))
 (.seq (.seq (.region false [o_ 70 (.fieldAddr 3 (.t 3)),
 o_ 71 (.load false 1 (.t 70) .copy),
 o_ 72 (.lenSl (.t 71)),
 o_ 73 (.bin .gtr (.t 72) (.c (.int .i64 16)))])
 (.cond (.t 73)
 (.seq (.region false [o_ 74 (.load true 6 (.t 10) .take),
 ⟨none, none, false, .store 6 (.t 6) (.u 74 .share), .none⟩,
 o_ 7 (.mv (.c (.bool false)))])
 (.ret))
 (.skip)))
 (.seq (.seq (.region false [o_ 75 (.fieldAddr 3 (.t 3)),
 o_ 76 (.load false 1 (.t 75) .copy),
 o_ 77 (.lenSl (.t 76)),
 o_ 78 (.mv (.c (.int .i64 0)))])
 (.block 0 (.loop [1, 2, 6, 10, 76, 77, 78] (.seq (.region false [o_ 79 (.bin .lss (.t 78) (.t 77))])
 (.seq (.cond (.t 79)
 (.skip)
 (.exit 0))
 (.seq (.block 1 (.seq (.region false [o_ 80 (.indexSl 4 (.t 76) (.t 78)),
 o_ 81 (.load true 4 (.t 80) .copy),
 o_ 12 (.allocL 4 [(.str []), .nils, .nils, .nils]),
 ⟨none, none, false, .store 4 (.t 12) (.u 81 .take), .none⟩])
 (.seq (.region false [o_ 83 (.load true 4 (.t 12) .take),
 o_ 84 (.mv (.t 1)),
 o_ 85 (.bin .add (.t 84) (.c (.int .i64 1))),
 o_ 86 (.mv (.t 2)),
 o_ 87 (.callF 45 [(.u 83 .share), (.t 85), (.t 86)]),
 o_ 82 (.mv (.t 87)),
 o_ 88 (.extract (.t 82) 0),
 o_ 89 (.extract (.t 82) 1),
 o_ 13 (.allocL 5 [(.int .i64 0), (.int .i64 0), (.int .i64 0), (.str []), .nils, .nils]),
 ⟨none, none, false, .store 6 (.t 13) (.u 88 .take), .none⟩,
 o_ 14 (.mv (.t 89))])
 (.seq (.seq (.region false [o_ 90 (.mv (.t 14)),
 o_ 91 (.un .not (.t 90))])
 (.cond (.t 91)
 (.seq (.region false [o_ 92 (.load true 6 (.t 10) .take),
 ⟨none, none, false, .store 6 (.t 6) (.u 92 .share), .none⟩,
 o_ 7 (.mv (.c (.bool false)))])
 (.ret))
 (.skip)))
 (.region false [o_ 93 (.fieldAddr 4 (.t 10)),
 o_ 94 (.load false 1 (.t 93) .take),
 o_ 95 (.load true 6 (.t 13) .take),
 o_ 96 (.buildSlice 6 [(.int .i64 0), (.int .i64 0), (.int .i64 0), (.str []), .nils, .nils] 1 [(0, (.u 95 .share))]),
 o_ 97 (.append 6 (.u 94 .take) (.u 96 .take)),
 o_ 98 (.fieldAddr 4 (.t 10)),
 ⟨none, none, false, .store 1 (.t 98) (.u 97 .take), .none⟩])))))
 (.region false [o_ 99 (.bin .add (.t 78) (.c (.int .i64 1))),
 o_ 78 (.mv (.t 99))])))))))
 (.seq (.region false [o_ 100 (.load true 6 (.t 10) .take),
 ⟨none, none, false, .store 6 (.t 6) (.u 100 .share), .none⟩,
 o_ 7 (.mv (.c (.bool true)))])
 (.ret)))))))))⟩
theorem c45 : zap Go.Proofs.Tryz.prog p45 45 = some a45 := by decide +kernel
def p50 : Plan := ⟨[], 1, [((0, 1), { box := some 0 }),
 ((8, 0), { uses := [(5, .take)] }),
 ((8, 4), { uses := [(32, .take), (35, .take)] }),
 ((8, 5), { uses := [(36, .take)] }),
 ((12, 0), { uses := [(5, .take)] }),
 ((12, 2), { uses := [(53, .share)] })],
 [[0, 3, 4, 5]]⟩
def a50 : AFunc := ⟨1, 55, 1, [.tmp 2, .cell 3 true 2],
 .seq (.region false [o_ 2 (.mv (.c .nils)),
 o_ 3 (.allocL 0 [(.int .i64 0), (.int .i64 0)])])
 (.seq (.seq (.region false [o_ 6 (.mv (.t 0)),
 o_ 7 (.lenStr (.t 6)),
 o_ 8 (.bin .gtr (.t 7) (.c (.int .i64 4096)))])
 (.cond (.t 8)
 (.seq (.region false [o_ 9 (.build [(.int .i64 0), (.int .i64 0)] [(0, 1, (.c (.int .i64 2)))]),
 o_ 2 (.mv (.c .nils)),
 ⟨none, none, false, .store 2 (.t 3) (.t 9), .none⟩])
 (.ret))
 (.skip)))
 (.seq (.region false [o_ 10 (.mv (.t 0)),
 o_ 11 (.build [(.str []), (.int .i64 0), (.int .i64 0), (.int .i64 0)] [(0, 1, (.t 10))]),
 o_ 12 (.boxM (.t 11)),
 o_ 4 (.mv (.t 12))])
 (.seq (.region false [o_ 5 (.mv (.c .nils))])
 (.seq (.seq (.region false [o_ 13 (.mv (.t 4)),
 o_ 14 (.callF 74 [(.t 13)])])
 (.block 0 (.loop [0, 3, 4, 5] (.seq (.seq (.region false [o_ 15 (.mv (.t 4)),
 o_ 16 (.nilCheck (.t 15)),
 o_ 17 (.fieldAddr 1 (.t 16)),
 o_ 18 (.load false 1 (.t 17) .copy),
 o_ 19 (.mv (.t 0)),
 o_ 20 (.lenStr (.t 19)),
 o_ 21 (.bin .lss (.t 18) (.t 20)),
 o_ 22 (.mv (.t 21)),
 ⟨(some 23), (some (22, true)), false, .mv (.t 4), .none⟩,
 ⟨(some 24), (some (22, true)), false, .nilCheck (.t 23), .none⟩,
 ⟨(some 25), (some (22, true)), false, .fieldAddr 2 (.t 24), .none⟩,
 ⟨(some 26), (some (22, true)), false, .fieldAddr 0 (.t 25), .none⟩,
 ⟨(some 27), (some (22, true)), false, .load false 1 (.t 26) .copy, .none⟩,
 ⟨(some 28), (some (22, true)), false, .bin .eql (.t 27) (.c (.int .i64 0)), .none⟩,
 o_ 29 (.pick (.t 22) (.t 28) (.c (.bool false)))])
 (.cond (.t 29)
 (.skip)
 (.exit 0)))
 (.seq (.block 1 (.seq (.region false [o_ 32 (.mv (.u 5 .take)),
 o_ 33 (.mv (.t 4)),
 o_ 34 (.callF 75 [(.t 33)]),
 o_ 35 (.buildSlice 4 [(.int .i64 0), (.str []), (.int .i64 0), (.int .i64 0)] 1 [(0, (.t 34))]),
 o_ 36 (.append 4 (.u 32 .take) (.u 35 .take)),
 o_ 5 (.mv (.u 36 .take))])
 (.seq (.region false [o_ 37 (.mv (.t 4)),
 o_ 38 (.nilCheck (.t 37)),
 o_ 39 (.fieldAddr 2 (.t 38)),
 o_ 40 (.fieldAddr 0 (.t 39)),
 o_ 41 (.load false 1 (.t 40) .copy),
 o_ 42 (.bin .neq (.t 41) (.c (.int .i64 0)))])
 (.cond (.t 42)
 (.exit 0)
 (.skip)))))
 (.region false [o_ 30 (.mv (.t 4)),
 o_ 31 (.callF 74 [(.t 30)])]))))))
 (.seq (.seq (.region false [o_ 43 (.mv (.t 4)),
 o_ 44 (.nilCheck (.t 43)),
 o_ 45 (.fieldAddr 2 (.t 44)),
 o_ 46 (.fieldAddr 0 (.t 45)),
 o_ 47 (.load false 1 (.t 46) .copy),
 o_ 48 (.bin .neq (.t 47) (.c (.int .i64 0)))])
 (.cond (.t 48)
 (.seq (.region true [o_ 49 (.mv (.t 4)),
 o_ 50 (.nilCheck (.t 49)),
 o_ 51 (.fieldAddr 2 (.t 50)),
 o_ 52 (.load true 2 (.t 51) .copy),
 o_ 2 (.mv (.c .nils)),
 ⟨none, none, false, .store 2 (.t 3) (.t 52), .none⟩])
 (.ret))
 (.skip)))
 (.seq (.region false [o_ 53 (.mv (.u 5 .take)),
 o_ 54 (.build [(.int .i64 0), (.int .i64 0)] []),
 o_ 2 (.mv (.u 53 .share)),
 ⟨none, none, false, .store 2 (.t 3) (.t 54), .none⟩])
 (.ret)))))))⟩
theorem c50 : zap Go.Proofs.Tryz.prog p50 50 = some a50 := by decide +kernel
def p51 : Plan := ⟨[], 1, [((3, 2), { box := some 0 }),
 ((7, 1), { pure := true }),
 ((8, 0), { uses := [(5, .take)] }),
 ((8, 4), { uses := [(33, .share)] }),
 ((8, 5), { uses := [(30, .take), (34, .take)] }),
 ((8, 6), { uses := [(35, .take)] }),
 ((4, 0), { uses := [(5, .take)] }),
 ((4, 1), { uses := [(15, .take)] })],
 [[0, 1, 5]]⟩
def a51 : AFunc := ⟨2, 36, 1, [.tmp 4],
 .seq (.region false [o_ 4 (.mv (.c .nils))])
 (.seq (.region false [o_ 5 (.mv (.c .nils))])
 (.seq (.block 0 (.loop [0, 1, 5] (.seq (.seq (.region false [o_ 7 (.mv (.t 0)),
 o_ 8 (.nilCheck (.t 7)),
 o_ 9 (.fieldAddr 4 (.t 8)),
 o_ 10 (.fieldAddr 0 (.t 9)),
 o_ 11 (.load false 1 (.t 10) .copy),
 o_ 12 (.bin .eql (.t 11) (.c (.int .i64 0)))])
 (.cond (.t 12)
 (.skip)
 (.exit 0)))
 (.block 1 (.seq (.region false [o_ 13 (.mv (.t 0)),
 o_ 14 (.callF 76 [(.t 13), (.c (.int .i64 0))]),
 o_ 6 (.allocL 0 [(.int .i64 0), (.str []), (.int .i64 0), (.int .i64 0)]),
 ⟨none, none, false, .store 4 (.t 6) (.t 14), .none⟩])
 (.block 2 (.seq (.region false [o_ 17 (.fieldAddr 0 (.t 6)),
 o_ 18 (.load false 1 (.t 17) .copy),
 o_ 19 (.bin .eql (.t 18) (.c (.int .i64 5))),
 o_ 16 (.mv (.t 19))])
 (.cond (.t 16)
 (.region false [o_ 20 (.mv (.t 0)),
 o_ 21 (.nilCheck (.t 20)),
 o_ 22 (.fieldAddr 1 (.t 21)),
 o_ 23 (.load false 1 (.t 22) .copy),
 o_ 24 (.bin .add (.t 23) (.c (.int .i64 1))),
 o_ 25 (.nilCheck (.t 20)),
 o_ 26 (.fieldAddr 1 (.t 25)),
 ⟨none, none, false, .store 1 (.t 26) (.t 24), .none⟩])
 (.seq (.region false [o_ 28 (.load true 4 (.t 6) .copy),
 o_ 29 (.callP 77 [(.t 28)]),
 o_ 27 (.mv (.t 29))])
 (.cond (.t 27)
 (.region false [o_ 30 (.mv (.u 5 .take)),
 o_ 31 (.mv (.t 0)),
 o_ 32 (.mv (.t 1)),
 o_ 33 (.callF 78 [(.t 31), (.t 32)]),
 o_ 34 (.buildSlice 4 [(.str []), .nils, .nils, .nils] 1 [(0, (.u 33 .share))]),
 o_ 35 (.append 4 (.u 30 .take) (.u 34 .take)),
 o_ 5 (.mv (.u 35 .take))])
 (.seq (.region false [o_ 15 (.mv (.u 5 .take)),
 o_ 4 (.mv (.u 15 .take))])
 (.ret))))))))))))
 (.seq (.region false [o_ 4 (.mv (.c .nils))])
 (.ret))))⟩
def v51 : List Nat := [0, 1, 4, 5, 6, 12, 16, 27]
theorem c51 : zap Go.Proofs.Tryz.prog p51 51 = some a51 := by decide +kernel
def p52 : Plan := ⟨[], 0, [],
 []⟩
def a52 : AFunc := ⟨1, 23, 0, [],
 .seq (.seq (.region true [o_ 2 (.mv (.t 0)),
 o_ 3 (.nilCheck (.t 2)),
 o_ 4 (.fieldAddr 1 (.t 3)),
 o_ 5 (.load false 1 (.t 4) .copy),
 o_ 6 (.mv (.t 0)),
 o_ 7 (.nilCheck (.t 6)),
 o_ 8 (.fieldAddr 0 (.t 7)),
 o_ 9 (.load false 1 (.t 8) .copy),
 o_ 10 (.lenSl (.t 9)),
 o_ 11 (.bin .geq (.t 5) (.t 10))])
 (.cond (.t 11)
 (.seq (.region false [o_ 12 (.mv (.t 0)),
 o_ 13 (.mv (.t 0)),
 o_ 14 (.nilCheck (.t 13)),
 o_ 15 (.fieldAddr 2 (.t 14)),
 o_ 16 (.load false 1 (.t 15) .copy),
 o_ 17 (.callF 79 [(.t 12), (.c (.int .i64 82)), (.t 16)])])
 (.ret))
 (.skip)))
 (.region false [o_ 18 (.mv (.t 0)),
 o_ 19 (.mv (.t 0)),
 o_ 20 (.callF 76 [(.t 19), (.c (.int .i64 0))]),
 o_ 21 (.field false 1 3 (.t 20)),
 o_ 22 (.callF 79 [(.t 18), (.c (.int .i64 80)), (.t 21)])])⟩
theorem c52 : zap Go.Proofs.Tryz.prog p52 52 = some a52 := by decide +kernel
def p53 : Plan := ⟨[], 1, [((0, 0), { box := some 0 }),
 ((1, 1), { pure := true })],
 []⟩
def a53 : AFunc := ⟨3, 37, 1, [.tmp 6],
 .seq (.region false [o_ 3 (.boxL 0 (.t 0)),
 o_ 6 (.mv (.c (.bool false)))])
 (.seq (.region false [o_ 7 (.load true 4 (.t 3) .copy),
 o_ 8 (.callP 25 [(.t 7)]),
 ⟨none, none, false, .store 4 (.t 3) (.t 8), .none⟩])
 (.seq (.region false [o_ 9 (.mv (.t 1)),
 o_ 10 (.fieldAddr 0 (.t 3)),
 o_ 11 (.load false 1 (.t 10) .copy),
 o_ 12 (.bin .geq (.t 9) (.t 11)),
 o_ 13 (.mv (.t 12)),
 ⟨(some 14), (some (13, true)), false, .mv (.t 1), .none⟩,
 ⟨(some 15), (some (13, true)), false, .fieldAddr 0 (.t 3), .none⟩,
 ⟨(some 16), (some (13, true)), false, .load false 1 (.t 15) .copy, .none⟩,
 ⟨(some 17), (some (13, true)), false, .fieldAddr 2 (.t 3), .none⟩,
 ⟨(some 18), (some (13, true)), false, .load false 1 (.t 17) .copy, .none⟩,
 ⟨(some 19), (some (13, true)), false, .bin .add (.t 16) (.t 18), .none⟩,
 ⟨(some 20), (some (13, true)), false, .bin .lss (.t 14) (.t 19), .none⟩,
 o_ 21 (.pick (.t 13) (.t 20) (.c (.bool false))),
 o_ 22 (.mv (.t 21)),
 ⟨(some 23), (some (22, true)), false, .mv (.t 2), .none⟩,
 ⟨(some 24), (some (22, true)), false, .fieldAddr 1 (.t 3), .none⟩,
 ⟨(some 25), (some (22, true)), false, .load false 1 (.t 24) .copy, .none⟩,
 ⟨(some 26), (some (22, true)), false, .bin .geq (.t 23) (.t 25), .none⟩,
 o_ 27 (.pick (.t 22) (.t 26) (.c (.bool false))),
 o_ 28 (.mv (.t 27)),
 ⟨(some 29), (some (28, true)), false, .mv (.t 2), .none⟩,
 ⟨(some 30), (some (28, true)), false, .fieldAddr 1 (.t 3), .none⟩,
 ⟨(some 31), (some (28, true)), false, .load false 1 (.t 30) .copy, .none⟩,
 ⟨(some 32), (some (28, true)), false, .fieldAddr 3 (.t 3), .none⟩,
 ⟨(some 33), (some (28, true)), false, .load false 1 (.t 32) .copy, .none⟩,
 ⟨(some 34), (some (28, true)), false, .bin .add (.t 31) (.t 33), .none⟩,
 ⟨(some 35), (some (28, true)), false, .bin .lss (.t 29) (.t 34), .none⟩,
 o_ 36 (.pick (.t 28) (.t 35) (.c (.bool false))),
 o_ 6 (.mv (.t 36))])
 (.ret)))⟩
def v53 : List Nat := [0, 1, 2, 3, 6]
theorem c53 : zap Go.Proofs.Tryz.prog p53 53 = some a53 := by decide +kernel
def p55 : Plan := ⟨[], 0, [],
 []⟩
def a55 : AFunc := ⟨3, 12, 0, [.tmp 6],
 .seq (.region false [o_ 6 (.mv (.c (.int .i64 0)))])
 (.seq (.region false [o_ 7 (.mv (.t 1)),
 o_ 8 (.mv (.t 0)),
 o_ 9 (.mv (.t 2)),
 o_ 10 (.minMax false (.t 8) [(.t 9)]),
 o_ 11 (.minMax true (.t 7) [(.t 10)]),
 o_ 6 (.mv (.t 11))])
 (.ret))⟩
theorem c55 : zap Go.Proofs.Tryz.prog p55 55 = some a55 := by decide +kernel
def p56 : Plan := ⟨[], 0, [((1, 2), { uses := [(5, .share)] })],
 []⟩
def a56 : AFunc := ⟨2, 9, 0, [.tmp 4],
 .seq (.region false [o_ 4 (.mv (.c (.bool false)))])
 (.seq (.region false [o_ 5 (.mv (.t 0)),
 o_ 6 (.mv (.t 1)),
 o_ 7 (.callF 80 [(.u 5 .share), (.t 6)]),
 o_ 8 (.bin .geq (.t 7) (.c (.int .i64 0))),
 o_ 4 (.mv (.t 8))])
 (.ret))⟩
theorem c56 : zap Go.Proofs.Tryz.prog p56 56 = some a56 := by decide +kernel
def p57 : Plan := ⟨[], 1, [((0, 0), { box := some 0 }),
 ((1, 1), { pure := true })],
 []⟩
def a57 : AFunc := ⟨1, 6, 1, [.tmp 2],
 .seq (.region false [o_ 1 (.boxL 0 (.t 0)),
 o_ 2 (.mv (.c (.bool false)))])
 (.seq (.region false [o_ 3 (.load true 2 (.t 1) .copy),
 o_ 4 (.callP 58 [(.t 3)]),
 o_ 5 (.bin .neq (.t 4) (.c (.int .i64 0))),
 o_ 2 (.mv (.t 5))])
 (.ret))⟩
theorem c57 : zap Go.Proofs.Tryz.prog p57 57 = some a57 := by decide +kernel
def p58 : Plan := ⟨[], 1, [((0, 0), { box := some 0 })],
 []⟩
def a58 : AFunc := ⟨1, 35, 1, [.tmp 2],
 .seq (.region false [o_ 1 (.boxL 0 (.t 0)),
 o_ 2 (.mv (.c (.int .i64 0)))])
 (.seq (.block 0 (.seq (.region false [o_ 4 (.fieldAddr 0 (.t 1)),
 o_ 5 (.load false 1 (.t 4) .copy),
 o_ 6 (.bin .eql (.t 5) (.c (.int .i64 0))),
 o_ 3 (.mv (.t 6))])
 (.cond (.t 3)
 (.skip)
 (.seq (.region false [o_ 8 (.fieldAddr 0 (.t 1)),
 o_ 9 (.load false 1 (.t 8) .copy),
 o_ 10 (.bin .eql (.t 9) (.c (.int .i64 1))),
 o_ 11 (.mv (.t 10)),
 ⟨(some 12), (some (11, true)), false, .fieldAddr 1 (.t 1), .none⟩,
 ⟨(some 13), (some (11, true)), false, .load false 1 (.t 12) .copy, .none⟩,
 ⟨(some 14), (some (11, true)), false, .bin .geq (.t 13) (.c (.int .i64 1)), .none⟩,
 o_ 15 (.pick (.t 11) (.t 14) (.c (.bool false))),
 o_ 16 (.mv (.t 15)),
 ⟨(some 17), (some (16, true)), false, .fieldAddr 1 (.t 1), .none⟩,
 ⟨(some 18), (some (16, true)), false, .load false 1 (.t 17) .copy, .none⟩,
 ⟨(some 19), (some (16, true)), false, .bin .leq (.t 18) (.c (.int .i64 200)), .none⟩,
 o_ 20 (.pick (.t 16) (.t 19) (.c (.bool false))),
 o_ 7 (.mv (.t 20))])
 (.cond (.t 7)
 (.skip)
 (.seq (.region false [o_ 22 (.fieldAddr 0 (.t 1)),
 o_ 23 (.load false 1 (.t 22) .copy),
 o_ 24 (.bin .eql (.t 23) (.c (.int .i64 2))),
 o_ 25 (.mv (.t 24)),
 ⟨(some 26), (some (25, true)), false, .fieldAddr 1 (.t 1), .none⟩,
 ⟨(some 27), (some (25, true)), false, .load false 1 (.t 26) .copy, .none⟩,
 ⟨(some 28), (some (25, true)), false, .bin .geq (.t 27) (.c (.int .i64 1)), .none⟩,
 o_ 29 (.pick (.t 25) (.t 28) (.c (.bool false))),
 o_ 30 (.mv (.t 29)),
 ⟨(some 31), (some (30, true)), false, .fieldAddr 1 (.t 1), .none⟩,
 ⟨(some 32), (some (30, true)), false, .load false 1 (.t 31) .copy, .none⟩,
 ⟨(some 33), (some (30, true)), false, .bin .leq (.t 32) (.c (.int .i64 100)), .none⟩,
 o_ 34 (.pick (.t 30) (.t 33) (.c (.bool false))),
 o_ 21 (.mv (.t 34))])
 (.cond (.t 21)
 (.skip)
 (.seq (.region false [o_ 2 (.mv (.c (.int .i64 1)))])
 (.ret)))))))))
 (.seq (.region false [o_ 2 (.mv (.c (.int .i64 0)))])
 (.ret)))⟩
theorem c58 : zap Go.Proofs.Tryz.prog p58 58 = some a58 := by decide +kernel
def p59 : Plan := ⟨[], 1, [((0, 0), { box := some 0 })],
 []⟩
def a59 : AFunc := ⟨2, 19, 1, [.tmp 4],
 .seq (.region false [o_ 3 (.boxL 0 (.t 1)),
 o_ 4 (.mv (.c (.int .i64 0)))])
 (.seq (.seq (.region false [o_ 5 (.fieldAddr 0 (.t 3)),
 o_ 6 (.load false 1 (.t 5) .copy)])
 (.block 0 (.seq (.region false [o_ 8 (.bin .eql (.t 6) (.c (.int .i64 1))),
 o_ 7 (.mv (.t 8))])
 (.cond (.t 7)
 (.seq (.region false [o_ 9 (.fieldAddr 1 (.t 3)),
 o_ 10 (.load false 1 (.t 9) .copy),
 o_ 4 (.mv (.t 10))])
 (.ret))
 (.seq (.region false [o_ 12 (.bin .eql (.t 6) (.c (.int .i64 2))),
 o_ 11 (.mv (.t 12))])
 (.cond (.t 11)
 (.seq (.region false [o_ 13 (.mv (.t 0)),
 o_ 14 (.fieldAddr 1 (.t 3)),
 o_ 15 (.load false 1 (.t 14) .copy),
 o_ 16 (.bin .mul (.t 13) (.t 15)),
 o_ 17 (.bin .quo (.t 16) (.c (.int .i64 100))),
 o_ 18 (.minMax true (.t 17) [(.c (.int .i64 1))]),
 o_ 4 (.mv (.t 18))])
 (.ret))
 (.skip)))))))
 (.seq (.region false [o_ 4 (.mv (.c (.int .i64 1)))])
 (.ret)))⟩
theorem c59 : zap Go.Proofs.Tryz.prog p59 59 = some a59 := by decide +kernel
def p60 : Plan := ⟨[], 0, [],
 []⟩
def a60 : AFunc := ⟨2, 32, 0, [.tmp 4],
 .seq (.region false [o_ 4 (.mv (.c (.int .i64 0)))])
 (.seq (.region false [o_ 6 (.mv (.t 0)),
 o_ 7 (.mv (.t 1)),
 o_ 8 (.bin .add (.t 6) (.t 7)),
 o_ 5 (.mv (.t 8))])
 (.block 0 (.seq (.region false [o_ 11 (.mv (.t 0)),
 o_ 12 (.bin .gtr (.t 11) (.c (.int .i64 0))),
 o_ 13 (.mv (.t 12)),
 ⟨(some 14), (some (13, true)), false, .mv (.t 1), .none⟩,
 ⟨(some 15), (some (13, true)), false, .bin .gtr (.t 14) (.c (.int .i64 0)), .none⟩,
 o_ 16 (.pick (.t 13) (.t 15) (.c (.bool false))),
 o_ 17 (.mv (.t 16)),
 ⟨(some 18), (some (17, true)), false, .mv (.t 5), .none⟩,
 ⟨(some 19), (some (17, true)), false, .bin .lss (.t 18) (.c (.int .i64 0)), .none⟩,
 o_ 20 (.pick (.t 17) (.t 19) (.c (.bool false))),
 o_ 10 (.mv (.t 20))])
 (.cond (.t 10)
 (.seq (.region false [o_ 4 (.mv (.c (.int .i64 9223372036854775807)))])
 (.ret))
 (.seq (.region false [o_ 22 (.mv (.t 0)),
 o_ 23 (.bin .lss (.t 22) (.c (.int .i64 0))),
 o_ 24 (.mv (.t 23)),
 ⟨(some 25), (some (24, true)), false, .mv (.t 1), .none⟩,
 ⟨(some 26), (some (24, true)), false, .bin .lss (.t 25) (.c (.int .i64 0)), .none⟩,
 o_ 27 (.pick (.t 24) (.t 26) (.c (.bool false))),
 o_ 28 (.mv (.t 27)),
 ⟨(some 29), (some (28, true)), false, .mv (.t 5), .none⟩,
 ⟨(some 30), (some (28, true)), false, .bin .geq (.t 29) (.c (.int .i64 0)), .none⟩,
 o_ 31 (.pick (.t 28) (.t 30) (.c (.bool false))),
 o_ 21 (.mv (.t 31))])
 (.cond (.t 21)
 (.seq (.region false [o_ 4 (.mv (.c (.int .i64 (-9223372036854775808))))])
 (.ret))
 (.seq (.region false [o_ 9 (.mv (.t 5)),
 o_ 4 (.mv (.t 9))])
 (.ret))))))))⟩
theorem c60 : zap Go.Proofs.Tryz.prog p60 60 = some a60 := by decide +kernel
def p61 : Plan := ⟨[], 1, [((0, 0), { box := some 0 }),
 ((1, 9), { pure := true })],
 []⟩
def a61 : AFunc := ⟨4, 19, 1, [.cell 8 true 4],
 .seq (.region false [o_ 8 (.allocL 0 [(.int .i64 0), (.int .i64 0), (.int .i64 0), (.int .i64 0)])])
 (.seq (.region false [o_ 9 (.mv (.t 0)),
 o_ 10 (.mv (.t 1)),
 o_ 11 (.mv (.t 2)),
 o_ 12 (.mv (.t 0)),
 o_ 13 (.bin .sub (.t 11) (.t 12)),
 o_ 14 (.mv (.t 3)),
 o_ 15 (.mv (.t 1)),
 o_ 16 (.bin .sub (.t 14) (.t 15)),
 o_ 17 (.build [(.int .i64 0), (.int .i64 0), (.int .i64 0), (.int .i64 0)] [(0, 1, (.t 9)), (1, 1, (.t 10)), (2, 1, (.t 13)), (3, 1, (.t 16))]),
 o_ 18 (.callP 25 [(.t 17)]),
 ⟨none, none, false, .store 4 (.t 8) (.t 18), .none⟩])
 (.ret))⟩
theorem c61 : zap Go.Proofs.Tryz.prog p61 61 = some a61 := by decide +kernel
def p62 : Plan := ⟨[8, 11, 60], 4, [((0, 0), { box := some 0 }),
 ((0, 1), { box := some 1 }),
 ((7, 2), { box := some 2 }),
 ((7, 3), { uses := [(30, .take)] }),
 ((8, 0), { uses := [(8, .take)] }),
 ((8, 4), { uses := [(31, .take), (34, .take)] }),
 ((8, 5), { uses := [(35, .take)] }),
 ((10, 1), { uses := [(8, .take)] }),
 ((10, 2), { uses := [(39, .share)], pure := true }),
 ((10, 6), { uses := [(41, .take)] }),
 ((12, 0), { uses := [(8, .peek)] }),
 ((12, 3), { uses := [(47, .take)] }),
 ((13, 0), { uses := [(11, .peek)] }),
 ((16, 0), { uses := [(11, .peek)] }),
 ((18, 1), { uses := [(11, .take)] }),
 ((18, 3), { uses := [(58, .share)], pure := true }),
 ((18, 4), { uses := [(60, .peek)] }),
 ((20, 1), { uses := [(60, .peek)] }),
 ((20, 3), { box := some 3 }),
 ((21, 7), { uses := [(72, .share)] })],
 [[0, 4, 5, 6, 7, 8, 25, 26, 27], [0, 4, 5, 7, 11, 49, 50], [0, 4, 60, 61, 62]]⟩
def a62 : AFunc := ⟨3, 76, 4, [],
 .seq (.region false [o_ 4 (.boxL 0 (.t 1)),
 o_ 5 (.boxL 1 (.t 2))])
 (.seq (.region true [o_ 16 (.fieldAddr 2 (.t 5)),
 o_ 17 (.load false 1 (.t 16) .copy),
 o_ 18 (.fieldAddr 0 (.t 4)),
 o_ 19 (.load false 1 (.t 18) .copy),
 o_ 20 (.bin .eql (.t 19) (.c (.int .i64 3))),
 o_ 6 (.mv (.t 17)),
 o_ 7 (.mv (.t 20))])
 (.seq (.seq (.region false [o_ 21 (.mv (.t 7))])
 (.cond (.t 21)
 (.region false [o_ 22 (.fieldAddr 3 (.t 5)),
 o_ 23 (.load false 1 (.t 22) .copy),
 o_ 6 (.mv (.t 23))])
 (.skip)))
 (.seq (.region false [⟨(some 8), none, true, .mv (.c .nils), .none⟩])
 (.seq (.seq (.region false [o_ 24 (.fieldAddr 4 (.t 4)),
 o_ 25 (.load false 1 (.t 24) .copy),
 o_ 26 (.lenSl (.t 25)),
 o_ 27 (.mv (.c (.int .i64 0)))])
 (.block 0 (.loop [0, 4, 5, 6, 7, 8, 25, 26, 27] (.seq (.region false [o_ 28 (.bin .lss (.t 27) (.t 26))])
 (.seq (.cond (.t 28)
 (.skip)
 (.exit 0))
 (.seq (.block 1 (.seq (.region false [o_ 29 (.indexSl 6 (.t 25) (.t 27)),
 o_ 30 (.load true 6 (.t 29) .copy),
 o_ 10 (.allocL 2 [(.int .i64 0), (.int .i64 0), (.int .i64 0), (.str []), .nils, .nils]),
 ⟨none, none, false, .store 6 (.t 10) (.u 30 .take), .none⟩])
 (.region false [o_ 31 (.mv (.u 8 .take)),
 o_ 32 (.fieldAddr 1 (.t 10)),
 o_ 33 (.load true 2 (.t 32) .copy),
 o_ 34 (.buildSlice 2 [(.int .i64 0), (.int .i64 0)] 1 [(0, (.t 33))]),
 o_ 35 (.append 2 (.u 31 .take) (.u 34 .take)),
 ⟨(some 8), none, true, .mv (.u 35 .take), .none⟩])))
 (.region false [o_ 36 (.bin .add (.t 27) (.c (.int .i64 1))),
 o_ 27 (.mv (.t 36))])))))))
 (.seq (.region false [o_ 38 (.mv (.t 6)),
 o_ 39 (.mv (.u 8 .take)),
 o_ 40 (.callP 27 [(.t 38), (.u 39 .share)]),
 o_ 37 (.mv (.t 40)),
 o_ 41 (.extract (.t 37) 0),
 o_ 42 (.extract (.t 37) 1),
 ⟨(some 11), none, true, .mv (.u 41 .take), .none⟩,
 o_ 12 (.mv (.t 42))])
 (.seq (.seq (.region false [o_ 43 (.mv (.t 12)),
 o_ 44 (.bin .neq (.t 43) (.c (.int .i64 0)))])
 (.cond (.t 44)
 (.seq (.region false [o_ 45 (.mv (.u 8 .peek)),
 o_ 46 (.lenSl (.t 45)),
 o_ 47 (.makeSlice 1 [(.int .i64 0)] (.t 46) (.t 46)),
 ⟨(some 11), none, true, .mv (.u 47 .take), .none⟩])
 (.seq (.region false [o_ 48 (.mv (.u 11 .peek)),
 o_ 49 (.lenSl (.t 48)),
 o_ 50 (.mv (.c (.int .i64 0)))])
 (.block 2 (.loop [0, 4, 5, 7, 11, 49, 50] (.seq (.region false [o_ 51 (.bin .lss (.t 50) (.t 49))])
 (.seq (.cond (.t 51)
 (.skip)
 (.exit 2))
 (.seq (.block 3 (.seq (.region false [o_ 52 (.mv (.t 50)),
 o_ 13 (.mv (.t 52))])
 (.region false [o_ 53 (.mv (.u 11 .peek)),
 o_ 54 (.mv (.t 13)),
 o_ 55 (.indexSl 1 (.t 53) (.t 54)),
 ⟨none, none, false, .store 1 (.t 55) (.c (.int .i64 1)), .none⟩])))
 (.region false [o_ 56 (.bin .add (.t 50) (.c (.int .i64 1))),
 o_ 50 (.mv (.t 56))]))))))))
 (.skip)))
 (.seq (.region false [o_ 57 (.load true 4 (.t 5) .copy),
 o_ 58 (.mv (.u 11 .take)),
 o_ 59 (.mv (.t 7)),
 ⟨(some 60), none, true, .callP 81 [(.t 57), (.u 58 .share), (.t 59)], .none⟩,
 o_ 61 (.lenSl (.u 60 .peek)),
 o_ 62 (.mv (.c (.int .i64 0)))])
 (.block 4 (.loop [0, 4, 60, 61, 62] (.seq (.region false [o_ 63 (.bin .lss (.t 62) (.t 61))])
 (.seq (.cond (.t 63)
 (.skip)
 (.exit 4))
 (.seq (.block 5 (.seq (.region false [o_ 64 (.mv (.t 62)),
 o_ 65 (.indexSl 4 (.u 60 .peek) (.t 62)),
 o_ 66 (.load true 4 (.t 65) .copy),
 o_ 15 (.allocL 3 [(.int .i64 0), (.int .i64 0), (.int .i64 0), (.int .i64 0)]),
 o_ 14 (.mv (.t 64)),
 ⟨none, none, false, .store 4 (.t 15) (.t 66), .none⟩])
 (.region true [o_ 67 (.mv (.t 0)),
 o_ 68 (.fieldAddr 4 (.t 4)),
 o_ 69 (.load false 1 (.t 68) .copy),
 o_ 70 (.mv (.t 14)),
 o_ 71 (.indexSl 6 (.t 69) (.t 70)),
 o_ 72 (.load true 6 (.t 71) .copy),
 o_ 73 (.load true 4 (.t 15) .copy),
 o_ 74 (.callF 35 [(.t 67), (.u 72 .share), (.t 73)])])))
 (.region false [o_ 75 (.bin .add (.t 62) (.c (.int .i64 1))),
 o_ 62 (.mv (.t 75))])))))))))))))⟩
theorem c62 : zap Go.Proofs.Tryz.prog p62 62 = some a62 := by decide +kernel
def p69 : Plan := ⟨[], 3, [((0, 0), { box := some 0 }),
 ((0, 1), { box := some 1 }),
 ((1, 1), { mode := .peek }),
 ((3, 2), { box := some 2 })],
 [[1, 4, 8, 9, 10]]⟩
def a69 : AFunc := ⟨2, 22, 3, [.cell 4 true 4],
 .seq (.region false [o_ 2 (.boxL 0 (.t 0)),
 o_ 4 (.allocL 1 [(.int .i64 0), (.str []), (.int .i64 0), (.bool false)])])
 (.seq (.seq (.region false [o_ 7 (.fieldAddr 2 (.t 2)),
 o_ 8 (.load false 1 (.t 7) .peek),
 o_ 9 (.lenSl (.t 8)),
 o_ 10 (.mv (.c (.int .i64 0)))])
 (.block 0 (.loop [1, 4, 8, 9, 10] (.seq (.region false [o_ 11 (.bin .lss (.t 10) (.t 9))])
 (.seq (.cond (.t 11)
 (.skip)
 (.exit 0))
 (.seq (.block 1 (.seq (.region false [o_ 12 (.indexSl 5 (.t 8) (.t 10)),
 o_ 13 (.load true 5 (.t 12) .copy),
 o_ 6 (.allocL 2 [(.str []), (.int .i64 0), (.str []), (.int .i64 0), (.bool false)]),
 ⟨none, none, false, .store 5 (.t 6) (.t 13), .none⟩])
 (.seq (.region false [o_ 14 (.fieldAddr 0 (.t 6)),
 o_ 15 (.load false 1 (.t 14) .copy),
 o_ 16 (.mv (.t 1)),
 o_ 17 (.bin .eql (.t 15) (.t 16))])
 (.cond (.t 17)
 (.seq (.region false [o_ 18 (.fieldAddr 1 (.t 6)),
 o_ 19 (.load true 4 (.t 18) .copy),
 ⟨none, none, false, .store 4 (.t 4) (.t 19), .none⟩])
 (.ret))
 (.skip)))))
 (.region false [o_ 20 (.bin .add (.t 10) (.c (.int .i64 1))),
 o_ 10 (.mv (.t 20))])))))))
 (.seq (.region false [o_ 21 (.build [(.int .i64 0), (.str []), (.int .i64 0), (.bool false)] []),
 ⟨none, none, false, .store 4 (.t 4) (.t 21), .none⟩])
 (.ret)))⟩
theorem c69 : zap Go.Proofs.Tryz.prog p69 69 = some a69 := by decide +kernel
def p70 : Plan := ⟨[], 4, [((10, 4), { mark := (.loc 1) }),
 ((10, 2), { mark := .free, pure := true }),
 ((10, 1), { mark := (.loc 3) }),
 ((10, 0), { mark := (.loc 3) }),
 ((0, 0), { box := some 0 }),
 ((0, 1), { box := some 1 }),
 ((1, 1), { uses := [(9, .share)] }),
 ((1, 2), { box := some 2 }),
 ((2, 0), { box := some 3 }),
 ((5, 6), { pure := true }),
 ((6, 2), { pure := true })],
 []⟩
def a70 : AFunc := ⟨1, 49, 4, [.cell 2 true 2, .tmp 3],
 .seq (.region false [o_ 1 (.boxL 0 (.t 0)),
 o_ 2 (.allocL 1 [(.int .i64 0), (.int .i64 0)]),
 o_ 3 (.mv (.c (.bool false)))])
 (.seq (.region false [o_ 9 (.load true 4 (.t 1) .copy),
 o_ 10 (.callF 69 [(.u 9 .share), (.c (.str [115, 105, 122, 101]))]),
 o_ 4 (.allocL 2 [(.int .i64 0), (.str []), (.int .i64 0), (.bool false)]),
 ⟨none, none, false, .store 4 (.t 4) (.t 10), .none⟩])
 (.seq (.region false [o_ 5 (.allocL 3 [(.int .i64 0), (.int .i64 0)])])
 (.seq (.block 0 (.seq (.region false [o_ 12 (.fieldAddr 0 (.t 4)),
 o_ 13 (.load false 1 (.t 12) .copy),
 o_ 14 (.bin .eql (.t 13) (.c (.int .i64 2))),
 o_ 11 (.mv (.t 14))])
 (.cond (.t 11)
 (.region false [o_ 15 (.fieldAddr 2 (.t 4)),
 o_ 16 (.load false 1 (.t 15) .copy),
 o_ 17 (.build [(.int .i64 0), (.int .i64 0)] [(0, 1, (.c (.int .i64 1))), (1, 1, (.t 16))]),
 ⟨none, none, false, .store 2 (.t 5) (.t 17), .none⟩])
 (.seq (.region false [o_ 19 (.fieldAddr 0 (.t 4)),
 o_ 20 (.load false 1 (.t 19) .copy),
 o_ 21 (.bin .eql (.t 20) (.c (.int .i64 1))),
 o_ 22 (.mv (.t 21)),
 ⟨(some 23), (some (22, true)), false, .fieldAddr 1 (.t 4), .none⟩,
 ⟨(some 24), (some (22, true)), false, .load false 1 (.t 23) .copy, .none⟩,
 ⟨(some 25), (some (22, true)), false, .callP 85 [(.t 24), (.c (.str [37]))], .none⟩,
 o_ 26 (.pick (.t 22) (.t 25) (.c (.bool false))),
 o_ 18 (.mv (.t 26))])
 (.cond (.t 18)
 (.seq (.region false [o_ 27 (.fieldAddr 1 (.t 4)),
 o_ 28 (.load false 1 (.t 27) .copy),
 o_ 29 (.callP 86 [(.t 28), (.c (.str [37]))]),
 o_ 6 (.mv (.t 29))])
 (.seq (.region false [o_ 31 (.mv (.t 6)),
 o_ 32 (.callF 87 [(.t 31), (.c (.int .i64 10)), (.c (.int .i64 16))]),
 o_ 30 (.mv (.t 32)),
 o_ 33 (.extract (.t 30) 0),
 o_ 34 (.extract (.t 30) 1),
 o_ 7 (.mv (.t 33)),
 o_ 8 (.mv (.t 34))])
 (.seq (.region false [o_ 35 (.mv (.t 8)),
 o_ 36 (.eq false .iface (.t 35) (.c .nili)),
 o_ 37 (.mv (.t 36)),
 ⟨(some 38), (some (37, true)), false, .mv (.t 6), .none⟩,
 ⟨(some 39), (some (37, true)), false, .lenStr (.t 38), .none⟩,
 ⟨(some 40), (some (37, true)), false, .bin .leq (.t 39) (.c (.int .i64 3)), .none⟩,
 o_ 41 (.pick (.t 37) (.t 40) (.c (.bool false)))])
 (.cond (.t 41)
 (.region false [o_ 42 (.mv (.t 7)),
 o_ 43 (.conv .i64 (.t 42)),
 o_ 44 (.build [(.int .i64 0), (.int .i64 0)] [(0, 1, (.c (.int .i64 2))), (1, 1, (.t 43))]),
 ⟨none, none, false, .store 2 (.t 5) (.t 44), .none⟩])
 (.skip)))))
 (.skip))))))
 (.seq (.region true [⟨(some 45), none, false, .load true 2 (.t 5) .copy, (.loc 3)⟩,
 ⟨(some 46), none, false, .load true 2 (.t 5) .copy, (.loc 3)⟩,
 ⟨(some 47), none, false, .callP 58 [(.t 46)], .free⟩,
 o_ 48 (.bin .eql (.t 47) (.c (.int .i64 0))),
 ⟨none, none, false, .store 2 (.t 2) (.t 45), (.loc 1)⟩,
 o_ 3 (.mv (.t 48))])
 (.ret)))))⟩
theorem c70 : zap Go.Proofs.Tryz.prog p70 70 = some a70 := by decide +kernel
def p71 : Plan := ⟨[], 0, [],
 []⟩
def a71 : AFunc := ⟨1, 12, 0, [.tmp 2],
 .seq (.region false [o_ 2 (.mv (.c (.int .i64 0)))])
 (.seq (.seq (.region false [o_ 3 (.mv (.t 0))])
 (.block 0 (.seq (.region false [o_ 5 (.bin .eql (.t 3) (.c (.str [112, 97, 110, 101]))),
 o_ 4 (.mv (.t 5))])
 (.cond (.t 4)
 (.seq (.region false [o_ 2 (.mv (.c (.int .i64 1)))])
 (.ret))
 (.seq (.region false [o_ 7 (.bin .eql (.t 3) (.c (.str [99, 111, 108, 115]))),
 o_ 6 (.mv (.t 7))])
 (.cond (.t 6)
 (.seq (.region false [o_ 2 (.mv (.c (.int .i64 2)))])
 (.ret))
 (.seq (.region false [o_ 9 (.bin .eql (.t 3) (.c (.str [114, 111, 119, 115]))),
 o_ 8 (.mv (.t 9))])
 (.cond (.t 8)
 (.seq (.region false [o_ 2 (.mv (.c (.int .i64 3)))])
 (.ret))
 (.seq (.region false [o_ 11 (.bin .eql (.t 3) (.c (.str [115, 116, 97, 99, 107]))),
 o_ 10 (.mv (.t 11))])
 (.cond (.t 10)
 (.seq (.region false [o_ 2 (.mv (.c (.int .i64 4)))])
 (.ret))
 (.skip)))))))))))
 (.seq (.region false [o_ 2 (.mv (.c (.int .i64 0)))])
 (.ret)))⟩
theorem c71 : zap Go.Proofs.Tryz.prog p71 71 = some a71 := by decide +kernel
def p74 : Plan := ⟨[], 0, [((2, 2), { pure := true }),
 ((4, 1), { pure := true }),
 ((5, 1), { pure := true }),
 ((9, 1), { pure := true }),
 ((10, 2), { pure := true })],
 [[0]]⟩
def a74 : AFunc := ⟨1, 81, 0, [],
 .block 0 (.loop [0] (.seq (.seq (.region true [o_ 5 (.mv (.t 0)),
 o_ 6 (.nilCheck (.t 5)),
 o_ 7 (.fieldAddr 1 (.t 6)),
 o_ 8 (.load false 1 (.t 7) .copy),
 o_ 9 (.mv (.t 0)),
 o_ 10 (.nilCheck (.t 9)),
 o_ 11 (.fieldAddr 0 (.t 10)),
 o_ 12 (.load false 1 (.t 11) .copy),
 o_ 13 (.lenStr (.t 12)),
 o_ 14 (.bin .lss (.t 8) (.t 13))])
 (.cond (.t 14)
 (.skip)
 (.exit 0)))
 (.block 1 (.seq (.region true [o_ 15 (.mv (.t 0)),
 o_ 16 (.nilCheck (.t 15)),
 o_ 17 (.fieldAddr 0 (.t 16)),
 o_ 18 (.load false 1 (.t 17) .copy),
 o_ 19 (.mv (.t 0)),
 o_ 20 (.nilCheck (.t 19)),
 o_ 21 (.fieldAddr 1 (.t 20)),
 o_ 22 (.load false 1 (.t 21) .copy),
 o_ 23 (.sliceS (.t 18) (some (.t 22)) none),
 o_ 2 (.mv (.t 23))])
 (.block 2 (.seq (.region false [o_ 25 (.mv (.t 2)),
 o_ 26 (.indexStr (.t 25) (.c (.int .i64 0))),
 o_ 27 (.callP 88 [(.t 26)]),
 o_ 24 (.mv (.t 27))])
 (.cond (.t 24)
 (.region false [o_ 28 (.mv (.t 0)),
 o_ 29 (.nilCheck (.t 28)),
 o_ 30 (.fieldAddr 1 (.t 29)),
 o_ 31 (.load false 1 (.t 30) .copy),
 o_ 32 (.bin .add (.t 31) (.c (.int .i64 1))),
 o_ 33 (.nilCheck (.t 28)),
 o_ 34 (.fieldAddr 1 (.t 33)),
 ⟨none, none, false, .store 1 (.t 34) (.t 32), .none⟩])
 (.seq (.region false [o_ 36 (.mv (.t 2)),
 o_ 37 (.callP 89 [(.t 36), (.c (.str [47, 47]))]),
 o_ 35 (.mv (.t 37))])
 (.cond (.t 35)
 (.seq (.region false [o_ 38 (.mv (.t 2)),
 o_ 39 (.callP 90 [(.t 38), (.c (.int .u8 10))]),
 o_ 3 (.mv (.t 39))])
 (.seq (.region false [o_ 40 (.mv (.t 3)),
 o_ 41 (.bin .geq (.t 40) (.c (.int .i64 0)))])
 (.cond (.t 41)
 (.region false [o_ 42 (.mv (.t 0)),
 o_ 43 (.nilCheck (.t 42)),
 o_ 44 (.fieldAddr 1 (.t 43)),
 o_ 45 (.load false 1 (.t 44) .copy),
 o_ 46 (.mv (.t 3)),
 o_ 47 (.bin .add (.t 45) (.t 46)),
 o_ 48 (.nilCheck (.t 42)),
 o_ 49 (.fieldAddr 1 (.t 48)),
 ⟨none, none, false, .store 1 (.t 49) (.t 47), .none⟩])
 (.region false [o_ 50 (.mv (.t 0)),
 o_ 51 (.mv (.t 0)),
 o_ 52 (.nilCheck (.t 51)),
 o_ 53 (.fieldAddr 0 (.t 52)),
 o_ 54 (.load false 1 (.t 53) .copy),
 o_ 55 (.lenStr (.t 54)),
 o_ 56 (.nilCheck (.t 50)),
 o_ 57 (.fieldAddr 1 (.t 56)),
 ⟨none, none, false, .store 1 (.t 57) (.t 55), .none⟩]))))
 (.seq (.region false [o_ 59 (.mv (.t 2)),
 o_ 60 (.callP 89 [(.t 59), (.c (.str [47, 42]))]),
 o_ 58 (.mv (.t 60))])
 (.cond (.t 58)
 (.seq (.region false [o_ 61 (.mv (.t 2)),
 o_ 62 (.sliceS (.t 61) (some (.c (.int .i64 2))) none),
 o_ 63 (.callP 91 [(.t 62), (.c (.str [42, 47]))]),
 o_ 4 (.mv (.t 63))])
 (.seq (.seq (.region false [o_ 64 (.mv (.t 4)),
 o_ 65 (.bin .lss (.t 64) (.c (.int .i64 0)))])
 (.cond (.t 65)
 (.seq (.region false [o_ 66 (.mv (.t 0)),
 o_ 67 (.mv (.t 0)),
 o_ 68 (.nilCheck (.t 67)),
 o_ 69 (.fieldAddr 1 (.t 68)),
 o_ 70 (.load false 1 (.t 69) .copy),
 o_ 71 (.callF 92 [(.t 66), (.c (.int .i64 71)), (.t 70)])])
 (.ret))
 (.skip)))
 (.region false [o_ 72 (.mv (.t 0)),
 o_ 73 (.nilCheck (.t 72)),
 o_ 74 (.fieldAddr 1 (.t 73)),
 o_ 75 (.load false 1 (.t 74) .copy),
 o_ 76 (.mv (.t 4)),
 o_ 77 (.bin .add (.t 76) (.c (.int .i64 4))),
 o_ 78 (.bin .add (.t 75) (.t 77)),
 o_ 79 (.nilCheck (.t 72)),
 o_ 80 (.fieldAddr 1 (.t 79)),
 ⟨none, none, false, .store 1 (.t 80) (.t 78), .none⟩])))
 (.ret))))))))))))⟩
theorem c74 : zap Go.Proofs.Tryz.prog p74 74 = some a74 := by decide +kernel
def p75 : Plan := ⟨[], 2, [((0, 0), { box := some 0 }),
 ((1, 5), { box := some 1 }),
 ((14, 1), { pure := true }),
 ((14, 8), { pure := true }),
 ((20, 5), { pure := true }),
 ((22, 1), { pure := true })],
 []⟩
def a75 : AFunc := ⟨1, 129, 2, [.cell 2 true 4],
 .seq (.region false [o_ 2 (.allocL 0 [(.int .i64 0), (.str []), (.int .i64 0), (.int .i64 0)])])
 (.seq (.region false [o_ 6 (.mv (.t 0)),
 o_ 7 (.nilCheck (.t 6)),
 o_ 8 (.fieldAddr 1 (.t 7)),
 o_ 9 (.load false 1 (.t 8) .copy),
 o_ 10 (.build [(.int .i64 0), (.str []), (.int .i64 0), (.int .i64 0)] [(3, 1, (.t 9))]),
 o_ 3 (.allocL 1 [(.int .i64 0), (.str []), (.int .i64 0), (.int .i64 0)]),
 ⟨none, none, false, .store 4 (.t 3) (.t 10), .none⟩])
 (.seq (.seq (.region false [o_ 11 (.mv (.t 0)),
 o_ 12 (.callF 93 [(.t 11), (.c (.int .i64 0))]),
 o_ 4 (.mv (.t 12))])
 (.block 0 (.seq (.region false [o_ 20 (.mv (.t 4)),
 o_ 21 (.bin .eql (.t 20) (.c (.int .u8 10))),
 o_ 22 (.mv (.t 21)),
 ⟨(some 23), (some (22, false)), false, .mv (.t 4), .none⟩,
 ⟨(some 24), (some (22, false)), false, .bin .eql (.t 23) (.c (.int .u8 59)), .none⟩,
 o_ 25 (.pick (.t 22) (.c (.bool true)) (.t 24)),
 o_ 19 (.mv (.t 25))])
 (.cond (.t 19)
 (.seq (.region false [o_ 26 (.fieldAddr 0 (.t 3)),
 ⟨none, none, false, .store 1 (.t 26) (.c (.int .i64 5)), .none⟩])
 (.region false [o_ 27 (.mv (.t 0)),
 o_ 28 (.nilCheck (.t 27)),
 o_ 29 (.fieldAddr 1 (.t 28)),
 o_ 30 (.load false 1 (.t 29) .copy),
 o_ 31 (.bin .add (.t 30) (.c (.int .i64 1))),
 o_ 32 (.nilCheck (.t 27)),
 o_ 33 (.fieldAddr 1 (.t 32)),
 ⟨none, none, false, .store 1 (.t 33) (.t 31), .none⟩]))
 (.seq (.region false [o_ 35 (.mv (.t 4)),
 o_ 36 (.bin .eql (.t 35) (.c (.int .u8 123))),
 o_ 37 (.mv (.t 36)),
 ⟨(some 38), (some (37, false)), false, .mv (.t 4), .none⟩,
 ⟨(some 39), (some (37, false)), false, .bin .eql (.t 38) (.c (.int .u8 125)), .none⟩,
 o_ 40 (.pick (.t 37) (.c (.bool true)) (.t 39)),
 o_ 41 (.mv (.t 40)),
 ⟨(some 42), (some (41, false)), false, .mv (.t 4), .none⟩,
 ⟨(some 43), (some (41, false)), false, .bin .eql (.t 42) (.c (.int .u8 61)), .none⟩,
 o_ 44 (.pick (.t 41) (.c (.bool true)) (.t 43)),
 o_ 34 (.mv (.t 44))])
 (.cond (.t 34)
 (.seq (.region false [o_ 45 (.fieldAddr 0 (.t 3)),
 ⟨none, none, false, .store 1 (.t 45) (.c (.int .i64 4)), .none⟩])
 (.region false [o_ 46 (.mv (.t 0)),
 o_ 47 (.nilCheck (.t 46)),
 o_ 48 (.fieldAddr 1 (.t 47)),
 o_ 49 (.load false 1 (.t 48) .copy),
 o_ 50 (.bin .add (.t 49) (.c (.int .i64 1))),
 o_ 51 (.nilCheck (.t 46)),
 o_ 52 (.fieldAddr 1 (.t 51)),
 ⟨none, none, false, .store 1 (.t 52) (.t 50), .none⟩]))
 (.seq (.region false [o_ 54 (.mv (.t 4)),
 o_ 55 (.bin .eql (.t 54) (.c (.int .u8 34))),
 o_ 53 (.mv (.t 55))])
 (.cond (.t 53)
 (.seq (.region false [o_ 56 (.fieldAddr 0 (.t 3)),
 ⟨none, none, false, .store 1 (.t 56) (.c (.int .i64 2)), .none⟩])
 (.seq (.region false [o_ 57 (.mv (.t 0)),
 o_ 58 (.callF 94 [(.t 57)]),
 o_ 59 (.fieldAddr 1 (.t 3)),
 ⟨none, none, false, .store 1 (.t 59) (.t 58), .none⟩])
 (.seq (.region false [o_ 60 (.load true 4 (.t 3) .copy),
 ⟨none, none, false, .store 4 (.t 2) (.t 60), .none⟩])
 (.ret))))
 (.seq (.region false [o_ 62 (.mv (.t 4)),
 o_ 63 (.callP 95 [(.t 62)]),
 o_ 64 (.mv (.t 63)),
 ⟨(some 65), (some (64, false)), false, .mv (.t 4), .none⟩,
 ⟨(some 66), (some (64, false)), false, .bin .eql (.t 65) (.c (.int .u8 45)), .none⟩,
 ⟨(some 67), (some (64, false)), false, .mv (.t 66), .none⟩,
 ⟨(some 68), (some (67, true)), false, .mv (.t 0), .none⟩,
 ⟨(some 69), (some (67, true)), false, .callF 93 [(.t 68), (.c (.int .i64 1))], .none⟩,
 ⟨(some 70), (some (67, true)), false, .callP 95 [(.t 69)], .none⟩,
 ⟨(some 71), (some (64, false)), false, .pick (.t 67) (.t 70) (.c (.bool false)), .none⟩,
 o_ 72 (.pick (.t 64) (.c (.bool true)) (.t 71)),
 o_ 61 (.mv (.t 72))])
 (.cond (.t 61)
 (.seq (.region false [o_ 73 (.fieldAddr 0 (.t 3)),
 ⟨none, none, false, .store 1 (.t 73) (.c (.int .i64 3)), .none⟩])
 (.seq (.region false [o_ 74 (.mv (.t 0)),
 o_ 75 (.nilCheck (.t 74)),
 o_ 76 (.fieldAddr 1 (.t 75)),
 o_ 77 (.load false 1 (.t 76) .copy),
 o_ 78 (.bin .add (.t 77) (.c (.int .i64 1))),
 o_ 79 (.nilCheck (.t 74)),
 o_ 80 (.fieldAddr 1 (.t 79)),
 ⟨none, none, false, .store 1 (.t 80) (.t 78), .none⟩])
 (.seq (.region false [o_ 81 (.mv (.t 0)),
 o_ 82 (.callF 96 [(.t 81), (.c (.func 95 []))])])
 (.seq (.region false [o_ 5 (.mv (.c .nili))])
 (.seq (.region true [o_ 84 (.mv (.t 0)),
 o_ 85 (.nilCheck (.t 84)),
 o_ 86 (.fieldAddr 0 (.t 85)),
 o_ 87 (.load false 1 (.t 86) .copy),
 o_ 88 (.fieldAddr 3 (.t 3)),
 o_ 89 (.load false 1 (.t 88) .copy),
 o_ 90 (.mv (.t 0)),
 o_ 91 (.nilCheck (.t 90)),
 o_ 92 (.fieldAddr 1 (.t 91)),
 o_ 93 (.load false 1 (.t 92) .copy),
 o_ 94 (.sliceS (.t 87) (some (.t 89)) (some (.t 93))),
 o_ 95 (.callF 97 [(.t 94), (.c (.int .i64 10)), (.c (.int .i64 64))]),
 o_ 83 (.mv (.t 95)),
 o_ 96 (.extract (.t 83) 0),
 o_ 97 (.extract (.t 83) 1),
 o_ 98 (.fieldAddr 2 (.t 3)),
 ⟨none, none, false, .store 1 (.t 98) (.t 96), .none⟩,
 o_ 5 (.mv (.t 97))])
 (.seq (.region false [o_ 99 (.mv (.t 5)),
 o_ 100 (.eq true .iface (.t 99) (.c .nili)),
 o_ 101 (.mv (.t 100)),
 ⟨(some 102), (some (101, false)), false, .mv (.t 0), .none⟩,
 ⟨(some 103), (some (101, false)), false, .callF 93 [(.t 102), (.c (.int .i64 0))], .none⟩,
 ⟨(some 104), (some (101, false)), false, .callP 98 [(.t 103)], .none⟩,
 o_ 105 (.pick (.t 101) (.c (.bool true)) (.t 104))])
 (.cond (.t 105)
 (.region false [o_ 106 (.mv (.t 0)),
 o_ 107 (.fieldAddr 3 (.t 3)),
 o_ 108 (.load false 1 (.t 107) .copy),
 o_ 109 (.callF 92 [(.t 106), (.c (.int .i64 73)), (.t 108)])])
 (.skip))))))))
 (.seq (.region false [o_ 111 (.mv (.t 4)),
 o_ 112 (.callP 98 [(.t 111)]),
 o_ 110 (.mv (.t 112))])
 (.cond (.t 110)
 (.seq (.region false [o_ 113 (.fieldAddr 0 (.t 3)),
 ⟨none, none, false, .store 1 (.t 113) (.c (.int .i64 1)), .none⟩])
 (.region false [o_ 114 (.mv (.t 0)),
 o_ 115 (.callF 96 [(.t 114), (.c (.func 98 []))])]))
 (.region false [o_ 13 (.mv (.t 0)),
 o_ 14 (.mv (.t 0)),
 o_ 15 (.nilCheck (.t 14)),
 o_ 16 (.fieldAddr 1 (.t 15)),
 o_ 17 (.load false 1 (.t 16) .copy),
 o_ 18 (.callF 92 [(.t 13), (.c (.int .i64 70)), (.t 17)])])))))))))))))
 (.seq (.region true [o_ 116 (.mv (.t 0)),
 o_ 117 (.nilCheck (.t 116)),
 o_ 118 (.fieldAddr 0 (.t 117)),
 o_ 119 (.load false 1 (.t 118) .copy),
 o_ 120 (.fieldAddr 3 (.t 3)),
 o_ 121 (.load false 1 (.t 120) .copy),
 o_ 122 (.mv (.t 0)),
 o_ 123 (.nilCheck (.t 122)),
 o_ 124 (.fieldAddr 1 (.t 123)),
 o_ 125 (.load false 1 (.t 124) .copy),
 o_ 126 (.sliceS (.t 119) (some (.t 121)) (some (.t 125))),
 o_ 127 (.fieldAddr 1 (.t 3)),
 ⟨none, none, false, .store 1 (.t 127) (.t 126), .none⟩])
 (.seq (.region false [o_ 128 (.load true 4 (.t 3) .copy),
 ⟨none, none, false, .store 4 (.t 2) (.t 128), .none⟩])
 (.ret)))))⟩
def v75 : List Nat := [0, 2, 3, 4, 5, 19, 34, 53, 61, 105, 110]
theorem c75 : zap Go.Proofs.Tryz.prog p75 75 = some a75 := by decide +kernel
def p76 : Plan := ⟨[], 1, [((0, 0), { box := some 0 })],
 []⟩
def a76 : AFunc := ⟨2, 34, 1, [.cell 4 true 4],
 .seq (.region false [o_ 4 (.allocL 0 [(.int .i64 0), (.str []), (.int .i64 0), (.int .i64 0)])])
 (.seq (.seq (.region true [o_ 5 (.mv (.t 0)),
 o_ 6 (.nilCheck (.t 5)),
 o_ 7 (.fieldAddr 1 (.t 6)),
 o_ 8 (.load false 1 (.t 7) .copy),
 o_ 9 (.mv (.t 1)),
 o_ 10 (.bin .add (.t 8) (.t 9)),
 o_ 11 (.mv (.t 0)),
 o_ 12 (.nilCheck (.t 11)),
 o_ 13 (.fieldAddr 0 (.t 12)),
 o_ 14 (.load false 1 (.t 13) .copy),
 o_ 15 (.lenSl (.t 14)),
 o_ 16 (.bin .lss (.t 10) (.t 15))])
 (.cond (.t 16)
 (.seq (.region true [o_ 17 (.mv (.t 0)),
 o_ 18 (.nilCheck (.t 17)),
 o_ 19 (.fieldAddr 0 (.t 18)),
 o_ 20 (.load false 1 (.t 19) .copy),
 o_ 21 (.mv (.t 0)),
 o_ 22 (.nilCheck (.t 21)),
 o_ 23 (.fieldAddr 1 (.t 22)),
 o_ 24 (.load false 1 (.t 23) .copy),
 o_ 25 (.mv (.t 1)),
 o_ 26 (.bin .add (.t 24) (.t 25)),
 o_ 27 (.indexSl 4 (.t 20) (.t 26)),
 o_ 28 (.load true 4 (.t 27) .copy),
 ⟨none, none, false, .store 4 (.t 4) (.t 28), .none⟩])
 (.ret))
 (.skip)))
 (.seq (.region false [o_ 29 (.mv (.t 0)),
 o_ 30 (.nilCheck (.t 29)),
 o_ 31 (.fieldAddr 2 (.t 30)),
 o_ 32 (.load false 1 (.t 31) .copy),
 o_ 33 (.build [(.int .i64 0), (.str []), (.int .i64 0), (.int .i64 0)] [(3, 1, (.t 32))]),
 ⟨none, none, false, .store 4 (.t 4) (.t 33), .none⟩])
 (.ret)))⟩
theorem c76 : zap Go.Proofs.Tryz.prog p76 76 = some a76 := by decide +kernel
def p77 : Plan := ⟨[], 1, [((0, 0), { box := some 0 })],
 []⟩
def a77 : AFunc := ⟨1, 11, 1, [.tmp 2],
 .seq (.region false [o_ 1 (.boxL 0 (.t 0)),
 o_ 2 (.mv (.c (.bool false)))])
 (.seq (.region false [o_ 3 (.fieldAddr 0 (.t 1)),
 o_ 4 (.load false 1 (.t 3) .copy),
 o_ 5 (.bin .eql (.t 4) (.c (.int .i64 1))),
 o_ 6 (.mv (.t 5)),
 ⟨(some 7), (some (6, false)), false, .fieldAddr 0 (.t 1), .none⟩,
 ⟨(some 8), (some (6, false)), false, .load false 1 (.t 7) .copy, .none⟩,
 ⟨(some 9), (some (6, false)), false, .bin .eql (.t 8) (.c (.int .i64 2)), .none⟩,
 o_ 10 (.pick (.t 6) (.c (.bool true)) (.t 9)),
 o_ 2 (.mv (.t 10))])
 (.ret))⟩
theorem c77 : zap Go.Proofs.Tryz.prog p77 77 = some a77 := by decide +kernel
def p78 : Plan := ⟨[], 1, [((14, 7), { uses := [(69, .take)], mark := .mem }),
 ((14, 4), { mark := .free }),
 ((4, 0), { mode := .take }),
 ((4, 1), { uses := [(23, .take)] }),
 ((8, 2), { box := some 0 }),
 ((11, 1), { pure := true }),
 ((11, 5), { pure := true }),
 ((13, 1), { pure := true }),
 ((14, 1), { mode := .take, past := [4] }),
 ((14, 3), { past := [4] }),
 ((14, 5), { uses := [(65, .take), (68, .take)] }),
 ((15, 1), { pure := true }),
 ((17, 0), { mode := .take }),
 ((17, 1), { uses := [(77, .take)] }),
 ((10, 0), { mode := .take }),
 ((10, 1), { uses := [(45, .take)] }),
 ((18, 0), { mode := .take }),
 ((18, 1), { uses := [(78, .take)] })],
 [[0, 1, 4]]⟩
def a78 : AFunc := ⟨2, 79, 1, [.cell 4 true 4],
 .seq (.region false [o_ 4 (.allocM [(.str []), .nils, .nils, .nils])])
 (.seq (.seq (.region false [o_ 6 (.mv (.t 0)),
 o_ 7 (.nilCheck (.t 6)),
 o_ 8 (.fieldAddr 3 (.t 7)),
 o_ 9 (.load false 1 (.t 8) .copy),
 o_ 10 (.bin .add (.t 9) (.c (.int .i64 1))),
 o_ 11 (.nilCheck (.t 6)),
 o_ 12 (.fieldAddr 3 (.t 11)),
 ⟨none, none, false, .store 1 (.t 12) (.t 10), .none⟩])
 (.seq (.region false [o_ 13 (.mv (.t 0)),
 o_ 14 (.nilCheck (.t 13)),
 o_ 15 (.fieldAddr 3 (.t 14)),
 o_ 16 (.load false 1 (.t 15) .copy),
 o_ 17 (.bin .gtr (.t 16) (.c (.int .i64 300)))])
 (.cond (.t 17)
 (.seq (.region false [o_ 18 (.mv (.t 0)),
 o_ 19 (.mv (.t 0)),
 o_ 20 (.callF 76 [(.t 19), (.c (.int .i64 0))]),
 o_ 21 (.field false 1 3 (.t 20)),
 o_ 22 (.callF 79 [(.t 18), (.c (.int .i64 3)), (.t 21)])])
 (.seq (.region false [o_ 23 (.load true 4 (.t 4) .take),
 ⟨none, none, false, .store 4 (.t 4) (.u 23 .take), .none⟩])
 (.ret)))
 (.skip))))
 (.seq (.region false [o_ 24 (.mv (.t 0)),
 o_ 25 (.callF 76 [(.t 24), (.c (.int .i64 0))]),
 o_ 26 (.field false 1 1 (.t 25)),
 o_ 27 (.fieldAddr 0 (.t 4)),
 ⟨none, none, false, .store 1 (.t 27) (.t 26), .none⟩])
 (.seq (.region false [o_ 28 (.mv (.t 0)),
 o_ 29 (.nilCheck (.t 28)),
 o_ 30 (.fieldAddr 1 (.t 29)),
 o_ 31 (.load false 1 (.t 30) .copy),
 o_ 32 (.bin .add (.t 31) (.c (.int .i64 1))),
 o_ 33 (.nilCheck (.t 28)),
 o_ 34 (.fieldAddr 1 (.t 33)),
 ⟨none, none, false, .store 1 (.t 34) (.t 32), .none⟩])
 (.seq (.block 0 (.loop [0, 1, 4] (.seq (.seq (.region false [o_ 35 (.mv (.t 0)),
 o_ 36 (.nilCheck (.t 35)),
 o_ 37 (.fieldAddr 4 (.t 36)),
 o_ 38 (.fieldAddr 0 (.t 37)),
 o_ 39 (.load false 1 (.t 38) .copy),
 o_ 40 (.bin .eql (.t 39) (.c (.int .i64 0)))])
 (.cond (.t 40)
 (.skip)
 (.exit 0)))
 (.block 1 (.seq (.region false [o_ 41 (.mv (.t 0)),
 o_ 42 (.callF 76 [(.t 41), (.c (.int .i64 0))]),
 o_ 5 (.allocL 0 [(.int .i64 0), (.str []), (.int .i64 0), (.int .i64 0)]),
 ⟨none, none, false, .store 4 (.t 5) (.t 42), .none⟩])
 (.block 2 (.seq (.region false [o_ 47 (.load true 4 (.t 5) .copy),
 o_ 48 (.callP 77 [(.t 47)]),
 o_ 49 (.mv (.t 48)),
 ⟨(some 50), (some (49, true)), false, .mv (.t 0), .none⟩,
 ⟨(some 51), (some (49, true)), false, .callF 76 [(.t 50), (.c (.int .i64 1))], .none⟩,
 ⟨(some 52), (some (49, true)), false, .callP 99 [(.t 51), (.c (.str [61]))], .none⟩,
 o_ 53 (.pick (.t 49) (.t 52) (.c (.bool false))),
 o_ 46 (.mv (.t 53))])
 (.cond (.t 46)
 (.region false [o_ 54 (.mv (.t 0)),
 o_ 55 (.callF 100 [(.t 54), (.t 4)])])
 (.seq (.region false [o_ 57 (.load true 4 (.t 5) .copy),
 o_ 58 (.callP 77 [(.t 57)]),
 o_ 59 (.mv (.t 58)),
 ⟨(some 60), (some (59, false)), false, .fieldAddr 0 (.t 5), .none⟩,
 ⟨(some 61), (some (59, false)), false, .load false 1 (.t 60) .copy, .none⟩,
 ⟨(some 62), (some (59, false)), false, .bin .eql (.t 61) (.c (.int .i64 3)), .none⟩,
 o_ 63 (.pick (.t 59) (.c (.bool true)) (.t 62)),
 o_ 56 (.mv (.t 63))])
 (.cond (.t 56)
 (.region true [o_ 64 (.fieldAddr 1 (.t 4)),
 o_ 65 (.loadW .take false 1 (.t 64) (.t 4) []),
 o_ 66 (.mv (.t 0)),
 o_ 67 (.callN 101 [(.t 66)] [(.t 4)]),
 ⟨(some 68), none, false, .buildSlice 4 [(.int .i64 0), (.str []), (.int .i64 0), (.bool false)] 1 [(0, (.t 67))], .free⟩,
 o_ 69 (.append 4 (.u 65 .take) (.u 68 .take)),
 o_ 70 (.fieldAddr 1 (.t 4)),
 ⟨none, none, false, .store 1 (.t 70) (.u 69 .take), .mem⟩])
 (.seq (.region false [o_ 72 (.load true 4 (.t 5) .copy),
 o_ 73 (.callP 99 [(.t 72), (.c (.str [123]))]),
 o_ 71 (.mv (.t 73))])
 (.cond (.t 71)
 (.seq (.region false [o_ 74 (.mv (.t 0)),
 o_ 75 (.mv (.t 1)),
 o_ 76 (.callF 102 [(.t 74), (.t 4), (.t 75)])])
 (.seq (.region false [o_ 77 (.load true 4 (.t 4) .take),
 ⟨none, none, false, .store 4 (.t 4) (.u 77 .take), .none⟩])
 (.ret)))
 (.seq (.region false [o_ 43 (.mv (.t 0)),
 o_ 44 (.callF 103 [(.t 43)])])
 (.seq (.region false [o_ 45 (.load true 4 (.t 4) .take),
 ⟨none, none, false, .store 4 (.t 4) (.u 45 .take), .none⟩])
 (.ret)))))))))))))))
 (.seq (.region false [o_ 78 (.load true 4 (.t 4) .take),
 ⟨none, none, false, .store 4 (.t 4) (.u 78 .take), .none⟩])
 (.ret))))))⟩
theorem c78 : zap Go.Proofs.Tryz.prog p78 78 = some a78 := by decide +kernel
def p79 : Plan := ⟨[], 0, [],
 []⟩
def a79 : AFunc := ⟨3, 18, 0, [],
 .seq (.region false [o_ 6 (.mv (.t 0)),
 o_ 7 (.nilCheck (.t 6)),
 o_ 8 (.fieldAddr 4 (.t 7)),
 o_ 9 (.fieldAddr 0 (.t 8)),
 o_ 10 (.load false 1 (.t 9) .copy),
 o_ 11 (.bin .eql (.t 10) (.c (.int .i64 0)))])
 (.cond (.t 11)
 (.region false [o_ 12 (.mv (.t 0)),
 o_ 13 (.mv (.t 1)),
 o_ 14 (.mv (.t 2)),
 o_ 15 (.build [(.int .i64 0), (.int .i64 0)] [(0, 1, (.t 13)), (1, 1, (.t 14))]),
 o_ 16 (.nilCheck (.t 12)),
 o_ 17 (.fieldAddr 4 (.t 16)),
 ⟨none, none, false, .store 2 (.t 17) (.t 15), .none⟩])
 (.skip))⟩
theorem c79 : zap Go.Proofs.Tryz.prog p79 79 = some a79 := by decide +kernel
def p80 : Plan := ⟨[], 0, [],
 [[0, 1, 7, 8]]⟩
def a80 : AFunc := ⟨2, 19, 0, [.tmp 4],
 .seq (.region false [o_ 4 (.mv (.c (.int .i64 0)))])
 (.seq (.seq (.region false [o_ 6 (.mv (.t 0)),
 o_ 7 (.lenSl (.t 6)),
 o_ 8 (.mv (.c (.int .i64 0)))])
 (.block 0 (.loop [0, 1, 7, 8] (.seq (.region false [o_ 9 (.bin .lss (.t 8) (.t 7))])
 (.seq (.cond (.t 9)
 (.skip)
 (.exit 0))
 (.seq (.block 1 (.seq (.region false [o_ 10 (.mv (.t 8)),
 o_ 5 (.mv (.t 10))])
 (.seq (.region false [o_ 11 (.mv (.t 1)),
 o_ 12 (.mv (.t 0)),
 o_ 13 (.mv (.t 5)),
 o_ 14 (.indexSl 2 (.t 12) (.t 13)),
 o_ 15 (.load true 2 (.t 14) .copy),
 o_ 16 (.callV (.t 11) [(.t 15)])])
 (.cond (.t 16)
 (.seq (.region false [o_ 17 (.mv (.t 5)),
 o_ 4 (.mv (.t 17))])
 (.ret))
 (.skip)))))
 (.region false [o_ 18 (.bin .add (.t 8) (.c (.int .i64 1))),
 o_ 8 (.mv (.t 18))])))))))
 (.seq (.region false [o_ 4 (.mv (.c (.int .i64 (-1))))])
 (.ret)))⟩
def v80 : List Nat := [0, 1, 4, 5, 7, 8, 9, 16]
theorem c80 : zap Go.Proofs.Tryz.prog p80 80 = some a80 := by decide +kernel
def p81 : Plan := ⟨[], 2, [((11, 13), { mark := (.loc 0) }),
 ((11, 11), { mark := (.loc 0) }),
 ((11, 8), { mark := (.loc 1) }),
 ((11, 6), { mark := (.loc 0) }),
 ((11, 3), { mark := (.loc 1) }),
 ((11, 1), { mark := (.loc 0) }),
 ((9, 13), { mark := (.loc 0) }),
 ((9, 11), { mark := (.loc 0) }),
 ((9, 8), { mark := (.loc 1) }),
 ((9, 6), { mark := (.loc 0) }),
 ((9, 3), { mark := (.loc 1) }),
 ((9, 1), { mark := (.loc 0) }),
 ((0, 0), { box := some 0 }),
 ((1, 1), { pure := true }),
 ((6, 1), { box := some 1 }),
 ((8, 3), { pure := true }),
 ((10, 3), { pure := true }),
 ((12, 0), { uses := [(7, .take)] }),
 ((12, 2), { pure := true }),
 ((12, 4), { uses := [(59, .take), (62, .take)] }),
 ((12, 5), { uses := [(63, .take)] }),
 ((14, 0), { uses := [(7, .take)] }),
 ((14, 1), { uses := [(65, .take)] })],
 [[2, 3, 7, 17, 18, 19]]⟩
def a81 : AFunc := ⟨3, 66, 2, [.tmp 6],
 .seq (.region false [o_ 3 (.boxL 0 (.t 0)),
 o_ 6 (.mv (.c .nils))])
 (.seq (.region false [o_ 11 (.load true 4 (.t 3) .copy),
 o_ 12 (.callP 25 [(.t 11)]),
 ⟨none, none, false, .store 4 (.t 3) (.t 12), .none⟩])
 (.seq (.region false [o_ 7 (.mv (.c .nils))])
 (.seq (.seq (.region false [o_ 13 (.mv (.t 1)),
 o_ 14 (.mv (.t 1)),
 o_ 15 (.lenSl (.t 14)),
 o_ 16 (.minMax false (.t 15) [(.c (.int .i64 16))]),
 o_ 17 (.sliceV 1 (.t 13) none (some (.t 16))),
 o_ 18 (.lenSl (.t 17)),
 o_ 19 (.mv (.c (.int .i64 0)))])
 (.block 0 (.loop [2, 3, 7, 17, 18, 19] (.seq (.region false [o_ 20 (.bin .lss (.t 19) (.t 18))])
 (.seq (.cond (.t 20)
 (.skip)
 (.exit 0))
 (.seq (.block 1 (.seq (.region false [o_ 21 (.indexSl 1 (.t 17) (.t 19)),
 o_ 22 (.load false 1 (.t 21) .copy),
 o_ 9 (.mv (.t 22))])
 (.seq (.region false [o_ 23 (.load true 4 (.t 3) .copy),
 o_ 10 (.allocL 1 [(.int .i64 0), (.int .i64 0), (.int .i64 0), (.int .i64 0)]),
 ⟨none, none, false, .store 4 (.t 10) (.t 23), .none⟩])
 (.seq (.seq (.region false [o_ 24 (.mv (.t 2))])
 (.cond (.t 24)
 (.seq (.region false [o_ 25 (.mv (.t 9)),
 o_ 26 (.fieldAddr 3 (.t 3)),
 o_ 27 (.load false 1 (.t 26) .copy),
 o_ 28 (.callP 55 [(.t 25), (.c (.int .i64 0)), (.t 27)]),
 o_ 29 (.fieldAddr 3 (.t 10)),
 ⟨none, none, false, .store 1 (.t 29) (.t 28), .none⟩])
 (.region true [o_ 30 (.fieldAddr 1 (.t 3)),
 ⟨(some 31), none, false, .load false 1 (.t 30) .copy, (.loc 0)⟩,
 o_ 32 (.fieldAddr 3 (.t 10)),
 ⟨(some 33), none, false, .load false 1 (.t 32) .copy, (.loc 1)⟩,
 o_ 34 (.bin .add (.t 31) (.t 33)),
 o_ 35 (.fieldAddr 3 (.t 3)),
 ⟨(some 36), none, false, .load false 1 (.t 35) .copy, (.loc 0)⟩,
 o_ 37 (.fieldAddr 3 (.t 10)),
 ⟨(some 38), none, false, .load false 1 (.t 37) .copy, (.loc 1)⟩,
 o_ 39 (.bin .sub (.t 36) (.t 38)),
 o_ 40 (.fieldAddr 1 (.t 3)),
 ⟨none, none, false, .store 1 (.t 40) (.t 34), (.loc 0)⟩,
 o_ 41 (.fieldAddr 3 (.t 3)),
 ⟨none, none, false, .store 1 (.t 41) (.t 39), (.loc 0)⟩]))
 (.seq (.region false [o_ 42 (.mv (.t 9)),
 o_ 43 (.fieldAddr 2 (.t 3)),
 o_ 44 (.load false 1 (.t 43) .copy),
 o_ 45 (.callP 55 [(.t 42), (.c (.int .i64 0)), (.t 44)]),
 o_ 46 (.fieldAddr 2 (.t 10)),
 ⟨none, none, false, .store 1 (.t 46) (.t 45), .none⟩])
 (.region true [o_ 47 (.fieldAddr 0 (.t 3)),
 ⟨(some 48), none, false, .load false 1 (.t 47) .copy, (.loc 0)⟩,
 o_ 49 (.fieldAddr 2 (.t 10)),
 ⟨(some 50), none, false, .load false 1 (.t 49) .copy, (.loc 1)⟩,
 o_ 51 (.bin .add (.t 48) (.t 50)),
 o_ 52 (.fieldAddr 2 (.t 3)),
 ⟨(some 53), none, false, .load false 1 (.t 52) .copy, (.loc 0)⟩,
 o_ 54 (.fieldAddr 2 (.t 10)),
 ⟨(some 55), none, false, .load false 1 (.t 54) .copy, (.loc 1)⟩,
 o_ 56 (.bin .sub (.t 53) (.t 55)),
 o_ 57 (.fieldAddr 0 (.t 3)),
 ⟨none, none, false, .store 1 (.t 57) (.t 51), (.loc 0)⟩,
 o_ 58 (.fieldAddr 2 (.t 3)),
 ⟨none, none, false, .store 1 (.t 58) (.t 56), (.loc 0)⟩]))))
 (.region false [o_ 59 (.mv (.u 7 .take)),
 o_ 60 (.load true 4 (.t 10) .copy),
 o_ 61 (.callP 25 [(.t 60)]),
 o_ 62 (.buildSlice 4 [(.int .i64 0), (.int .i64 0), (.int .i64 0), (.int .i64 0)] 1 [(0, (.t 61))]),
 o_ 63 (.append 4 (.u 59 .take) (.u 62 .take)),
 o_ 7 (.mv (.u 63 .take))])))))
 (.region false [o_ 64 (.bin .add (.t 19) (.c (.int .i64 1))),
 o_ 19 (.mv (.t 64))])))))))
 (.seq (.region false [o_ 65 (.mv (.u 7 .take)),
 o_ 6 (.mv (.u 65 .take))])
 (.ret)))))⟩
theorem c81 : zap Go.Proofs.Tryz.prog p81 81 = some a81 := by decide +kernel
def p85 : Plan := ⟨[], 0, [((1, 2), { pure := true })],
 []⟩
def a85 : AFunc := ⟨2, 8, 0, [.tmp 4],
 .seq (.region false [o_ 4 (.mv (.c (.bool false)))])
 (.seq (.region false [o_ 5 (.mv (.t 0)),
 o_ 6 (.mv (.t 1)),
 o_ 7 (.callP 104 [(.t 5), (.t 6)]),
 o_ 4 (.mv (.t 7))])
 (.ret))⟩
def v85 : List Nat := [0, 1, 4]
theorem c85 : zap Go.Proofs.Tryz.prog p85 85 = some a85 := by decide +kernel
def p86 : Plan := ⟨[], 0, [((1, 2), { pure := true })],
 []⟩
def a86 : AFunc := ⟨2, 8, 0, [.tmp 4],
 .seq (.region false [o_ 4 (.mv (.c (.str [])))])
 (.seq (.region false [o_ 5 (.mv (.t 0)),
 o_ 6 (.mv (.t 1)),
 o_ 7 (.callP 105 [(.t 5), (.t 6)]),
 o_ 4 (.mv (.t 7))])
 (.ret))⟩
theorem c86 : zap Go.Proofs.Tryz.prog p86 86 = some a86 := by decide +kernel
def p88 : Plan := ⟨[], 0, [],
 []⟩
def a88 : AFunc := ⟨1, 13, 0, [.tmp 2],
 .seq (.region false [o_ 2 (.mv (.c (.bool false)))])
 (.seq (.region false [o_ 3 (.mv (.t 0)),
 o_ 4 (.bin .eql (.t 3) (.c (.int .u8 9))),
 o_ 5 (.mv (.t 4)),
 ⟨(some 6), (some (5, false)), false, .mv (.t 0), .none⟩,
 ⟨(some 7), (some (5, false)), false, .bin .eql (.t 6) (.c (.int .u8 13)), .none⟩,
 o_ 8 (.pick (.t 5) (.c (.bool true)) (.t 7)),
 o_ 9 (.mv (.t 8)),
 ⟨(some 10), (some (9, false)), false, .mv (.t 0), .none⟩,
 ⟨(some 11), (some (9, false)), false, .bin .eql (.t 10) (.c (.int .u8 32)), .none⟩,
 o_ 12 (.pick (.t 9) (.c (.bool true)) (.t 11)),
 o_ 2 (.mv (.t 12))])
 (.ret))⟩
theorem c88 : zap Go.Proofs.Tryz.prog p88 88 = some a88 := by decide +kernel
def p89 : Plan := ⟨[], 0, [((1, 2), { pure := true })],
 []⟩
def a89 : AFunc := ⟨2, 8, 0, [.tmp 4],
 .seq (.region false [o_ 4 (.mv (.c (.bool false)))])
 (.seq (.region false [o_ 5 (.mv (.t 0)),
 o_ 6 (.mv (.t 1)),
 o_ 7 (.callP 108 [(.t 5), (.t 6)]),
 o_ 4 (.mv (.t 7))])
 (.ret))⟩
theorem c89 : zap Go.Proofs.Tryz.prog p89 89 = some a89 := by decide +kernel
def p92 : Plan := ⟨[], 0, [],
 []⟩
def a92 : AFunc := ⟨3, 12, 0, [],
 .region false [o_ 6 (.mv (.t 0)),
 o_ 7 (.mv (.t 1)),
 o_ 8 (.mv (.t 2)),
 o_ 9 (.build [(.int .i64 0), (.int .i64 0)] [(0, 1, (.t 7)), (1, 1, (.t 8))]),
 o_ 10 (.nilCheck (.t 6)),
 o_ 11 (.fieldAddr 2 (.t 10)),
 ⟨none, none, false, .store 2 (.t 11) (.t 9), .none⟩]⟩
theorem c92 : zap Go.Proofs.Tryz.prog p92 92 = some a92 := by decide +kernel
def p93 : Plan := ⟨[], 0, [],
 []⟩
def a93 : AFunc := ⟨2, 28, 0, [.tmp 4],
 .seq (.region false [o_ 4 (.mv (.c (.int .u8 0)))])
 (.seq (.seq (.region true [o_ 5 (.mv (.t 0)),
 o_ 6 (.nilCheck (.t 5)),
 o_ 7 (.fieldAddr 1 (.t 6)),
 o_ 8 (.load false 1 (.t 7) .copy),
 o_ 9 (.mv (.t 1)),
 o_ 10 (.bin .add (.t 8) (.t 9)),
 o_ 11 (.mv (.t 0)),
 o_ 12 (.nilCheck (.t 11)),
 o_ 13 (.fieldAddr 0 (.t 12)),
 o_ 14 (.load false 1 (.t 13) .copy),
 o_ 15 (.lenStr (.t 14)),
 o_ 16 (.bin .geq (.t 10) (.t 15))])
 (.cond (.t 16)
 (.seq (.region false [o_ 4 (.mv (.c (.int .u8 0)))])
 (.ret))
 (.skip)))
 (.seq (.region true [o_ 17 (.mv (.t 0)),
 o_ 18 (.nilCheck (.t 17)),
 o_ 19 (.fieldAddr 0 (.t 18)),
 o_ 20 (.load false 1 (.t 19) .copy),
 o_ 21 (.mv (.t 0)),
 o_ 22 (.nilCheck (.t 21)),
 o_ 23 (.fieldAddr 1 (.t 22)),
 o_ 24 (.load false 1 (.t 23) .copy),
 o_ 25 (.mv (.t 1)),
 o_ 26 (.bin .add (.t 24) (.t 25)),
 o_ 27 (.indexStr (.t 20) (.t 26)),
 o_ 4 (.mv (.t 27))])
 (.ret)))⟩
theorem c93 : zap Go.Proofs.Tryz.prog p93 93 = some a93 := by decide +kernel
def p94 : Plan := ⟨[], 0, [((15, 2), { pure := true })],
 [[0, 3, 4]]⟩
def a94 : AFunc := ⟨1, 104, 0, [.tmp 2],
 .seq (.region false [o_ 2 (.mv (.c (.str [])))])
 (.seq (.region false [o_ 3 (.allocM [.nilp, .nils])])
 (.seq (.region false [o_ 7 (.mv (.t 0)),
 o_ 8 (.nilCheck (.t 7)),
 o_ 9 (.fieldAddr 1 (.t 8)),
 o_ 10 (.load false 1 (.t 9) .copy),
 o_ 4 (.mv (.t 10))])
 (.seq (.seq (.region false [o_ 11 (.mv (.t 0)),
 o_ 12 (.nilCheck (.t 11)),
 o_ 13 (.fieldAddr 1 (.t 12)),
 o_ 14 (.load false 1 (.t 13) .copy),
 o_ 15 (.bin .add (.t 14) (.c (.int .i64 1))),
 o_ 16 (.nilCheck (.t 11)),
 o_ 17 (.fieldAddr 1 (.t 16)),
 ⟨none, none, false, .store 1 (.t 17) (.t 15), .none⟩])
 (.block 0 (.loop [0, 3, 4] (.seq (.seq (.region true [o_ 18 (.mv (.t 0)),
 o_ 19 (.nilCheck (.t 18)),
 o_ 20 (.fieldAddr 1 (.t 19)),
 o_ 21 (.load false 1 (.t 20) .copy),
 o_ 22 (.mv (.t 0)),
 o_ 23 (.nilCheck (.t 22)),
 o_ 24 (.fieldAddr 0 (.t 23)),
 o_ 25 (.load false 1 (.t 24) .copy),
 o_ 26 (.lenStr (.t 25)),
 o_ 27 (.bin .lss (.t 21) (.t 26))])
 (.cond (.t 27)
 (.skip)
 (.exit 0)))
 (.seq (.block 1 (.seq (.region false [o_ 35 (.mv (.t 0)),
 o_ 36 (.callF 93 [(.t 35), (.c (.int .i64 0))]),
 o_ 5 (.mv (.t 36))])
 (.block 2 (.seq (.region false [o_ 40 (.mv (.t 5)),
 o_ 41 (.bin .eql (.t 40) (.c (.int .u8 34))),
 o_ 39 (.mv (.t 41))])
 (.cond (.t 39)
 (.seq (.region false [o_ 42 (.mv (.t 0)),
 o_ 43 (.nilCheck (.t 42)),
 o_ 44 (.fieldAddr 1 (.t 43)),
 o_ 45 (.load false 1 (.t 44) .copy),
 o_ 46 (.bin .add (.t 45) (.c (.int .i64 1))),
 o_ 47 (.nilCheck (.t 42)),
 o_ 48 (.fieldAddr 1 (.t 47)),
 ⟨none, none, false, .store 1 (.t 48) (.t 46), .none⟩])
 (.seq (.region false [o_ 49 (.callF 111 [(.t 3)]),
 o_ 2 (.mv (.t 49))])
 (.ret)))
 (.seq (.region false [o_ 51 (.mv (.t 5)),
 o_ 52 (.bin .eql (.t 51) (.c (.int .u8 92))),
 o_ 50 (.mv (.t 52))])
 (.cond (.t 50)
 (.seq (.seq (.region true [o_ 53 (.mv (.t 0)),
 o_ 54 (.nilCheck (.t 53)),
 o_ 55 (.fieldAddr 1 (.t 54)),
 o_ 56 (.load false 1 (.t 55) .copy),
 o_ 57 (.bin .add (.t 56) (.c (.int .i64 1))),
 o_ 58 (.mv (.t 0)),
 o_ 59 (.nilCheck (.t 58)),
 o_ 60 (.fieldAddr 0 (.t 59)),
 o_ 61 (.load false 1 (.t 60) .copy),
 o_ 62 (.lenStr (.t 61)),
 o_ 63 (.bin .eql (.t 57) (.t 62))])
 (.cond (.t 63)
 (.seq (.region false [o_ 64 (.mv (.t 0)),
 o_ 65 (.mv (.t 4)),
 o_ 66 (.callF 92 [(.t 64), (.c (.int .i64 71)), (.t 65)])])
 (.seq (.region false [o_ 2 (.mv (.c (.str [])))])
 (.ret)))
 (.skip)))
 (.seq (.region false [o_ 67 (.mv (.t 0)),
 o_ 68 (.callF 93 [(.t 67), (.c (.int .i64 1))]),
 o_ 69 (.callP 90 [(.c (.str [34, 92, 110, 116])), (.t 68)]),
 o_ 6 (.mv (.t 69))])
 (.seq (.seq (.region false [o_ 70 (.mv (.t 6)),
 o_ 71 (.bin .lss (.t 70) (.c (.int .i64 0)))])
 (.cond (.t 71)
 (.seq (.region false [o_ 72 (.mv (.t 0)),
 o_ 73 (.mv (.t 0)),
 o_ 74 (.nilCheck (.t 73)),
 o_ 75 (.fieldAddr 1 (.t 74)),
 o_ 76 (.load false 1 (.t 75) .copy),
 o_ 77 (.callF 92 [(.t 72), (.c (.int .i64 72)), (.t 76)])])
 (.seq (.region false [o_ 2 (.mv (.c (.str [])))])
 (.ret)))
 (.skip)))
 (.seq (.region false [o_ 78 (.mv (.t 6)),
 o_ 79 (.indexStr (.c (.str [34, 92, 10, 9])) (.t 78)),
 o_ 80 (.callF 112 [(.t 3), (.t 79)])])
 (.region false [o_ 81 (.mv (.t 0)),
 o_ 82 (.nilCheck (.t 81)),
 o_ 83 (.fieldAddr 1 (.t 82)),
 o_ 84 (.load false 1 (.t 83) .copy),
 o_ 85 (.bin .add (.t 84) (.c (.int .i64 1))),
 o_ 86 (.nilCheck (.t 81)),
 o_ 87 (.fieldAddr 1 (.t 86)),
 ⟨none, none, false, .store 1 (.t 87) (.t 85), .none⟩])))))
 (.seq (.region false [o_ 89 (.mv (.t 5)),
 o_ 90 (.bin .lss (.t 89) (.c (.int .u8 32))),
 o_ 91 (.mv (.t 90)),
 ⟨(some 92), (some (91, false)), false, .mv (.t 5), .none⟩,
 ⟨(some 93), (some (91, false)), false, .bin .eql (.t 92) (.c (.int .u8 127)), .none⟩,
 o_ 94 (.pick (.t 91) (.c (.bool true)) (.t 93)),
 o_ 88 (.mv (.t 94))])
 (.cond (.t 88)
 (.seq (.region false [o_ 95 (.mv (.t 0)),
 o_ 96 (.mv (.t 0)),
 o_ 97 (.nilCheck (.t 96)),
 o_ 98 (.fieldAddr 1 (.t 97)),
 o_ 99 (.load false 1 (.t 98) .copy),
 o_ 100 (.callF 92 [(.t 95), (.c (.int .i64 70)), (.t 99)])])
 (.seq (.region false [o_ 2 (.mv (.c (.str [])))])
 (.ret)))
 (.region false [o_ 37 (.mv (.t 5)),
 o_ 38 (.callF 112 [(.t 3), (.t 37)])]))))))))))
 (.region false [o_ 28 (.mv (.t 0)),
 o_ 29 (.nilCheck (.t 28)),
 o_ 30 (.fieldAddr 1 (.t 29)),
 o_ 31 (.load false 1 (.t 30) .copy),
 o_ 32 (.bin .add (.t 31) (.c (.int .i64 1))),
 o_ 33 (.nilCheck (.t 28)),
 o_ 34 (.fieldAddr 1 (.t 33)),
 ⟨none, none, false, .store 1 (.t 34) (.t 32), .none⟩]))))))
 (.seq (.region false [o_ 101 (.mv (.t 0)),
 o_ 102 (.mv (.t 4)),
 o_ 103 (.callF 92 [(.t 101), (.c (.int .i64 71)), (.t 102)])])
 (.seq (.region false [o_ 2 (.mv (.c (.str [])))])
 (.ret))))))⟩
theorem c94 : zap Go.Proofs.Tryz.prog p94 94 = some a94 := by decide +kernel
def p95 : Plan := ⟨[], 0, [],
 []⟩
def a95 : AFunc := ⟨1, 9, 0, [.tmp 2],
 .seq (.region false [o_ 2 (.mv (.c (.bool false)))])
 (.seq (.region false [o_ 3 (.mv (.t 0)),
 o_ 4 (.bin .geq (.t 3) (.c (.int .u8 48))),
 o_ 5 (.mv (.t 4)),
 ⟨(some 6), (some (5, true)), false, .mv (.t 0), .none⟩,
 ⟨(some 7), (some (5, true)), false, .bin .leq (.t 6) (.c (.int .u8 57)), .none⟩,
 o_ 8 (.pick (.t 5) (.t 7) (.c (.bool false))),
 o_ 2 (.mv (.t 8))])
 (.ret))⟩
theorem c95 : zap Go.Proofs.Tryz.prog p95 95 = some a95 := by decide +kernel
def p96 : Plan := ⟨[], 0, [],
 [[0, 1]]⟩
def a96 : AFunc := ⟨2, 34, 0, [],
 .block 0 (.loop [0, 1] (.seq (.seq (.region true [o_ 4 (.mv (.t 0)),
 o_ 5 (.nilCheck (.t 4)),
 o_ 6 (.fieldAddr 1 (.t 5)),
 o_ 7 (.load false 1 (.t 6) .copy),
 o_ 8 (.mv (.t 0)),
 o_ 9 (.nilCheck (.t 8)),
 o_ 10 (.fieldAddr 0 (.t 9)),
 o_ 11 (.load false 1 (.t 10) .copy),
 o_ 12 (.lenStr (.t 11)),
 o_ 13 (.bin .lss (.t 7) (.t 12)),
 o_ 14 (.mv (.t 13)),
 ⟨(some 15), (some (14, true)), false, .mv (.t 1), .none⟩,
 ⟨(some 16), (some (14, true)), false, .mv (.t 0), .none⟩,
 ⟨(some 17), (some (14, true)), false, .nilCheck (.t 16), .none⟩,
 ⟨(some 18), (some (14, true)), false, .fieldAddr 0 (.t 17), .none⟩,
 ⟨(some 19), (some (14, true)), false, .load false 1 (.t 18) .copy, .none⟩,
 ⟨(some 20), (some (14, true)), false, .mv (.t 0), .none⟩,
 ⟨(some 21), (some (14, true)), false, .nilCheck (.t 20), .none⟩,
 ⟨(some 22), (some (14, true)), false, .fieldAddr 1 (.t 21), .none⟩,
 ⟨(some 23), (some (14, true)), false, .load false 1 (.t 22) .copy, .none⟩,
 ⟨(some 24), (some (14, true)), false, .indexStr (.t 19) (.t 23), .none⟩,
 ⟨(some 25), (some (14, true)), false, .callV (.t 15) [(.t 24)], .none⟩,
 o_ 26 (.pick (.t 14) (.t 25) (.c (.bool false)))])
 (.cond (.t 26)
 (.skip)
 (.exit 0)))
 (.block 1 (.region false [o_ 27 (.mv (.t 0)),
 o_ 28 (.nilCheck (.t 27)),
 o_ 29 (.fieldAddr 1 (.t 28)),
 o_ 30 (.load false 1 (.t 29) .copy),
 o_ 31 (.bin .add (.t 30) (.c (.int .i64 1))),
 o_ 32 (.nilCheck (.t 27)),
 o_ 33 (.fieldAddr 1 (.t 32)),
 ⟨none, none, false, .store 1 (.t 33) (.t 31), .none⟩]))))⟩
theorem c96 : zap Go.Proofs.Tryz.prog p96 96 = some a96 := by decide +kernel
def p98 : Plan := ⟨[], 0, [((1, 16), { pure := true })],
 []⟩
def a98 : AFunc := ⟨1, 37, 0, [.tmp 2],
 .seq (.region false [o_ 2 (.mv (.c (.bool false)))])
 (.seq (.region false [o_ 3 (.mv (.t 0)),
 o_ 4 (.bin .geq (.t 3) (.c (.int .u8 97))),
 o_ 5 (.mv (.t 4)),
 ⟨(some 6), (some (5, true)), false, .mv (.t 0), .none⟩,
 ⟨(some 7), (some (5, true)), false, .bin .leq (.t 6) (.c (.int .u8 122)), .none⟩,
 o_ 8 (.pick (.t 5) (.t 7) (.c (.bool false))),
 o_ 9 (.mv (.t 8)),
 ⟨(some 10), (some (9, false)), false, .mv (.t 0), .none⟩,
 ⟨(some 11), (some (9, false)), false, .bin .geq (.t 10) (.c (.int .u8 65)), .none⟩,
 ⟨(some 12), (some (9, false)), false, .mv (.t 11), .none⟩,
 ⟨(some 13), (some (12, true)), false, .mv (.t 0), .none⟩,
 ⟨(some 14), (some (12, true)), false, .bin .leq (.t 13) (.c (.int .u8 90)), .none⟩,
 ⟨(some 15), (some (9, false)), false, .pick (.t 12) (.t 14) (.c (.bool false)), .none⟩,
 o_ 16 (.pick (.t 9) (.c (.bool true)) (.t 15)),
 o_ 17 (.mv (.t 16)),
 ⟨(some 18), (some (17, false)), false, .mv (.t 0), .none⟩,
 ⟨(some 19), (some (17, false)), false, .callP 95 [(.t 18)], .none⟩,
 o_ 20 (.pick (.t 17) (.c (.bool true)) (.t 19)),
 o_ 21 (.mv (.t 20)),
 ⟨(some 22), (some (21, false)), false, .mv (.t 0), .none⟩,
 ⟨(some 23), (some (21, false)), false, .bin .eql (.t 22) (.c (.int .u8 45)), .none⟩,
 o_ 24 (.pick (.t 21) (.c (.bool true)) (.t 23)),
 o_ 25 (.mv (.t 24)),
 ⟨(some 26), (some (25, false)), false, .mv (.t 0), .none⟩,
 ⟨(some 27), (some (25, false)), false, .bin .eql (.t 26) (.c (.int .u8 95)), .none⟩,
 o_ 28 (.pick (.t 25) (.c (.bool true)) (.t 27)),
 o_ 29 (.mv (.t 28)),
 ⟨(some 30), (some (29, false)), false, .mv (.t 0), .none⟩,
 ⟨(some 31), (some (29, false)), false, .bin .eql (.t 30) (.c (.int .u8 46)), .none⟩,
 o_ 32 (.pick (.t 29) (.c (.bool true)) (.t 31)),
 o_ 33 (.mv (.t 32)),
 ⟨(some 34), (some (33, false)), false, .mv (.t 0), .none⟩,
 ⟨(some 35), (some (33, false)), false, .bin .eql (.t 34) (.c (.int .u8 58)), .none⟩,
 o_ 36 (.pick (.t 33) (.c (.bool true)) (.t 35)),
 o_ 2 (.mv (.t 36))])
 (.ret))⟩
theorem c98 : zap Go.Proofs.Tryz.prog p98 98 = some a98 := by decide +kernel
def p99 : Plan := ⟨[], 1, [((0, 0), { box := some 0 })],
 []⟩
def a99 : AFunc := ⟨2, 14, 1, [.tmp 4],
 .seq (.region false [o_ 2 (.boxL 0 (.t 0)),
 o_ 4 (.mv (.c (.bool false)))])
 (.seq (.region false [o_ 5 (.fieldAddr 0 (.t 2)),
 o_ 6 (.load false 1 (.t 5) .copy),
 o_ 7 (.bin .eql (.t 6) (.c (.int .i64 4))),
 o_ 8 (.mv (.t 7)),
 ⟨(some 9), (some (8, true)), false, .fieldAddr 1 (.t 2), .none⟩,
 ⟨(some 10), (some (8, true)), false, .load false 1 (.t 9) .copy, .none⟩,
 ⟨(some 11), (some (8, true)), false, .mv (.t 1), .none⟩,
 ⟨(some 12), (some (8, true)), false, .bin .eql (.t 10) (.t 11), .none⟩,
 o_ 13 (.pick (.t 8) (.t 12) (.c (.bool false))),
 o_ 4 (.mv (.t 13))])
 (.ret))⟩
theorem c99 : zap Go.Proofs.Tryz.prog p99 99 = some a99 := by decide +kernel
def p100 : Plan := ⟨[], 0, [((4, 14), { uses := [(35, .take)], mark := .mem }),
 ((4, 10), { mark := .free }),
 ((4, 9), { mark := .free }),
 ((1, 3), { mode := .take }),
 ((1, 5), { uses := [(10, .share)] }),
 ((4, 4), { mode := .take, past := [1, 4] }),
 ((4, 6), { past := [4] }),
 ((4, 8), { past := [1, 4] }),
 ((4, 11), { uses := [(28, .take), (34, .take)] })],
 []⟩
def a100 : AFunc := ⟨2, 38, 0, [],
 .seq (.region false [o_ 5 (.mv (.t 0)),
 o_ 6 (.callF 76 [(.t 5), (.c (.int .i64 0))]),
 o_ 4 (.allocM [(.int .i64 0), (.str []), (.int .i64 0), (.int .i64 0)]),
 ⟨none, none, false, .store 4 (.t 4) (.t 6), .none⟩])
 (.seq (.seq (.region false [o_ 7 (.mv (.t 1)),
 o_ 8 (.nilCheck (.t 7)),
 o_ 9 (.fieldAddr 2 (.t 8)),
 o_ 10 (.load false 1 (.t 9) .take),
 o_ 11 (.mkFunc 115 [(.t 4)]),
 o_ 12 (.callF 114 [(.u 10 .share), (.t 11)])])
 (.cond (.t 12)
 (.seq (.region false [o_ 13 (.mv (.t 0)),
 o_ 14 (.fieldAddr 3 (.t 4)),
 o_ 15 (.load false 1 (.t 14) .copy),
 o_ 16 (.callF 79 [(.t 13), (.c (.int .i64 81)), (.t 15)])])
 (.ret))
 (.skip)))
 (.seq (.region false [o_ 17 (.mv (.t 0)),
 o_ 18 (.nilCheck (.t 17)),
 o_ 19 (.fieldAddr 1 (.t 18)),
 o_ 20 (.load false 1 (.t 19) .copy),
 o_ 21 (.bin .add (.t 20) (.c (.int .i64 2))),
 o_ 22 (.nilCheck (.t 17)),
 o_ 23 (.fieldAddr 1 (.t 22)),
 ⟨none, none, false, .store 1 (.t 23) (.t 21), .none⟩])
 (.region true [o_ 24 (.mv (.t 1)),
 o_ 25 (.mv (.t 1)),
 o_ 26 (.nilCheck (.t 25)),
 o_ 27 (.fieldAddr 2 (.t 26)),
 o_ 28 (.loadW .take false 1 (.t 27) (.t 1) [(.t 4)]),
 o_ 29 (.fieldAddr 1 (.t 4)),
 o_ 30 (.loadW .copy false 1 (.t 29) (.t 4) []),
 o_ 31 (.mv (.t 0)),
 o_ 32 (.callN 101 [(.t 31)] [(.t 1), (.t 4)]),
 ⟨(some 33), none, false, .build [(.str []), (.int .i64 0), (.str []), (.int .i64 0), (.bool false)] [(0, 1, (.t 30)), (1, 4, (.t 32))], .free⟩,
 ⟨(some 34), none, false, .buildSlice 5 [(.str []), (.int .i64 0), (.str []), (.int .i64 0), (.bool false)] 1 [(0, (.t 33))], .free⟩,
 o_ 35 (.append 5 (.u 28 .take) (.u 34 .take)),
 o_ 36 (.nilCheck (.t 24)),
 o_ 37 (.fieldAddr 2 (.t 36)),
 ⟨none, none, false, .store 1 (.t 37) (.u 35 .take), .mem⟩])))⟩
theorem c100 : zap Go.Proofs.Tryz.prog p100 100 = some a100 := by decide +kernel
def p101 : Plan := ⟨[], 2, [((0, 0), { box := some 0 }),
 ((1, 2), { box := some 1 }),
 ((10, 1), { pure := true })],
 []⟩
def a101 : AFunc := ⟨1, 58, 2, [.cell 2 true 4],
 .seq (.region false [o_ 2 (.allocL 0 [(.int .i64 0), (.str []), (.int .i64 0), (.bool false)])])
 (.seq (.seq (.region false [o_ 4 (.mv (.t 0)),
 o_ 5 (.callF 76 [(.t 4), (.c (.int .i64 0))]),
 o_ 3 (.allocL 1 [(.int .i64 0), (.str []), (.int .i64 0), (.int .i64 0)]),
 ⟨none, none, false, .store 4 (.t 3) (.t 5), .none⟩])
 (.block 0 (.seq (.region false [o_ 10 (.fieldAddr 0 (.t 3)),
 o_ 11 (.load false 1 (.t 10) .copy),
 o_ 12 (.bin .eql (.t 11) (.c (.int .i64 3))),
 o_ 9 (.mv (.t 12))])
 (.cond (.t 9)
 (.region false [o_ 13 (.fieldAddr 2 (.t 3)),
 o_ 14 (.load false 1 (.t 13) .copy),
 o_ 15 (.build [(.int .i64 0), (.str []), (.int .i64 0), (.bool false)] [(0, 1, (.c (.int .i64 2))), (2, 1, (.t 14))]),
 ⟨none, none, false, .store 4 (.t 2) (.t 15), .none⟩])
 (.seq (.region false [o_ 17 (.fieldAddr 0 (.t 3)),
 o_ 18 (.load false 1 (.t 17) .copy),
 o_ 19 (.bin .eql (.t 18) (.c (.int .i64 1))),
 o_ 20 (.mv (.t 19)),
 ⟨(some 21), (some (20, true)), false, .fieldAddr 1 (.t 3), .none⟩,
 ⟨(some 22), (some (20, true)), false, .load false 1 (.t 21) .copy, .none⟩,
 ⟨(some 23), (some (20, true)), false, .bin .eql (.t 22) (.c (.str [116, 114, 117, 101])), .none⟩,
 ⟨(some 24), (some (20, true)), false, .mv (.t 23), .none⟩,
 ⟨(some 25), (some (24, false)), false, .fieldAddr 1 (.t 3), .none⟩,
 ⟨(some 26), (some (24, false)), false, .load false 1 (.t 25) .copy, .none⟩,
 ⟨(some 27), (some (24, false)), false, .bin .eql (.t 26) (.c (.str [102, 97, 108, 115, 101])), .none⟩,
 ⟨(some 28), (some (20, true)), false, .pick (.t 24) (.c (.bool true)) (.t 27), .none⟩,
 o_ 29 (.pick (.t 20) (.t 28) (.c (.bool false))),
 o_ 16 (.mv (.t 29))])
 (.cond (.t 16)
 (.region false [o_ 30 (.fieldAddr 1 (.t 3)),
 o_ 31 (.load false 1 (.t 30) .copy),
 o_ 32 (.bin .eql (.t 31) (.c (.str [116, 114, 117, 101]))),
 o_ 33 (.build [(.int .i64 0), (.str []), (.int .i64 0), (.bool false)] [(0, 1, (.c (.int .i64 3))), (3, 1, (.t 32))]),
 ⟨none, none, false, .store 4 (.t 2) (.t 33), .none⟩])
 (.seq (.region false [o_ 35 (.fieldAddr 0 (.t 3)),
 o_ 36 (.load false 1 (.t 35) .copy),
 o_ 37 (.bin .eql (.t 36) (.c (.int .i64 1))),
 o_ 38 (.mv (.t 37)),
 ⟨(some 39), (some (38, true)), false, .fieldAddr 1 (.t 3), .none⟩,
 ⟨(some 40), (some (38, true)), false, .load false 1 (.t 39) .copy, .none⟩,
 ⟨(some 41), (some (38, true)), false, .bin .eql (.t 40) (.c (.str [110, 117, 108, 108])), .none⟩,
 o_ 42 (.pick (.t 38) (.t 41) (.c (.bool false))),
 o_ 34 (.mv (.t 42))])
 (.cond (.t 34)
 (.region false [o_ 43 (.build [(.int .i64 0), (.str []), (.int .i64 0), (.bool false)] [(0, 1, (.c (.int .i64 4)))]),
 ⟨none, none, false, .store 4 (.t 2) (.t 43), .none⟩])
 (.seq (.region false [o_ 45 (.load true 4 (.t 3) .copy),
 o_ 46 (.callP 77 [(.t 45)]),
 o_ 44 (.mv (.t 46))])
 (.cond (.t 44)
 (.region false [o_ 47 (.fieldAddr 1 (.t 3)),
 o_ 48 (.load false 1 (.t 47) .copy),
 o_ 49 (.build [(.int .i64 0), (.str []), (.int .i64 0), (.bool false)] [(0, 1, (.c (.int .i64 1))), (1, 1, (.t 48))]),
 ⟨none, none, false, .store 4 (.t 2) (.t 49), .none⟩])
 (.seq (.region false [o_ 6 (.mv (.t 0)),
 o_ 7 (.callF 52 [(.t 6)])])
 (.seq (.region false [o_ 8 (.load true 4 (.t 2) .copy),
 ⟨none, none, false, .store 4 (.t 2) (.t 8), .none⟩])
 (.ret)))))))))))))
 (.seq (.region false [o_ 50 (.mv (.t 0)),
 o_ 51 (.nilCheck (.t 50)),
 o_ 52 (.fieldAddr 1 (.t 51)),
 o_ 53 (.load false 1 (.t 52) .copy),
 o_ 54 (.bin .add (.t 53) (.c (.int .i64 1))),
 o_ 55 (.nilCheck (.t 50)),
 o_ 56 (.fieldAddr 1 (.t 55)),
 ⟨none, none, false, .store 1 (.t 56) (.t 54), .none⟩])
 (.seq (.region false [o_ 57 (.load true 4 (.t 2) .copy),
 ⟨none, none, false, .store 4 (.t 2) (.t 57), .none⟩])
 (.ret))))⟩
theorem c101 : zap Go.Proofs.Tryz.prog p101 101 = some a101 := by decide +kernel
def p102 : Plan := ⟨[], 0, [((3, 7), { uses := [(24, .share)] }),
 ((4, 2), { pure := true })],
 []⟩
def a102 : AFunc := ⟨3, 42, 0, [],
 .seq (.seq (.region false [o_ 6 (.mv (.t 2)),
 o_ 7 (.bin .geq (.t 6) (.c (.int .i64 12)))])
 (.cond (.t 7)
 (.seq (.region false [o_ 8 (.mv (.t 0)),
 o_ 9 (.mv (.t 0)),
 o_ 10 (.callF 76 [(.t 9), (.c (.int .i64 0))]),
 o_ 11 (.field false 1 3 (.t 10)),
 o_ 12 (.callF 79 [(.t 8), (.c (.int .i64 4)), (.t 11)])])
 (.ret))
 (.skip)))
 (.seq (.region false [o_ 13 (.mv (.t 0)),
 o_ 14 (.nilCheck (.t 13)),
 o_ 15 (.fieldAddr 1 (.t 14)),
 o_ 16 (.load false 1 (.t 15) .copy),
 o_ 17 (.bin .add (.t 16) (.c (.int .i64 1))),
 o_ 18 (.nilCheck (.t 13)),
 o_ 19 (.fieldAddr 1 (.t 18)),
 ⟨none, none, false, .store 1 (.t 19) (.t 17), .none⟩])
 (.seq (.region false [o_ 20 (.mv (.t 1)),
 o_ 21 (.mv (.t 0)),
 o_ 22 (.mv (.t 2)),
 o_ 23 (.bin .add (.t 22) (.c (.int .i64 1))),
 o_ 24 (.callF 51 [(.t 21), (.t 23)]),
 o_ 25 (.nilCheck (.t 20)),
 o_ 26 (.fieldAddr 3 (.t 25)),
 ⟨none, none, false, .store 1 (.t 26) (.u 24 .share), .none⟩])
 (.seq (.seq (.region false [o_ 27 (.mv (.t 0)),
 o_ 28 (.callF 76 [(.t 27), (.c (.int .i64 0))]),
 o_ 29 (.callP 99 [(.t 28), (.c (.str [125]))]),
 o_ 30 (.un .not (.t 29))])
 (.cond (.t 30)
 (.seq (.region false [o_ 31 (.mv (.t 0)),
 o_ 32 (.callF 52 [(.t 31)])])
 (.ret))
 (.skip)))
 (.seq (.region false [o_ 33 (.mv (.t 0)),
 o_ 34 (.nilCheck (.t 33)),
 o_ 35 (.fieldAddr 1 (.t 34)),
 o_ 36 (.load false 1 (.t 35) .copy),
 o_ 37 (.bin .add (.t 36) (.c (.int .i64 1))),
 o_ 38 (.nilCheck (.t 33)),
 o_ 39 (.fieldAddr 1 (.t 38)),
 ⟨none, none, false, .store 1 (.t 39) (.t 37), .none⟩])
 (.region false [o_ 40 (.mv (.t 0)),
 o_ 41 (.callF 103 [(.t 40)])])))))⟩
theorem c102 : zap Go.Proofs.Tryz.prog p102 102 = some a102 := by decide +kernel
def p103 : Plan := ⟨[], 1, [((0, 2), { box := some 0 }),
 ((1, 17), { pure := true })],
 []⟩
def a103 : AFunc := ⟨1, 27, 1, [],
 .seq (.region false [o_ 3 (.mv (.t 0)),
 o_ 4 (.callF 76 [(.t 3), (.c (.int .i64 0))]),
 o_ 2 (.allocL 0 [(.int .i64 0), (.str []), (.int .i64 0), (.int .i64 0)]),
 ⟨none, none, false, .store 4 (.t 2) (.t 4), .none⟩])
 (.seq (.region true [o_ 5 (.mv (.t 0)),
 o_ 6 (.nilCheck (.t 5)),
 o_ 7 (.fieldAddr 1 (.t 6)),
 o_ 8 (.load false 1 (.t 7) .copy),
 o_ 9 (.mv (.t 0)),
 o_ 10 (.nilCheck (.t 9)),
 o_ 11 (.fieldAddr 0 (.t 10)),
 o_ 12 (.load false 1 (.t 11) .copy),
 o_ 13 (.lenSl (.t 12)),
 o_ 14 (.bin .lss (.t 8) (.t 13)),
 o_ 15 (.mv (.t 14)),
 ⟨(some 16), (some (15, true)), false, .fieldAddr 0 (.t 2), .none⟩,
 ⟨(some 17), (some (15, true)), false, .load false 1 (.t 16) .copy, .none⟩,
 ⟨(some 18), (some (15, true)), false, .bin .neq (.t 17) (.c (.int .i64 5)), .none⟩,
 o_ 19 (.pick (.t 15) (.t 18) (.c (.bool false))),
 o_ 20 (.mv (.t 19)),
 ⟨(some 21), (some (20, true)), false, .load true 4 (.t 2) .copy, .none⟩,
 ⟨(some 22), (some (20, true)), false, .callP 99 [(.t 21), (.c (.str [125]))], .none⟩,
 ⟨(some 23), (some (20, true)), false, .un .not (.t 22), .none⟩,
 o_ 24 (.pick (.t 20) (.t 23) (.c (.bool false)))])
 (.cond (.t 24)
 (.region false [o_ 25 (.mv (.t 0)),
 o_ 26 (.callF 52 [(.t 25)])])
 (.skip)))⟩
theorem c103 : zap Go.Proofs.Tryz.prog p103 103 = some a103 := by decide +kernel
def p104 : Plan := ⟨[], 0, [],
 []⟩
def a104 : AFunc := ⟨2, 21, 0, [.tmp 4],
 .seq (.region false [o_ 4 (.mv (.c (.bool false)))])
 (.seq (.region false [o_ 5 (.mv (.t 0)),
 o_ 6 (.lenStr (.t 5)),
 o_ 7 (.mv (.t 1)),
 o_ 8 (.lenStr (.t 7)),
 o_ 9 (.bin .geq (.t 6) (.t 8)),
 o_ 10 (.mv (.t 9)),
 ⟨(some 11), (some (10, true)), false, .mv (.t 0), .none⟩,
 ⟨(some 12), (some (10, true)), false, .mv (.t 0), .none⟩,
 ⟨(some 13), (some (10, true)), false, .lenStr (.t 12), .none⟩,
 ⟨(some 14), (some (10, true)), false, .mv (.t 1), .none⟩,
 ⟨(some 15), (some (10, true)), false, .lenStr (.t 14), .none⟩,
 ⟨(some 16), (some (10, true)), false, .bin .sub (.t 13) (.t 15), .none⟩,
 ⟨(some 17), (some (10, true)), false, .sliceS (.t 11) (some (.t 16)) none, .none⟩,
 ⟨(some 18), (some (10, true)), false, .mv (.t 1), .none⟩,
 ⟨(some 19), (some (10, true)), false, .bin .eql (.t 17) (.t 18), .none⟩,
 o_ 20 (.pick (.t 10) (.t 19) (.c (.bool false))),
 o_ 4 (.mv (.t 20))])
 (.ret))⟩
theorem c104 : zap Go.Proofs.Tryz.prog p104 104 = some a104 := by decide +kernel
def p105 : Plan := ⟨[], 0, [((1, 2), { pure := true })],
 []⟩
def a105 : AFunc := ⟨2, 16, 0, [.tmp 4],
 .seq (.region false [o_ 4 (.mv (.c (.str [])))])
 (.seq (.seq (.region false [o_ 5 (.mv (.t 0)),
 o_ 6 (.mv (.t 1)),
 o_ 7 (.callP 104 [(.t 5), (.t 6)])])
 (.cond (.t 7)
 (.seq (.region false [o_ 8 (.mv (.t 0)),
 o_ 9 (.mv (.t 0)),
 o_ 10 (.lenStr (.t 9)),
 o_ 11 (.mv (.t 1)),
 o_ 12 (.lenStr (.t 11)),
 o_ 13 (.bin .sub (.t 10) (.t 12)),
 o_ 14 (.sliceS (.t 8) none (some (.t 13))),
 o_ 4 (.mv (.t 14))])
 (.ret))
 (.skip)))
 (.seq (.region false [o_ 15 (.mv (.t 0)),
 o_ 4 (.mv (.t 15))])
 (.ret)))⟩
theorem c105 : zap Go.Proofs.Tryz.prog p105 105 = some a105 := by decide +kernel
def p108 : Plan := ⟨[], 0, [],
 []⟩
def a108 : AFunc := ⟨2, 18, 0, [.tmp 4],
 .seq (.region false [o_ 4 (.mv (.c (.bool false)))])
 (.seq (.region false [o_ 5 (.mv (.t 0)),
 o_ 6 (.lenStr (.t 5)),
 o_ 7 (.mv (.t 1)),
 o_ 8 (.lenStr (.t 7)),
 o_ 9 (.bin .geq (.t 6) (.t 8)),
 o_ 10 (.mv (.t 9)),
 ⟨(some 11), (some (10, true)), false, .mv (.t 0), .none⟩,
 ⟨(some 12), (some (10, true)), false, .mv (.t 1), .none⟩,
 ⟨(some 13), (some (10, true)), false, .lenStr (.t 12), .none⟩,
 ⟨(some 14), (some (10, true)), false, .sliceS (.t 11) none (some (.t 13)), .none⟩,
 ⟨(some 15), (some (10, true)), false, .mv (.t 1), .none⟩,
 ⟨(some 16), (some (10, true)), false, .bin .eql (.t 14) (.t 15), .none⟩,
 o_ 17 (.pick (.t 10) (.t 16) (.c (.bool false))),
 o_ 4 (.mv (.t 17))])
 (.ret))⟩
theorem c108 : zap Go.Proofs.Tryz.prog p108 108 = some a108 := by decide +kernel
def p114 : Plan := ⟨[], 0, [((1, 2), { uses := [(5, .share)] })],
 []⟩
def a114 : AFunc := ⟨2, 9, 0, [.tmp 4],
 .seq (.region false [o_ 4 (.mv (.c (.bool false)))])
 (.seq (.region false [o_ 5 (.mv (.t 0)),
 o_ 6 (.mv (.t 1)),
 o_ 7 (.callF 127 [(.u 5 .share), (.t 6)]),
 o_ 8 (.bin .geq (.t 7) (.c (.int .i64 0))),
 o_ 4 (.mv (.t 8))])
 (.ret))⟩
theorem c114 : zap Go.Proofs.Tryz.prog p114 114 = some a114 := by decide +kernel
def p115 : Plan := ⟨[], 1, [((0, 0), { box := some 0 })],
 []⟩
def a115 : AFunc := ⟨2, 9, 1, [.tmp 3],
 .seq (.region false [o_ 2 (.boxL 0 (.t 0)),
 o_ 3 (.mv (.c (.bool false)))])
 (.seq (.region false [o_ 4 (.fieldAddr 0 (.t 2)),
 o_ 5 (.load false 1 (.t 4) .copy),
 o_ 6 (.fieldAddr 1 (.t 1)),
 o_ 7 (.load false 1 (.t 6) .copy),
 o_ 8 (.bin .eql (.t 5) (.t 7)),
 o_ 3 (.mv (.t 8))])
 (.ret))⟩
theorem c115 : zap Go.Proofs.Tryz.prog p115 115 = some a115 := by decide +kernel
def p127 : Plan := ⟨[], 0, [],
 [[0, 1, 7, 8]]⟩
def a127 : AFunc := ⟨2, 19, 0, [.tmp 4],
 .seq (.region false [o_ 4 (.mv (.c (.int .i64 0)))])
 (.seq (.seq (.region false [o_ 6 (.mv (.t 0)),
 o_ 7 (.lenSl (.t 6)),
 o_ 8 (.mv (.c (.int .i64 0)))])
 (.block 0 (.loop [0, 1, 7, 8] (.seq (.region false [o_ 9 (.bin .lss (.t 8) (.t 7))])
 (.seq (.cond (.t 9)
 (.skip)
 (.exit 0))
 (.seq (.block 1 (.seq (.region false [o_ 10 (.mv (.t 8)),
 o_ 5 (.mv (.t 10))])
 (.seq (.region false [o_ 11 (.mv (.t 1)),
 o_ 12 (.mv (.t 0)),
 o_ 13 (.mv (.t 5)),
 o_ 14 (.indexSl 5 (.t 12) (.t 13)),
 o_ 15 (.load true 5 (.t 14) .copy),
 o_ 16 (.callV (.t 11) [(.t 15)])])
 (.cond (.t 16)
 (.seq (.region false [o_ 17 (.mv (.t 5)),
 o_ 4 (.mv (.t 17))])
 (.ret))
 (.skip)))))
 (.region false [o_ 18 (.bin .add (.t 8) (.c (.int .i64 1))),
 o_ 8 (.mv (.t 18))])))))))
 (.seq (.region false [o_ 4 (.mv (.c (.int .i64 (-1))))])
 (.ret)))⟩
def v127 : List Nat := [0, 1, 4, 5, 7, 8, 9, 16]
theorem c127 : zap Go.Proofs.Tryz.prog p127 127 = some a127 := by decide +kernel
def zm4 : List (Nat × AFunc) := [(11, a11), (12, a12), (13, a13), (15, a15), (19, a19), (22, a22), (23, a23), (25, a25), (26, a26), (27, a27), (28, a28), (34, a34), (35, a35), (36, a36), (37, a37), (44, a44), (45, a45), (50, a50), (51, a51), (52, a52), (53, a53), (55, a55), (56, a56), (57, a57), (58, a58), (59, a59), (60, a60), (61, a61), (62, a62), (69, a69), (70, a70), (71, a71), (74, a74), (75, a75), (76, a76), (77, a77), (78, a78), (79, a79), (80, a80), (81, a81), (85, a85), (86, a86), (88, a88), (89, a89), (92, a92), (93, a93), (94, a94), (95, a95), (96, a96), (98, a98), (99, a99), (100, a100), (101, a101), (102, a102), (103, a103), (104, a104), (105, a105), (108, a108), (114, a114), (115, a115), (127, a127)]
def ET0 : Table := zkO zm4 lyA
theorem ziF : zmY Go.Proofs.Tryz.prog zm4 := ⟨zae c11, zae c12, zae c13, zae c15, zae c19, zae c22, zae c23, zae c25, zae c26, zae c27, zae c28, zae c34, zae c35, zae c36, zae c37, zae c44, zae c45, zae c50, zae c51, zae c52, zae c53, zae c55, zae c56, zae c57, zae c58, zae c59, zae c60, zae c61, zae c62, zae c69, zae c70, zae c71, zae c74, zae c75, zae c76, zae c77, zae c78, zae c79, zae c80, zae c81, zae c85, zae c86, zae c88, zae c89, zae c92, zae c93, zae c94, zae c95, zae c96, zae c98, zae c99, zae c100, zae c101, zae c102, zae c103, zae c104, zae c105, zae c108, zae c114, zae c115, zae c127, trivial⟩
end Go.Proofs.YtakdnfneikbjjaaGreatDoor.Am.LayA

namespace Go.Proofs
open Go.Shelf
def Tryz.laysC174_ren : Go.Shelf.Ren := ⟨fun | 174 => 97 | 247 => 113 | 245 => 107 | 287 => 106 | 279 => 118 | 280 => 119 | 281 => 120 | 282 => 121 | 321 => 116 | 322 => 117 | 316 => 128 | 171 => 130 | 205 => 129 | 243 => 133 | 246 => 134 | 283 => 135 | 284 => 136 | 285 => 137 | 286 => 138 | 129 => 140 | 317 => 139 | 318 => 141 | 319 => 142 | 320 => 143 | 337 => 144 | 338 => 145 | n => n, fun | 9 => 9 | 3 => 3 | 2 => 2 | 75 => 136 | 85 => 145 | 4 => 4 | 167 => 160 | 5 => 5 | 53 => 134 | 175 => 137 | 46 => 162 | 168 => 164 | 37 => 154 | 0 => 0 | 210 => 172 | 21 => 21 | 127 => 168 | 145 => 182 | 143 => 180 | 171 => 184 | 173 => 187 | 212 => 190 | 51 => 175 | 20 => 20 | 213 => 191 | 232 => 195 | 233 => 196 | 80 => 143 | n => n, fun | 15 => 1 | 16 => 2 | 17 => 3 | 18 => 4 | 19 => 5 | n => n⟩
theorem Tryz.laysC174 : Go.Proofs.LaysC.n174 Tryz.prog Tryz.laysC174_ren := {
  mixed := by kernel_rfl
  f129 := Tryz.func140.trans (congrArg some (by kernel_rfl))
  f171 := Tryz.func130.trans (congrArg some (by kernel_rfl))
  f174 := Tryz.func97.trans (congrArg some (by kernel_rfl))
  f205 := Tryz.func129.trans (congrArg some (by kernel_rfl))
  f243 := Tryz.func133.trans (congrArg some (by kernel_rfl))
  f245 := Tryz.func107.trans (congrArg some (by kernel_rfl))
  f246 := Tryz.func134.trans (congrArg some (by kernel_rfl))
  f247 := Tryz.func113.trans (congrArg some (by kernel_rfl))
  f279 := Tryz.func118.trans (congrArg some (by kernel_rfl))
  f280 := Tryz.func119.trans (congrArg some (by kernel_rfl))
  f281 := Tryz.func120.trans (congrArg some (by kernel_rfl))
  f282 := Tryz.func121.trans (congrArg some (by kernel_rfl))
  f283 := Tryz.func135.trans (congrArg some (by kernel_rfl))
  f284 := Tryz.func136.trans (congrArg some (by kernel_rfl))
  f285 := Tryz.func137.trans (congrArg some (by kernel_rfl))
  f286 := Tryz.func138.trans (congrArg some (by kernel_rfl))
  f287 := Tryz.func106.trans (congrArg some (by kernel_rfl))
  f316 := Tryz.func128.trans (congrArg some (by kernel_rfl))
  f317 := Tryz.func139.trans (congrArg some (by kernel_rfl))
  f318 := Tryz.func141.trans (congrArg some (by kernel_rfl))
  f319 := Tryz.func142.trans (congrArg some (by kernel_rfl))
  f320 := Tryz.func143.trans (congrArg some (by kernel_rfl))
  f321 := Tryz.func116.trans (congrArg some (by kernel_rfl))
  f322 := Tryz.func117.trans (congrArg some (by kernel_rfl))
  f337 := Tryz.func144.trans (congrArg some (by kernel_rfl))
  f338 := Tryz.func145.trans (congrArg some (by kernel_rfl))
  t0 := Tryz.underlying0
  a0 := Tryz.isAgg0
  z0 := Tryz.sizeOf0
  v0 := Tryz.zeroValue0
  t2 := Tryz.underlying2
  a2 := Tryz.isAgg2
  z2 := Tryz.sizeOf2
  v2 := Tryz.zeroValue2
  t3 := Tryz.underlying3
  a3 := Tryz.isAgg3
  z3 := Tryz.sizeOf3
  v3 := Tryz.zeroValue3
  t4 := Tryz.underlying4
  a4 := Tryz.isAgg4
  z4 := Tryz.sizeOf4
  v4 := Tryz.zeroValue4
  t5 := Tryz.underlying5
  a5 := Tryz.isAgg5
  z5 := Tryz.sizeOf5
  v5 := Tryz.zeroValue5
  t9 := Tryz.underlying9
  a9 := Tryz.isAgg9
  z9 := Tryz.sizeOf9
  v9 := Tryz.zeroValue9
  t20 := Tryz.underlying20
  a20 := Tryz.isAgg20
  z20 := Tryz.sizeOf20
  v20 := Tryz.zeroValue20
  t21 := Tryz.underlying21
  a21 := Tryz.isAgg21
  z21 := Tryz.sizeOf21
  v21 := Tryz.zeroValue21
  t37 := Tryz.underlying154
  a37 := Tryz.isAgg154
  z37 := Tryz.sizeOf154
  v37 := Tryz.zeroValue154
  t46 := Tryz.underlying162
  a46 := Tryz.isAgg162
  z46 := Tryz.sizeOf162
  v46 := Tryz.zeroValue162
  t51 := Tryz.underlying175
  a51 := Tryz.isAgg175
  z51 := Tryz.sizeOf175
  v51 := Tryz.zeroValue175
  t53 := Tryz.underlying134
  a53 := Tryz.isAgg134
  z53 := Tryz.sizeOf134
  v53 := Tryz.zeroValue134
  t75 := Tryz.underlying136
  a75 := Tryz.isAgg136
  z75 := Tryz.sizeOf136
  v75 := Tryz.zeroValue136
  t85 := Tryz.underlying145
  a85 := Tryz.isAgg145
  z85 := Tryz.sizeOf145
  v85 := Tryz.zeroValue145
  t127 := Tryz.underlying168
  a127 := Tryz.isAgg168
  z127 := Tryz.sizeOf168
  v127 := Tryz.zeroValue168
  t143 := Tryz.underlying180
  a143 := Tryz.isAgg180
  z143 := Tryz.sizeOf180
  v143 := Tryz.zeroValue180
  t145 := Tryz.underlying182
  a145 := Tryz.isAgg182
  z145 := Tryz.sizeOf182
  v145 := Tryz.zeroValue182
  t167 := Tryz.underlying160
  a167 := Tryz.isAgg160
  z167 := Tryz.sizeOf160
  v167 := Tryz.zeroValue160
  t168 := Tryz.underlying164
  a168 := Tryz.isAgg164
  z168 := Tryz.sizeOf164
  v168 := Tryz.zeroValue164
  t171 := Tryz.underlying184
  a171 := Tryz.isAgg184
  z171 := Tryz.sizeOf184
  v171 := Tryz.zeroValue184
  t173 := Tryz.underlying187
  a173 := Tryz.isAgg187
  z173 := Tryz.sizeOf187
  v173 := Tryz.zeroValue187
  t175 := Tryz.underlying137
  a175 := Tryz.isAgg137
  z175 := Tryz.sizeOf137
  v175 := Tryz.zeroValue137
  t210 := Tryz.underlying172
  a210 := Tryz.isAgg172
  z210 := Tryz.sizeOf172
  v210 := Tryz.zeroValue172
  t212 := Tryz.underlying190
  a212 := Tryz.isAgg190
  z212 := Tryz.sizeOf190
  v212 := Tryz.zeroValue190
  t213 := Tryz.underlying191
  a213 := Tryz.isAgg191
  z213 := Tryz.sizeOf191
  t232 := Tryz.underlying195
  a232 := Tryz.isAgg195
  z232 := Tryz.sizeOf195
  v232 := Tryz.zeroValue195
  t233 := Tryz.underlying196
  a233 := Tryz.isAgg196
  z233 := Tryz.sizeOf196
  v233 := Tryz.zeroValue196
  g15 := by kernel_rfl
  g16 := by kernel_rfl
  g17 := by kernel_rfl
  g18 := by kernel_rfl
  g19 := by kernel_rfl
  t80 := Tryz.underlying143
  a80 := Tryz.isAgg143
  z80 := Tryz.sizeOf143
  v80 := Tryz.zeroValue143
  i0 := by kernel_rfl
  i2 := by kernel_rfl
  i3 := by kernel_rfl
  i4 := by kernel_rfl
  i5 := by kernel_rfl
  i9 := by kernel_rfl
  i20 := by kernel_rfl
  i21 := by kernel_rfl
  i37 := by kernel_rfl
  i46 := by kernel_rfl
  i51 := by kernel_rfl
  i53 := by kernel_rfl
  i75 := by kernel_rfl
  i80 := by kernel_rfl
  i85 := by kernel_rfl
  i127 := by kernel_rfl
  i143 := by kernel_rfl
  i145 := by kernel_rfl
  i167 := by kernel_rfl
  i168 := by kernel_rfl
  i171 := by kernel_rfl
  i173 := by kernel_rfl
  i175 := by kernel_rfl
  i210 := by kernel_rfl
  i212 := by kernel_rfl
  i232 := by kernel_rfl
  i233 := by kernel_rfl
  m15 := by kernel_rfl
  m16 := by kernel_rfl
  m17 := by kernel_rfl
  m18 := by kernel_rfl
  m19 := by kernel_rfl
  c0 := by kernel_rfl
  c2 := by kernel_rfl
  c3 := by kernel_rfl
  c4 := by kernel_rfl
  c5 := by kernel_rfl
  c9 := by kernel_rfl
  c20 := by kernel_rfl
  c21 := by kernel_rfl
  c37 := by kernel_rfl
  c46 := by kernel_rfl
  c51 := by kernel_rfl
  c53 := by kernel_rfl
  c75 := by kernel_rfl
  c80 := by kernel_rfl
  c85 := by kernel_rfl
  c127 := by kernel_rfl
  c143 := by kernel_rfl
  c145 := by kernel_rfl
  c167 := by kernel_rfl
  c168 := by kernel_rfl
  c171 := by kernel_rfl
  c173 := by kernel_rfl
  c175 := by kernel_rfl
  c210 := by kernel_rfl
  c212 := by kernel_rfl
  c213 := by kernel_rfl
  c232 := by kernel_rfl
  c233 := by kernel_rfl }
end Go.Proofs

namespace Go.Proofs.YtakdnfneikbjjaaGreatDoor.Am.Lay10
abbrev o_ (d : Nat) (x : AOp) : AOper := ⟨some d, none, false, x, .none⟩
def p58 : Plan := ⟨[], 1, [((0, 0), { box := some 0 })],
 []⟩
def a58 : AFunc := ⟨1, 35, 1, [.tmp 2],
 .seq (.region false [o_ 1 (.boxL 0 (.t 0)),
 o_ 2 (.mv (.c (.int .i64 0)))])
 (.seq (.block 0 (.seq (.region false [o_ 4 (.fieldAddr 0 (.t 1)),
 o_ 5 (.load false 1 (.t 4) .copy),
 o_ 6 (.bin .eql (.t 5) (.c (.int .i64 0))),
 o_ 3 (.mv (.t 6))])
 (.cond (.t 3)
 (.skip)
 (.seq (.region false [o_ 8 (.fieldAddr 0 (.t 1)),
 o_ 9 (.load false 1 (.t 8) .copy),
 o_ 10 (.bin .eql (.t 9) (.c (.int .i64 1))),
 o_ 11 (.mv (.t 10)),
 ⟨(some 12), (some (11, true)), false, .fieldAddr 1 (.t 1), .none⟩,
 ⟨(some 13), (some (11, true)), false, .load false 1 (.t 12) .copy, .none⟩,
 ⟨(some 14), (some (11, true)), false, .bin .geq (.t 13) (.c (.int .i64 1)), .none⟩,
 o_ 15 (.pick (.t 11) (.t 14) (.c (.bool false))),
 o_ 16 (.mv (.t 15)),
 ⟨(some 17), (some (16, true)), false, .fieldAddr 1 (.t 1), .none⟩,
 ⟨(some 18), (some (16, true)), false, .load false 1 (.t 17) .copy, .none⟩,
 ⟨(some 19), (some (16, true)), false, .bin .leq (.t 18) (.c (.int .i64 200)), .none⟩,
 o_ 20 (.pick (.t 16) (.t 19) (.c (.bool false))),
 o_ 7 (.mv (.t 20))])
 (.cond (.t 7)
 (.skip)
 (.seq (.region false [o_ 22 (.fieldAddr 0 (.t 1)),
 o_ 23 (.load false 1 (.t 22) .copy),
 o_ 24 (.bin .eql (.t 23) (.c (.int .i64 2))),
 o_ 25 (.mv (.t 24)),
 ⟨(some 26), (some (25, true)), false, .fieldAddr 1 (.t 1), .none⟩,
 ⟨(some 27), (some (25, true)), false, .load false 1 (.t 26) .copy, .none⟩,
 ⟨(some 28), (some (25, true)), false, .bin .geq (.t 27) (.c (.int .i64 1)), .none⟩,
 o_ 29 (.pick (.t 25) (.t 28) (.c (.bool false))),
 o_ 30 (.mv (.t 29)),
 ⟨(some 31), (some (30, true)), false, .fieldAddr 1 (.t 1), .none⟩,
 ⟨(some 32), (some (30, true)), false, .load false 1 (.t 31) .copy, .none⟩,
 ⟨(some 33), (some (30, true)), false, .bin .leq (.t 32) (.c (.int .i64 100)), .none⟩,
 o_ 34 (.pick (.t 30) (.t 33) (.c (.bool false))),
 o_ 21 (.mv (.t 34))])
 (.cond (.t 21)
 (.skip)
 (.seq (.region false [o_ 2 (.mv (.c (.int .i64 1)))])
 (.ret)))))))))
 (.seq (.region false [o_ 2 (.mv (.c (.int .i64 0)))])
 (.ret)))⟩
theorem c58 : zap Go.Proofs.Tryz.prog p58 58 = some a58 := by decide +kernel
def p34 : Plan := ⟨[], 2, [((0, 0), { box := some 0 }),
 ((1, 5), { pure := true }),
 ((11, 1), { mode := .peek }),
 ((11, 6), { mode := .peek }),
 ((15, 2), { box := some 1 }),
 ((15, 3), { uses := [(50, .take)] }),
 ((16, 9), { mode := .take }),
 ((16, 13), { uses := [(60, .share)] })],
 [[1, 2, 3, 45, 46, 47]]⟩
def a34 : AFunc := ⟨3, 68, 2, [.tmp 6],
 .seq (.region false [o_ 3 (.boxL 0 (.t 0)),
 o_ 6 (.mv (.c (.bool false)))])
 (.seq (.seq (.region false [o_ 9 (.mv (.t 1)),
 o_ 10 (.bin .gtr (.t 9) (.c (.int .i64 12))),
 o_ 11 (.mv (.t 10)),
 ⟨(some 12), (some (11, false)), false, .fieldAddr 1 (.t 3), .none⟩,
 ⟨(some 13), (some (11, false)), false, .load true 2 (.t 12) .copy, .none⟩,
 ⟨(some 14), (some (11, false)), false, .callP 58 [(.t 13)], .none⟩,
 ⟨(some 15), (some (11, false)), false, .bin .neq (.t 14) (.c (.int .i64 0)), .none⟩,
 o_ 16 (.pick (.t 11) (.c (.bool true)) (.t 15))])
 (.cond (.t 16)
 (.seq (.region false [o_ 6 (.mv (.c (.bool false)))])
 (.ret))
 (.skip)))
 (.seq (.seq (.region false [o_ 17 (.fieldAddr 0 (.t 3)),
 o_ 18 (.load false 1 (.t 17) .copy)])
 (.block 0 (.seq (.region false [o_ 20 (.bin .eql (.t 18) (.c (.int .i64 1))),
 o_ 19 (.mv (.t 20))])
 (.cond (.t 19)
 (.seq (.region false [o_ 21 (.mv (.t 2)),
 o_ 22 (.nilCheck (.t 21)),
 o_ 23 (.load false 1 (.t 22) .copy),
 o_ 24 (.bin .add (.t 23) (.c (.int .i64 1))),
 o_ 25 (.nilCheck (.t 21)),
 ⟨none, none, false, .store 1 (.t 25) (.t 24), .none⟩])
 (.seq (.region false [o_ 26 (.mv (.t 2)),
 o_ 27 (.nilCheck (.t 26)),
 o_ 28 (.load false 1 (.t 27) .copy),
 o_ 29 (.bin .leq (.t 28) (.c (.int .i64 24))),
 o_ 6 (.mv (.t 29))])
 (.ret)))
 (.seq (.seq (.region false [o_ 31 (.bin .eql (.t 18) (.c (.int .i64 2))),
 o_ 30 (.mv (.t 31))])
 (.cond (.t 30)
 (.skip)
 (.seq (.region false [o_ 32 (.bin .eql (.t 18) (.c (.int .i64 3))),
 o_ 30 (.mv (.t 32))])
 (.cond (.t 30)
 (.skip)
 (.region false [o_ 33 (.bin .eql (.t 18) (.c (.int .i64 4))),
 o_ 30 (.mv (.t 33))])))))
 (.cond (.t 30)
 (.skip)
 (.seq (.region false [o_ 6 (.mv (.c (.bool false)))])
 (.ret))))))))
 (.seq (.seq (.region false [o_ 34 (.fieldAddr 4 (.t 3)),
 o_ 35 (.load false 1 (.t 34) .peek),
 o_ 36 (.lenSl (.t 35)),
 o_ 37 (.bin .lss (.t 36) (.c (.int .i64 1))),
 o_ 38 (.mv (.t 37)),
 ⟨(some 39), (some (38, false)), false, .fieldAddr 4 (.t 3), .none⟩,
 ⟨(some 40), (some (38, false)), false, .load false 1 (.t 39) .peek, .none⟩,
 ⟨(some 41), (some (38, false)), false, .lenSl (.t 40), .none⟩,
 ⟨(some 42), (some (38, false)), false, .bin .gtr (.t 41) (.c (.int .i64 16)), .none⟩,
 o_ 43 (.pick (.t 38) (.c (.bool true)) (.t 42))])
 (.cond (.t 43)
 (.seq (.region false [o_ 6 (.mv (.c (.bool false)))])
 (.ret))
 (.skip)))
 (.seq (.seq (.region false [o_ 44 (.fieldAddr 4 (.t 3)),
 o_ 45 (.load false 1 (.t 44) .copy),
 o_ 46 (.lenSl (.t 45)),
 o_ 47 (.mv (.c (.int .i64 0)))])
 (.block 1 (.loop [1, 2, 3, 45, 46, 47] (.seq (.region false [o_ 48 (.bin .lss (.t 47) (.t 46))])
 (.seq (.cond (.t 48)
 (.skip)
 (.exit 1))
 (.seq (.block 2 (.seq (.region false [o_ 49 (.indexSl 6 (.t 45) (.t 47)),
 o_ 50 (.load true 6 (.t 49) .copy),
 o_ 8 (.allocL 1 [(.int .i64 0), (.int .i64 0), (.int .i64 0), (.str []), .nils, .nils]),
 ⟨none, none, false, .store 6 (.t 8) (.u 50 .take), .none⟩])
 (.seq (.region false [o_ 51 (.fieldAddr 0 (.t 3)),
 o_ 52 (.load false 1 (.t 51) .copy),
 o_ 53 (.bin .eql (.t 52) (.c (.int .i64 4))),
 o_ 54 (.mv (.t 53)),
 ⟨(some 55), (some (54, true)), false, .fieldAddr 0 (.t 8), .none⟩,
 ⟨(some 56), (some (54, true)), false, .load false 1 (.t 55) .copy, .none⟩,
 ⟨(some 57), (some (54, true)), false, .bin .neq (.t 56) (.c (.int .i64 1)), .none⟩,
 o_ 58 (.pick (.t 54) (.t 57) (.c (.bool false))),
 o_ 59 (.mv (.t 58)),
 ⟨(some 60), (some (59, false)), false, .load true 6 (.t 8) .take, .none⟩,
 ⟨(some 61), (some (59, false)), false, .mv (.t 1), .none⟩,
 ⟨(some 62), (some (59, false)), false, .bin .add (.t 61) (.c (.int .i64 1)), .none⟩,
 ⟨(some 63), (some (59, false)), false, .mv (.t 2), .none⟩,
 ⟨(some 64), (some (59, false)), false, .callF 34 [(.u 60 .share), (.t 62), (.t 63)], .none⟩,
 ⟨(some 65), (some (59, false)), false, .un .not (.t 64), .none⟩,
 o_ 66 (.pick (.t 59) (.c (.bool true)) (.t 65))])
 (.cond (.t 66)
 (.seq (.region false [o_ 6 (.mv (.c (.bool false)))])
 (.ret))
 (.skip)))))
 (.region false [o_ 67 (.bin .add (.t 47) (.c (.int .i64 1))),
 o_ 47 (.mv (.t 67))])))))))
 (.seq (.region false [o_ 6 (.mv (.c (.bool true)))])
 (.ret))))))⟩
theorem c34 : zap Go.Proofs.Tryz.prog p34 34 = some a34 := by decide +kernel
def p15 : Plan := ⟨[], 1, [((0, 0), { box := some 0 }),
 ((2, 1), { uses := [(4, .share)] })],
 []⟩
def a15 : AFunc := ⟨1, 15, 1, [.tmp 2],
 .seq (.region false [o_ 1 (.boxL 0 (.t 0)),
 o_ 2 (.mv (.c (.int .i64 0)))])
 (.seq (.region false [o_ 3 (.allocM [(.int .i64 0)]),
 ⟨none, none, false, .store 1 (.t 3) (.c (.int .i64 0)), .none⟩])
 (.seq (.seq (.region false [o_ 4 (.load true 6 (.t 1) .copy),
 o_ 5 (.callF 34 [(.u 4 .share), (.c (.int .i64 1)), (.t 3)]),
 o_ 6 (.un .not (.t 5)),
 o_ 7 (.mv (.t 6)),
 ⟨(some 8), (some (7, false)), false, .fieldAddr 5 (.t 1), .none⟩,
 ⟨(some 9), (some (7, false)), false, .load false 1 (.t 8) .copy, .none⟩,
 ⟨(some 10), (some (7, false)), false, .lenSl (.t 9), .none⟩,
 ⟨(some 11), (some (7, false)), false, .load false 1 (.t 3) .copy, .none⟩,
 ⟨(some 12), (some (7, false)), false, .bin .sub (.c (.int .i64 24)) (.t 11), .none⟩,
 ⟨(some 13), (some (7, false)), false, .bin .gtr (.t 10) (.t 12), .none⟩,
 o_ 14 (.pick (.t 7) (.c (.bool true)) (.t 13))])
 (.cond (.t 14)
 (.seq (.region false [o_ 2 (.mv (.c (.int .i64 100)))])
 (.ret))
 (.skip)))
 (.seq (.region false [o_ 2 (.mv (.c (.int .i64 0)))])
 (.ret))))⟩
theorem c15 : zap Go.Proofs.Tryz.prog p15 15 = some a15 := by decide +kernel
def p55 : Plan := ⟨[], 0, [],
 []⟩
def a55 : AFunc := ⟨3, 12, 0, [.tmp 6],
 .seq (.region false [o_ 6 (.mv (.c (.int .i64 0)))])
 (.seq (.region false [o_ 7 (.mv (.t 1)),
 o_ 8 (.mv (.t 0)),
 o_ 9 (.mv (.t 2)),
 o_ 10 (.minMax false (.t 8) [(.t 9)]),
 o_ 11 (.minMax true (.t 7) [(.t 10)]),
 o_ 6 (.mv (.t 11))])
 (.ret))⟩
theorem c55 : zap Go.Proofs.Tryz.prog p55 55 = some a55 := by decide +kernel
def p25 : Plan := ⟨[], 2, [((2, 17), { mark := (.loc 0) }),
 ((2, 15), { mark := (.loc 0) }),
 ((2, 13), { mark := .free, pure := true }),
 ((2, 12), { mark := .free }),
 ((2, 10), { mark := (.loc 0) }),
 ((2, 8), { mark := (.loc 0) }),
 ((2, 6), { mark := .free, pure := true }),
 ((2, 5), { mark := .free }),
 ((2, 3), { mark := (.loc 0) }),
 ((2, 1), { mark := (.loc 0) }),
 ((1, 9), { mark := (.loc 0) }),
 ((1, 7), { mark := (.loc 0) }),
 ((1, 5), { mark := .free, pure := true }),
 ((1, 4), { mark := (.loc 0) }),
 ((1, 2), { mark := .free, pure := true }),
 ((1, 1), { mark := (.loc 0) }),
 ((0, 0), { box := some 0 }),
 ((0, 1), { box := some 1 })],
 []⟩
def a25 : AFunc := ⟨1, 37, 2, [.cell 2 true 4],
 .seq (.region false [o_ 1 (.boxL 0 (.t 0)),
 o_ 2 (.allocL 1 [(.int .i64 0), (.int .i64 0), (.int .i64 0), (.int .i64 0)])])
 (.seq (.region true [o_ 3 (.fieldAddr 0 (.t 1)),
 ⟨(some 4), none, false, .load false 1 (.t 3) .copy, (.loc 0)⟩,
 ⟨(some 5), none, false, .callP 55 [(.t 4), (.c (.int .i64 (-5000))), (.c (.int .i64 5000))], .free⟩,
 o_ 6 (.fieldAddr 1 (.t 1)),
 ⟨(some 7), none, false, .load false 1 (.t 6) .copy, (.loc 0)⟩,
 ⟨(some 8), none, false, .callP 55 [(.t 7), (.c (.int .i64 (-5000))), (.c (.int .i64 5000))], .free⟩,
 o_ 9 (.fieldAddr 0 (.t 1)),
 ⟨none, none, false, .store 1 (.t 9) (.t 5), (.loc 0)⟩,
 o_ 10 (.fieldAddr 1 (.t 1)),
 ⟨none, none, false, .store 1 (.t 10) (.t 8), (.loc 0)⟩])
 (.seq (.region true [o_ 11 (.fieldAddr 2 (.t 1)),
 ⟨(some 12), none, false, .load false 1 (.t 11) .copy, (.loc 0)⟩,
 o_ 13 (.fieldAddr 0 (.t 1)),
 ⟨(some 14), none, false, .load false 1 (.t 13) .copy, (.loc 0)⟩,
 o_ 15 (.bin .sub (.c (.int .i64 5000)) (.t 14)),
 ⟨(some 16), none, false, .minMax false (.c (.int .i64 200)) [(.t 15)], .free⟩,
 ⟨(some 17), none, false, .callP 55 [(.t 12), (.c (.int .i64 0)), (.t 16)], .free⟩,
 o_ 18 (.fieldAddr 3 (.t 1)),
 ⟨(some 19), none, false, .load false 1 (.t 18) .copy, (.loc 0)⟩,
 o_ 20 (.fieldAddr 1 (.t 1)),
 ⟨(some 21), none, false, .load false 1 (.t 20) .copy, (.loc 0)⟩,
 o_ 22 (.bin .sub (.c (.int .i64 5000)) (.t 21)),
 ⟨(some 23), none, false, .minMax false (.c (.int .i64 200)) [(.t 22)], .free⟩,
 ⟨(some 24), none, false, .callP 55 [(.t 19), (.c (.int .i64 0)), (.t 23)], .free⟩,
 o_ 25 (.fieldAddr 2 (.t 1)),
 ⟨none, none, false, .store 1 (.t 25) (.t 17), (.loc 0)⟩,
 o_ 26 (.fieldAddr 3 (.t 1)),
 ⟨none, none, false, .store 1 (.t 26) (.t 24), (.loc 0)⟩])
 (.seq (.seq (.region false [o_ 27 (.fieldAddr 2 (.t 1)),
 o_ 28 (.load false 1 (.t 27) .copy),
 o_ 29 (.bin .eql (.t 28) (.c (.int .i64 0))),
 o_ 30 (.mv (.t 29)),
 ⟨(some 31), (some (30, false)), false, .fieldAddr 3 (.t 1), .none⟩,
 ⟨(some 32), (some (30, false)), false, .load false 1 (.t 31) .copy, .none⟩,
 ⟨(some 33), (some (30, false)), false, .bin .eql (.t 32) (.c (.int .i64 0)), .none⟩,
 o_ 34 (.pick (.t 30) (.c (.bool true)) (.t 33))])
 (.cond (.t 34)
 (.seq (.region false [o_ 35 (.build [(.int .i64 0), (.int .i64 0), (.int .i64 0), (.int .i64 0)] []),
 ⟨none, none, false, .store 4 (.t 2) (.t 35), .none⟩])
 (.ret))
 (.skip)))
 (.seq (.region false [o_ 36 (.load true 4 (.t 1) .copy),
 ⟨none, none, false, .store 4 (.t 2) (.t 36), .none⟩])
 (.ret)))))⟩
theorem c25 : zap Go.Proofs.Tryz.prog p25 25 = some a25 := by decide +kernel
def p60 : Plan := ⟨[], 0, [],
 []⟩
def a60 : AFunc := ⟨2, 32, 0, [.tmp 4],
 .seq (.region false [o_ 4 (.mv (.c (.int .i64 0)))])
 (.seq (.region false [o_ 6 (.mv (.t 0)),
 o_ 7 (.mv (.t 1)),
 o_ 8 (.bin .add (.t 6) (.t 7)),
 o_ 5 (.mv (.t 8))])
 (.block 0 (.seq (.region false [o_ 11 (.mv (.t 0)),
 o_ 12 (.bin .gtr (.t 11) (.c (.int .i64 0))),
 o_ 13 (.mv (.t 12)),
 ⟨(some 14), (some (13, true)), false, .mv (.t 1), .none⟩,
 ⟨(some 15), (some (13, true)), false, .bin .gtr (.t 14) (.c (.int .i64 0)), .none⟩,
 o_ 16 (.pick (.t 13) (.t 15) (.c (.bool false))),
 o_ 17 (.mv (.t 16)),
 ⟨(some 18), (some (17, true)), false, .mv (.t 5), .none⟩,
 ⟨(some 19), (some (17, true)), false, .bin .lss (.t 18) (.c (.int .i64 0)), .none⟩,
 o_ 20 (.pick (.t 17) (.t 19) (.c (.bool false))),
 o_ 10 (.mv (.t 20))])
 (.cond (.t 10)
 (.seq (.region false [o_ 4 (.mv (.c (.int .i64 9223372036854775807)))])
 (.ret))
 (.seq (.region false [o_ 22 (.mv (.t 0)),
 o_ 23 (.bin .lss (.t 22) (.c (.int .i64 0))),
 o_ 24 (.mv (.t 23)),
 ⟨(some 25), (some (24, true)), false, .mv (.t 1), .none⟩,
 ⟨(some 26), (some (24, true)), false, .bin .lss (.t 25) (.c (.int .i64 0)), .none⟩,
 o_ 27 (.pick (.t 24) (.t 26) (.c (.bool false))),
 o_ 28 (.mv (.t 27)),
 ⟨(some 29), (some (28, true)), false, .mv (.t 5), .none⟩,
 ⟨(some 30), (some (28, true)), false, .bin .geq (.t 29) (.c (.int .i64 0)), .none⟩,
 o_ 31 (.pick (.t 28) (.t 30) (.c (.bool false))),
 o_ 21 (.mv (.t 31))])
 (.cond (.t 21)
 (.seq (.region false [o_ 4 (.mv (.c (.int .i64 (-9223372036854775808))))])
 (.ret))
 (.seq (.region false [o_ 9 (.mv (.t 5)),
 o_ 4 (.mv (.t 9))])
 (.ret))))))))⟩
theorem c60 : zap Go.Proofs.Tryz.prog p60 60 = some a60 := by decide +kernel
def p28 : Plan := ⟨[], 2, [((2, 11), { mark := (.loc 0) }),
 ((2, 9), { mark := (.loc 0) }),
 ((2, 7), { mark := .free, pure := true }),
 ((2, 5), { mark := (.loc 0) }),
 ((2, 3), { mark := .free, pure := true }),
 ((2, 1), { mark := (.loc 0) }),
 ((0, 0), { box := some 0 }),
 ((0, 1), { box := some 1 }),
 ((1, 1), { pure := true }),
 ((3, 1), { pure := true })],
 []⟩
def a28 : AFunc := ⟨3, 21, 2, [.cell 6 true 4],
 .seq (.region false [o_ 3 (.boxL 0 (.t 0)),
 o_ 6 (.allocL 1 [(.int .i64 0), (.int .i64 0), (.int .i64 0), (.int .i64 0)])])
 (.seq (.region false [o_ 7 (.load true 4 (.t 3) .copy),
 o_ 8 (.callP 25 [(.t 7)]),
 ⟨none, none, false, .store 4 (.t 3) (.t 8), .none⟩])
 (.seq (.region true [o_ 9 (.fieldAddr 0 (.t 3)),
 ⟨(some 10), none, false, .load false 1 (.t 9) .copy, (.loc 0)⟩,
 o_ 11 (.mv (.t 1)),
 ⟨(some 12), none, false, .callP 60 [(.t 10), (.t 11)], .free⟩,
 o_ 13 (.fieldAddr 1 (.t 3)),
 ⟨(some 14), none, false, .load false 1 (.t 13) .copy, (.loc 0)⟩,
 o_ 15 (.mv (.t 2)),
 ⟨(some 16), none, false, .callP 60 [(.t 14), (.t 15)], .free⟩,
 o_ 17 (.fieldAddr 0 (.t 3)),
 ⟨none, none, false, .store 1 (.t 17) (.t 12), (.loc 0)⟩,
 o_ 18 (.fieldAddr 1 (.t 3)),
 ⟨none, none, false, .store 1 (.t 18) (.t 16), (.loc 0)⟩])
 (.seq (.region false [o_ 19 (.load true 4 (.t 3) .copy),
 o_ 20 (.callP 25 [(.t 19)]),
 ⟨none, none, false, .store 4 (.t 6) (.t 20), .none⟩])
 (.ret))))⟩
theorem c28 : zap Go.Proofs.Tryz.prog p28 28 = some a28 := by decide +kernel
def p36 : Plan := ⟨[], 1, [((1, 18), { uses := [(23, .take)], mark := .mem }),
 ((1, 14), { mark := .free }),
 ((1, 13), { mark := .free }),
 ((1, 10), { mark := (.loc 0) }),
 ((0, 0), { box := some 0 }),
 ((1, 4), { mode := .peek }),
 ((1, 8), { mode := .peek }),
 ((1, 15), { uses := [(12, .take), (22, .take)] })],
 []⟩
def a36 : AFunc := ⟨4, 26, 1, [],
 .seq (.region false [o_ 5 (.boxL 0 (.t 1))])
 (.region true [o_ 8 (.mv (.t 0)),
 o_ 9 (.mv (.t 0)),
 o_ 10 (.nilCheck (.t 9)),
 o_ 11 (.fieldAddr 0 (.t 10)),
 o_ 12 (.load false 1 (.t 11) .peek),
 o_ 13 (.mv (.t 0)),
 o_ 14 (.nilCheck (.t 13)),
 o_ 15 (.fieldAddr 0 (.t 14)),
 o_ 16 (.load false 1 (.t 15) .peek),
 o_ 17 (.lenSl (.t 16)),
 ⟨(some 18), none, false, .load true 4 (.t 5) .copy, (.loc 0)⟩,
 o_ 19 (.mv (.t 2)),
 o_ 20 (.mv (.t 3)),
 ⟨(some 21), none, false, .build [(.int .i64 0), (.int .i64 0), (.int .i64 0), (.int .i64 0), (.int .i64 0), (.int .i64 0), (.bool false)] [(0, 1, (.t 17)), (1, 4, (.t 18)), (5, 1, (.t 19)), (6, 1, (.t 20))], .free⟩,
 ⟨(some 22), none, false, .buildSlice 7 [(.int .i64 0), (.int .i64 0), (.int .i64 0), (.int .i64 0), (.int .i64 0), (.int .i64 0), (.bool false)] 1 [(0, (.t 21))], .free⟩,
 o_ 23 (.append 7 (.u 12 .take) (.u 22 .take)),
 o_ 24 (.nilCheck (.t 8)),
 o_ 25 (.fieldAddr 0 (.t 24)),
 ⟨none, none, false, .store 1 (.t 25) (.u 23 .take), .mem⟩])⟩
theorem c36 : zap Go.Proofs.Tryz.prog p36 36 = some a36 := by decide +kernel
def p57 : Plan := ⟨[], 1, [((0, 0), { box := some 0 }),
 ((1, 1), { pure := true })],
 []⟩
def a57 : AFunc := ⟨1, 6, 1, [.tmp 2],
 .seq (.region false [o_ 1 (.boxL 0 (.t 0)),
 o_ 2 (.mv (.c (.bool false)))])
 (.seq (.region false [o_ 3 (.load true 2 (.t 1) .copy),
 o_ 4 (.callP 58 [(.t 3)]),
 o_ 5 (.bin .neq (.t 4) (.c (.int .i64 0))),
 o_ 2 (.mv (.t 5))])
 (.ret))⟩
theorem c57 : zap Go.Proofs.Tryz.prog p57 57 = some a57 := by decide +kernel
def p80 : Plan := ⟨[], 0, [],
 [[0, 1, 7, 8]]⟩
def a80 : AFunc := ⟨2, 19, 0, [.tmp 4],
 .seq (.region false [o_ 4 (.mv (.c (.int .i64 0)))])
 (.seq (.seq (.region false [o_ 6 (.mv (.t 0)),
 o_ 7 (.lenSl (.t 6)),
 o_ 8 (.mv (.c (.int .i64 0)))])
 (.block 0 (.loop [0, 1, 7, 8] (.seq (.region false [o_ 9 (.bin .lss (.t 8) (.t 7))])
 (.seq (.cond (.t 9)
 (.skip)
 (.exit 0))
 (.seq (.block 1 (.seq (.region false [o_ 10 (.mv (.t 8)),
 o_ 5 (.mv (.t 10))])
 (.seq (.region false [o_ 11 (.mv (.t 1)),
 o_ 12 (.mv (.t 0)),
 o_ 13 (.mv (.t 5)),
 o_ 14 (.indexSl 2 (.t 12) (.t 13)),
 o_ 15 (.load true 2 (.t 14) .copy),
 o_ 16 (.callV (.t 11) [(.t 15)])])
 (.cond (.t 16)
 (.seq (.region false [o_ 17 (.mv (.t 5)),
 o_ 4 (.mv (.t 17))])
 (.ret))
 (.skip)))))
 (.region false [o_ 18 (.bin .add (.t 8) (.c (.int .i64 1))),
 o_ 8 (.mv (.t 18))])))))))
 (.seq (.region false [o_ 4 (.mv (.c (.int .i64 (-1))))])
 (.ret)))⟩
def v80 : List Nat := [0, 1, 4, 5, 7, 8, 9, 16]
theorem c80 : zap Go.Proofs.Tryz.prog p80 80 = some a80 := by decide +kernel
def p56 : Plan := ⟨[], 0, [((1, 2), { uses := [(5, .share)] })],
 []⟩
def a56 : AFunc := ⟨2, 9, 0, [.tmp 4],
 .seq (.region false [o_ 4 (.mv (.c (.bool false)))])
 (.seq (.region false [o_ 5 (.mv (.t 0)),
 o_ 6 (.mv (.t 1)),
 o_ 7 (.callF 80 [(.u 5 .share), (.t 6)]),
 o_ 8 (.bin .geq (.t 7) (.c (.int .i64 0))),
 o_ 4 (.mv (.t 8))])
 (.ret))⟩
theorem c56 : zap Go.Proofs.Tryz.prog p56 56 = some a56 := by decide +kernel
def p59 : Plan := ⟨[], 1, [((0, 0), { box := some 0 })],
 []⟩
def a59 : AFunc := ⟨2, 19, 1, [.tmp 4],
 .seq (.region false [o_ 3 (.boxL 0 (.t 1)),
 o_ 4 (.mv (.c (.int .i64 0)))])
 (.seq (.seq (.region false [o_ 5 (.fieldAddr 0 (.t 3)),
 o_ 6 (.load false 1 (.t 5) .copy)])
 (.block 0 (.seq (.region false [o_ 8 (.bin .eql (.t 6) (.c (.int .i64 1))),
 o_ 7 (.mv (.t 8))])
 (.cond (.t 7)
 (.seq (.region false [o_ 9 (.fieldAddr 1 (.t 3)),
 o_ 10 (.load false 1 (.t 9) .copy),
 o_ 4 (.mv (.t 10))])
 (.ret))
 (.seq (.region false [o_ 12 (.bin .eql (.t 6) (.c (.int .i64 2))),
 o_ 11 (.mv (.t 12))])
 (.cond (.t 11)
 (.seq (.region false [o_ 13 (.mv (.t 0)),
 o_ 14 (.fieldAddr 1 (.t 3)),
 o_ 15 (.load false 1 (.t 14) .copy),
 o_ 16 (.bin .mul (.t 13) (.t 15)),
 o_ 17 (.bin .quo (.t 16) (.c (.int .i64 100))),
 o_ 18 (.minMax true (.t 17) [(.c (.int .i64 1))]),
 o_ 4 (.mv (.t 18))])
 (.ret))
 (.skip)))))))
 (.seq (.region false [o_ 4 (.mv (.c (.int .i64 1)))])
 (.ret)))⟩
theorem c59 : zap Go.Proofs.Tryz.prog p59 59 = some a59 := by decide +kernel
def p27 : Plan := ⟨[6, 7], 1, [((1, 9), { uses := [(24, .share)] }),
 ((11, 3), { box := some 0 }),
 ((12, 0), { uses := [(6, .take)] }),
 ((12, 3), { pure := true }),
 ((12, 5), { uses := [(44, .take), (48, .take)] }),
 ((12, 6), { uses := [(49, .take)] }),
 ((13, 1), { uses := [(6, .peek)] }),
 ((15, 0), { uses := [(7, .take)] }),
 ((15, 3), { uses := [(59, .take), (61, .take)] }),
 ((15, 4), { uses := [(62, .take)] }),
 ((17, 0), { uses := [(6, .peek)] }),
 ((20, 0), { uses := [(6, .peek)] }),
 ((21, 0), { uses := [(6, .peek)] }),
 ((23, 0), { uses := [(7, .peek)] }),
 ((24, 0), { uses := [(6, .peek)] }),
 ((24, 1), { uses := [(6, .peek)] }),
 ((25, 0), { uses := [(6, .take)] }),
 ((25, 1), { uses := [(101, .share)] }),
 ((26, 0), { uses := [(7, .peek)] }),
 ((29, 0), { uses := [(6, .peek)], name := some 6 }),
 ((29, 2), { name := some 6 }),
 ((29, 3), { name := some 6 }),
 ((29, 5), { uses := [(7, .peek)], name := some 7 }),
 ((29, 6), { name := some 7 }),
 ((29, 9), { name := some 6 }),
 ((29, 10), { name := some 6 }),
 ((30, 2), { uses := [(7, .peek)] }),
 ((31, 0), { uses := [(6, .peek)] }),
 ((33, 0), { uses := [(6, .take)] }),
 ((33, 1), { uses := [(132, .share)] })],
 [[0, 6, 7, 8, 37, 38, 39], [6, 7, 8, 11], [6, 7, 8, 102, 103, 104]]⟩
def a27 : AFunc := ⟨2, 133, 1, [.tmp 4, .tmp 5],
 .seq (.region false [o_ 4 (.mv (.c .nils)),
 o_ 5 (.mv (.c (.int .i64 0)))])
 (.seq (.block 0 (.seq (.region false [o_ 16 (.mv (.t 1)),
 o_ 17 (.lenSl (.t 16)),
 o_ 18 (.bin .eql (.t 17) (.c (.int .i64 0))),
 o_ 19 (.mv (.t 18)),
 ⟨(some 20), (some (19, false)), false, .mv (.t 0), .none⟩,
 ⟨(some 21), (some (19, false)), false, .bin .gtr (.t 20) (.c (.int .i64 200)), .none⟩,
 o_ 22 (.pick (.t 19) (.c (.bool true)) (.t 21)),
 o_ 23 (.mv (.t 22)),
 ⟨(some 24), (some (23, false)), false, .mv (.t 1), .none⟩,
 ⟨(some 25), (some (23, false)), false, .callF 56 [(.u 24 .share), (.c (.func 57 []))], .none⟩,
 o_ 26 (.pick (.t 23) (.c (.bool true)) (.t 25)),
 o_ 15 (.mv (.t 26))])
 (.cond (.t 15)
 (.seq (.region false [o_ 4 (.mv (.c .nils)),
 o_ 5 (.mv (.c (.int .i64 1)))])
 (.ret))
 (.seq (.region false [o_ 28 (.mv (.t 1)),
 o_ 29 (.lenSl (.t 28)),
 o_ 30 (.bin .gtr (.t 29) (.c (.int .i64 16))),
 o_ 27 (.mv (.t 30))])
 (.cond (.t 27)
 (.seq (.region false [o_ 4 (.mv (.c .nils)),
 o_ 5 (.mv (.c (.int .i64 3)))])
 (.ret))
 (.seq (.region false [o_ 32 (.mv (.t 0)),
 o_ 33 (.mv (.t 1)),
 o_ 34 (.lenSl (.t 33)),
 o_ 35 (.bin .lss (.t 32) (.t 34)),
 o_ 31 (.mv (.t 35))])
 (.cond (.t 31)
 (.seq (.region false [o_ 4 (.mv (.c .nils)),
 o_ 5 (.mv (.c (.int .i64 90)))])
 (.ret))
 (.skip))))))))
 (.seq (.region false [⟨(some 6), none, true, .mv (.c .nils), .none⟩,
 ⟨(some 7), none, true, .mv (.c .nils), .none⟩])
 (.seq (.region false [o_ 36 (.mv (.t 0)),
 o_ 8 (.mv (.t 36))])
 (.seq (.seq (.region false [o_ 37 (.mv (.t 1)),
 o_ 38 (.lenSl (.t 37)),
 o_ 39 (.mv (.c (.int .i64 0)))])
 (.block 1 (.loop [0, 6, 7, 8, 37, 38, 39] (.seq (.region false [o_ 40 (.bin .lss (.t 39) (.t 38))])
 (.seq (.cond (.t 40)
 (.skip)
 (.exit 1))
 (.seq (.block 2 (.seq (.region false [o_ 41 (.mv (.t 39)),
 o_ 42 (.indexSl 2 (.t 37) (.t 39)),
 o_ 43 (.load true 2 (.t 42) .copy),
 o_ 10 (.allocL 0 [(.int .i64 0), (.int .i64 0)]),
 o_ 9 (.mv (.t 41)),
 ⟨none, none, false, .store 2 (.t 10) (.t 43), .none⟩])
 (.seq (.region false [o_ 44 (.mv (.u 6 .take)),
 o_ 45 (.mv (.t 0)),
 o_ 46 (.load true 2 (.t 10) .copy),
 o_ 47 (.callP 59 [(.t 45), (.t 46)]),
 o_ 48 (.buildSlice 1 [(.int .i64 0)] 1 [(0, (.t 47))]),
 o_ 49 (.append 1 (.u 44 .take) (.u 48 .take)),
 ⟨(some 6), none, true, .mv (.u 49 .take), .none⟩])
 (.seq (.region false [o_ 50 (.mv (.t 8)),
 o_ 51 (.mv (.u 6 .peek)),
 o_ 52 (.mv (.t 9)),
 o_ 53 (.indexSl 1 (.t 51) (.t 52)),
 o_ 54 (.load false 1 (.t 53) .copy),
 o_ 55 (.bin .sub (.t 50) (.t 54)),
 o_ 8 (.mv (.t 55))])
 (.seq (.region false [o_ 56 (.fieldAddr 0 (.t 10)),
 o_ 57 (.load false 1 (.t 56) .copy),
 o_ 58 (.bin .eql (.t 57) (.c (.int .i64 0)))])
 (.cond (.t 58)
 (.region false [o_ 59 (.mv (.u 7 .take)),
 o_ 60 (.mv (.t 9)),
 o_ 61 (.buildSlice 1 [(.int .i64 0)] 1 [(0, (.t 60))]),
 o_ 62 (.append 1 (.u 59 .take) (.u 61 .take)),
 ⟨(some 7), none, true, .mv (.u 62 .take), .none⟩])
 (.skip)))))))
 (.region false [o_ 63 (.bin .add (.t 39) (.c (.int .i64 1))),
 o_ 39 (.mv (.t 63))])))))))
 (.seq (.seq (.region false [o_ 64 (.mv (.u 6 .peek)),
 o_ 65 (.lenSl (.t 64)),
 o_ 66 (.bin .sub (.t 65) (.c (.int .i64 1))),
 o_ 11 (.mv (.t 66))])
 (.block 3 (.loop [6, 7, 8, 11] (.seq (.seq (.region false [o_ 67 (.mv (.t 8)),
 o_ 68 (.bin .lss (.t 67) (.c (.int .i64 0)))])
 (.cond (.t 68)
 (.skip)
 (.exit 3)))
 (.seq (.block 4 (.seq (.region false [o_ 71 (.mv (.u 6 .peek)),
 o_ 72 (.mv (.t 11)),
 o_ 73 (.indexSl 1 (.t 71) (.t 72)),
 o_ 74 (.load false 1 (.t 73) .copy),
 o_ 75 (.bin .sub (.t 74) (.c (.int .i64 1))),
 o_ 76 (.mv (.t 8)),
 o_ 77 (.un .neg (.t 76)),
 o_ 78 (.minMax false (.t 75) [(.t 77)]),
 o_ 12 (.mv (.t 78))])
 (.seq (.region false [o_ 79 (.mv (.u 6 .peek)),
 o_ 80 (.mv (.t 11)),
 o_ 81 (.indexSl 1 (.t 79) (.t 80)),
 o_ 82 (.load false 1 (.t 81) .copy),
 o_ 83 (.mv (.t 12)),
 o_ 84 (.bin .sub (.t 82) (.t 83)),
 o_ 85 (.indexSl 1 (.t 79) (.t 80)),
 ⟨none, none, false, .store 1 (.t 85) (.t 84), .none⟩])
 (.region false [o_ 86 (.mv (.t 8)),
 o_ 87 (.mv (.t 12)),
 o_ 88 (.bin .add (.t 86) (.t 87)),
 o_ 8 (.mv (.t 88))]))))
 (.region false [o_ 69 (.mv (.t 11)),
 o_ 70 (.bin .sub (.t 69) (.c (.int .i64 1))),
 o_ 11 (.mv (.t 70))]))))))
 (.seq (.seq (.region false [o_ 89 (.mv (.u 7 .peek)),
 o_ 90 (.lenSl (.t 89)),
 o_ 91 (.bin .eql (.t 90) (.c (.int .i64 0)))])
 (.cond (.t 91)
 (.seq (.region false [o_ 92 (.mv (.u 6 .peek)),
 o_ 93 (.mv (.u 6 .peek)),
 o_ 94 (.lenSl (.t 93)),
 o_ 95 (.bin .sub (.t 94) (.c (.int .i64 1))),
 o_ 96 (.indexSl 1 (.t 92) (.t 95)),
 o_ 97 (.load false 1 (.t 96) .copy),
 o_ 98 (.mv (.t 8)),
 o_ 99 (.bin .add (.t 97) (.t 98)),
 o_ 100 (.indexSl 1 (.t 92) (.t 95)),
 ⟨none, none, false, .store 1 (.t 100) (.t 99), .none⟩])
 (.seq (.region false [o_ 101 (.mv (.u 6 .take)),
 o_ 4 (.mv (.u 101 .share)),
 o_ 5 (.mv (.c (.int .i64 0)))])
 (.ret)))
 (.skip)))
 (.seq (.seq (.region false [o_ 102 (.mv (.u 7 .peek)),
 o_ 103 (.lenSl (.t 102)),
 o_ 104 (.mv (.c (.int .i64 0)))])
 (.block 5 (.loop [6, 7, 8, 102, 103, 104] (.seq (.region false [o_ 105 (.bin .lss (.t 104) (.t 103))])
 (.seq (.cond (.t 105)
 (.skip)
 (.exit 5))
 (.seq (.block 6 (.seq (.region false [o_ 106 (.mv (.t 104)),
 o_ 107 (.indexSl 1 (.t 102) (.t 104)),
 o_ 108 (.load false 1 (.t 107) .copy),
 o_ 13 (.mv (.t 106)),
 o_ 14 (.mv (.t 108))])
 (.seq (.region true [o_ 109 (.tOp 6 .place),
 o_ 110 (.mv (.t 14)),
 o_ 111 (.tOp 6 (.index 1 109 (.t 110))),
 o_ 112 (.tOp 6 (.load false 1 111)),
 o_ 113 (.mv (.t 8)),
 o_ 114 (.tOp 7 .place),
 o_ 115 (.tOp 7 (.len 114)),
 o_ 116 (.bin .quo (.t 113) (.t 115)),
 o_ 117 (.bin .add (.t 112) (.t 116)),
 o_ 118 (.tOp 6 (.index 1 109 (.t 110))),
 ⟨none, none, false, .tOp 6 (.store 1 118 (.t 117)), .none⟩])
 (.seq (.region false [o_ 119 (.mv (.t 13)),
 o_ 120 (.mv (.t 8)),
 o_ 121 (.mv (.u 7 .peek)),
 o_ 122 (.lenSl (.t 121)),
 o_ 123 (.bin .rem (.t 120) (.t 122)),
 o_ 124 (.bin .lss (.t 119) (.t 123))])
 (.cond (.t 124)
 (.region false [o_ 125 (.mv (.u 6 .peek)),
 o_ 126 (.mv (.t 14)),
 o_ 127 (.indexSl 1 (.t 125) (.t 126)),
 o_ 128 (.load false 1 (.t 127) .copy),
 o_ 129 (.bin .add (.t 128) (.c (.int .i64 1))),
 o_ 130 (.indexSl 1 (.t 125) (.t 126)),
 ⟨none, none, false, .store 1 (.t 130) (.t 129), .none⟩])
 (.skip))))))
 (.region false [o_ 131 (.bin .add (.t 104) (.c (.int .i64 1))),
 o_ 104 (.mv (.t 131))])))))))
 (.seq (.region false [o_ 132 (.mv (.u 6 .take)),
 o_ 4 (.mv (.u 132 .share)),
 o_ 5 (.mv (.c (.int .i64 0)))])
 (.ret)))))))))⟩
theorem c27 : zap Go.Proofs.Tryz.prog p27 27 = some a27 := by decide +kernel
def p81 : Plan := ⟨[], 2, [((11, 13), { mark := (.loc 0) }),
 ((11, 11), { mark := (.loc 0) }),
 ((11, 8), { mark := (.loc 1) }),
 ((11, 6), { mark := (.loc 0) }),
 ((11, 3), { mark := (.loc 1) }),
 ((11, 1), { mark := (.loc 0) }),
 ((9, 13), { mark := (.loc 0) }),
 ((9, 11), { mark := (.loc 0) }),
 ((9, 8), { mark := (.loc 1) }),
 ((9, 6), { mark := (.loc 0) }),
 ((9, 3), { mark := (.loc 1) }),
 ((9, 1), { mark := (.loc 0) }),
 ((0, 0), { box := some 0 }),
 ((1, 1), { pure := true }),
 ((6, 1), { box := some 1 }),
 ((8, 3), { pure := true }),
 ((10, 3), { pure := true }),
 ((12, 0), { uses := [(7, .take)] }),
 ((12, 2), { pure := true }),
 ((12, 4), { uses := [(59, .take), (62, .take)] }),
 ((12, 5), { uses := [(63, .take)] }),
 ((14, 0), { uses := [(7, .take)] }),
 ((14, 1), { uses := [(65, .take)] })],
 [[2, 3, 7, 17, 18, 19]]⟩
def a81 : AFunc := ⟨3, 66, 2, [.tmp 6],
 .seq (.region false [o_ 3 (.boxL 0 (.t 0)),
 o_ 6 (.mv (.c .nils))])
 (.seq (.region false [o_ 11 (.load true 4 (.t 3) .copy),
 o_ 12 (.callP 25 [(.t 11)]),
 ⟨none, none, false, .store 4 (.t 3) (.t 12), .none⟩])
 (.seq (.region false [o_ 7 (.mv (.c .nils))])
 (.seq (.seq (.region false [o_ 13 (.mv (.t 1)),
 o_ 14 (.mv (.t 1)),
 o_ 15 (.lenSl (.t 14)),
 o_ 16 (.minMax false (.t 15) [(.c (.int .i64 16))]),
 o_ 17 (.sliceV 1 (.t 13) none (some (.t 16))),
 o_ 18 (.lenSl (.t 17)),
 o_ 19 (.mv (.c (.int .i64 0)))])
 (.block 0 (.loop [2, 3, 7, 17, 18, 19] (.seq (.region false [o_ 20 (.bin .lss (.t 19) (.t 18))])
 (.seq (.cond (.t 20)
 (.skip)
 (.exit 0))
 (.seq (.block 1 (.seq (.region false [o_ 21 (.indexSl 1 (.t 17) (.t 19)),
 o_ 22 (.load false 1 (.t 21) .copy),
 o_ 9 (.mv (.t 22))])
 (.seq (.region false [o_ 23 (.load true 4 (.t 3) .copy),
 o_ 10 (.allocL 1 [(.int .i64 0), (.int .i64 0), (.int .i64 0), (.int .i64 0)]),
 ⟨none, none, false, .store 4 (.t 10) (.t 23), .none⟩])
 (.seq (.seq (.region false [o_ 24 (.mv (.t 2))])
 (.cond (.t 24)
 (.seq (.region false [o_ 25 (.mv (.t 9)),
 o_ 26 (.fieldAddr 3 (.t 3)),
 o_ 27 (.load false 1 (.t 26) .copy),
 o_ 28 (.callP 55 [(.t 25), (.c (.int .i64 0)), (.t 27)]),
 o_ 29 (.fieldAddr 3 (.t 10)),
 ⟨none, none, false, .store 1 (.t 29) (.t 28), .none⟩])
 (.region true [o_ 30 (.fieldAddr 1 (.t 3)),
 ⟨(some 31), none, false, .load false 1 (.t 30) .copy, (.loc 0)⟩,
 o_ 32 (.fieldAddr 3 (.t 10)),
 ⟨(some 33), none, false, .load false 1 (.t 32) .copy, (.loc 1)⟩,
 o_ 34 (.bin .add (.t 31) (.t 33)),
 o_ 35 (.fieldAddr 3 (.t 3)),
 ⟨(some 36), none, false, .load false 1 (.t 35) .copy, (.loc 0)⟩,
 o_ 37 (.fieldAddr 3 (.t 10)),
 ⟨(some 38), none, false, .load false 1 (.t 37) .copy, (.loc 1)⟩,
 o_ 39 (.bin .sub (.t 36) (.t 38)),
 o_ 40 (.fieldAddr 1 (.t 3)),
 ⟨none, none, false, .store 1 (.t 40) (.t 34), (.loc 0)⟩,
 o_ 41 (.fieldAddr 3 (.t 3)),
 ⟨none, none, false, .store 1 (.t 41) (.t 39), (.loc 0)⟩]))
 (.seq (.region false [o_ 42 (.mv (.t 9)),
 o_ 43 (.fieldAddr 2 (.t 3)),
 o_ 44 (.load false 1 (.t 43) .copy),
 o_ 45 (.callP 55 [(.t 42), (.c (.int .i64 0)), (.t 44)]),
 o_ 46 (.fieldAddr 2 (.t 10)),
 ⟨none, none, false, .store 1 (.t 46) (.t 45), .none⟩])
 (.region true [o_ 47 (.fieldAddr 0 (.t 3)),
 ⟨(some 48), none, false, .load false 1 (.t 47) .copy, (.loc 0)⟩,
 o_ 49 (.fieldAddr 2 (.t 10)),
 ⟨(some 50), none, false, .load false 1 (.t 49) .copy, (.loc 1)⟩,
 o_ 51 (.bin .add (.t 48) (.t 50)),
 o_ 52 (.fieldAddr 2 (.t 3)),
 ⟨(some 53), none, false, .load false 1 (.t 52) .copy, (.loc 0)⟩,
 o_ 54 (.fieldAddr 2 (.t 10)),
 ⟨(some 55), none, false, .load false 1 (.t 54) .copy, (.loc 1)⟩,
 o_ 56 (.bin .sub (.t 53) (.t 55)),
 o_ 57 (.fieldAddr 0 (.t 3)),
 ⟨none, none, false, .store 1 (.t 57) (.t 51), (.loc 0)⟩,
 o_ 58 (.fieldAddr 2 (.t 3)),
 ⟨none, none, false, .store 1 (.t 58) (.t 56), (.loc 0)⟩]))))
 (.region false [o_ 59 (.mv (.u 7 .take)),
 o_ 60 (.load true 4 (.t 10) .copy),
 o_ 61 (.callP 25 [(.t 60)]),
 o_ 62 (.buildSlice 4 [(.int .i64 0), (.int .i64 0), (.int .i64 0), (.int .i64 0)] 1 [(0, (.t 61))]),
 o_ 63 (.append 4 (.u 59 .take) (.u 62 .take)),
 o_ 7 (.mv (.u 63 .take))])))))
 (.region false [o_ 64 (.bin .add (.t 19) (.c (.int .i64 1))),
 o_ 19 (.mv (.t 64))])))))))
 (.seq (.region false [o_ 65 (.mv (.u 7 .take)),
 o_ 6 (.mv (.u 65 .take))])
 (.ret)))))⟩
theorem c81 : zap Go.Proofs.Tryz.prog p81 81 = some a81 := by decide +kernel
def p35 : Plan := ⟨[], 3, [((10, 13), { mark := (.loc 1) }),
 ((10, 11), { mark := (.loc 1) }),
 ((10, 8), { mark := (.loc 2) }),
 ((10, 6), { mark := (.loc 1) }),
 ((10, 3), { mark := (.loc 2) }),
 ((10, 1), { mark := (.loc 1) }),
 ((0, 0), { box := some 0 }),
 ((0, 1), { box := some 1 }),
 ((6, 1), { mode := .take }),
 ((6, 2), { uses := [(21, .take)] }),
 ((8, 1), { box := some 2 }),
 ((11, 2), { pure := true }),
 ((13, 2), { pure := true }),
 ((2, 3), { uses := [(10, .share)] })],
 [[0, 5, 23, 24]]⟩
def a35 : AFunc := ⟨3, 54, 3, [],
 .seq (.region false [o_ 4 (.boxL 0 (.t 1)),
 o_ 5 (.boxL 1 (.t 2))])
 (.seq (.region false [o_ 7 (.fieldAddr 0 (.t 4)),
 o_ 8 (.load false 1 (.t 7) .copy)])
 (.block 0 (.seq (.region false [o_ 14 (.bin .eql (.t 8) (.c (.int .i64 1))),
 o_ 13 (.mv (.t 14))])
 (.cond (.t 13)
 (.region false [o_ 15 (.mv (.t 0)),
 o_ 16 (.load true 4 (.t 5) .copy),
 o_ 17 (.callF 36 [(.t 15), (.t 16), (.c (.int .i64 0)), (.c (.bool false))])])
 (.seq (.region false [o_ 19 (.bin .eql (.t 8) (.c (.int .i64 4))),
 o_ 18 (.mv (.t 19))])
 (.cond (.t 18)
 (.seq (.seq (.region false [o_ 20 (.fieldAddr 4 (.t 4)),
 o_ 21 (.load false 1 (.t 20) .take),
 o_ 22 (.sliceV 6 (.u 21 .take) (some (.c (.int .i64 1))) none),
 o_ 23 (.lenSl (.t 22)),
 o_ 24 (.mv (.c (.int .i64 0)))])
 (.block 1 (.loop [0, 5, 23, 24] (.seq (.region false [o_ 25 (.bin .lss (.t 24) (.t 23))])
 (.seq (.cond (.t 25)
 (.skip)
 (.exit 1))
 (.seq (.block 2 (.seq (.region false [o_ 26 (.load true 4 (.t 5) .copy),
 o_ 6 (.allocL 2 [(.int .i64 0), (.int .i64 0), (.int .i64 0), (.int .i64 0)]),
 ⟨none, none, false, .store 4 (.t 6) (.t 26), .none⟩])
 (.seq (.region false [o_ 27 (.fieldAddr 3 (.t 5)),
 o_ 28 (.load false 1 (.t 27) .copy),
 o_ 29 (.bin .sub (.t 28) (.c (.int .i64 1))),
 o_ 30 (.minMax true (.t 29) [(.c (.int .i64 0))]),
 o_ 31 (.minMax false (.c (.int .i64 1)) [(.t 30)]),
 o_ 32 (.fieldAddr 3 (.t 6)),
 ⟨none, none, false, .store 1 (.t 32) (.t 31), .none⟩])
 (.seq (.region true [o_ 33 (.fieldAddr 1 (.t 5)),
 ⟨(some 34), none, false, .load false 1 (.t 33) .copy, (.loc 1)⟩,
 o_ 35 (.fieldAddr 3 (.t 6)),
 ⟨(some 36), none, false, .load false 1 (.t 35) .copy, (.loc 2)⟩,
 o_ 37 (.bin .add (.t 34) (.t 36)),
 o_ 38 (.fieldAddr 3 (.t 5)),
 ⟨(some 39), none, false, .load false 1 (.t 38) .copy, (.loc 1)⟩,
 o_ 40 (.fieldAddr 3 (.t 6)),
 ⟨(some 41), none, false, .load false 1 (.t 40) .copy, (.loc 2)⟩,
 o_ 42 (.bin .sub (.t 39) (.t 41)),
 o_ 43 (.fieldAddr 1 (.t 5)),
 ⟨none, none, false, .store 1 (.t 43) (.t 37), (.loc 1)⟩,
 o_ 44 (.fieldAddr 3 (.t 5)),
 ⟨none, none, false, .store 1 (.t 44) (.t 42), (.loc 1)⟩])
 (.region false [o_ 45 (.mv (.t 0)),
 o_ 46 (.load true 4 (.t 6) .copy),
 o_ 47 (.callP 25 [(.t 46)]),
 o_ 48 (.callF 36 [(.t 45), (.t 47), (.c (.int .i64 0)), (.c (.bool true))])])))))
 (.region false [o_ 49 (.bin .add (.t 24) (.c (.int .i64 1))),
 o_ 24 (.mv (.t 49))])))))))
 (.region false [o_ 50 (.mv (.t 0)),
 o_ 51 (.load true 4 (.t 5) .copy),
 o_ 52 (.callP 25 [(.t 51)]),
 o_ 53 (.callF 36 [(.t 50), (.t 52), (.c (.int .i64 0)), (.c (.bool false))])]))
 (.region false [o_ 9 (.mv (.t 0)),
 o_ 10 (.load true 6 (.t 4) .copy),
 o_ 11 (.load true 4 (.t 5) .copy),
 o_ 12 (.callF 62 [(.t 9), (.u 10 .share), (.t 11)])])))))))⟩
theorem c35 : zap Go.Proofs.Tryz.prog p35 35 = some a35 := by decide +kernel
def p62 : Plan := ⟨[11, 60], 4, [((0, 0), { box := some 0 }),
 ((0, 1), { box := some 1 }),
 ((7, 2), { box := some 2 }),
 ((7, 3), { uses := [(30, .take)] }),
 ((8, 0), { uses := [(8, .take)] }),
 ((8, 4), { uses := [(31, .take), (34, .take)] }),
 ((8, 5), { uses := [(35, .take)] }),
 ((10, 1), { mode := .share }),
 ((10, 2), { uses := [(39, .share)], pure := true }),
 ((10, 6), { uses := [(41, .take)] }),
 ((12, 3), { uses := [(47, .take)] }),
 ((13, 0), { uses := [(11, .peek)] }),
 ((16, 0), { uses := [(11, .peek)] }),
 ((18, 1), { uses := [(11, .take)] }),
 ((18, 3), { uses := [(58, .share)], pure := true }),
 ((18, 4), { uses := [(60, .peek)] }),
 ((20, 1), { uses := [(60, .peek)] }),
 ((20, 3), { box := some 3 }),
 ((21, 7), { uses := [(72, .share)] })],
 [[0, 4, 5, 6, 7, 8, 25, 26, 27], [0, 4, 5, 7, 11, 49, 50], [0, 4, 60, 61, 62]]⟩
def a62 : AFunc := ⟨3, 76, 4, [],
 .seq (.region false [o_ 4 (.boxL 0 (.t 1)),
 o_ 5 (.boxL 1 (.t 2))])
 (.seq (.region true [o_ 16 (.fieldAddr 2 (.t 5)),
 o_ 17 (.load false 1 (.t 16) .copy),
 o_ 18 (.fieldAddr 0 (.t 4)),
 o_ 19 (.load false 1 (.t 18) .copy),
 o_ 20 (.bin .eql (.t 19) (.c (.int .i64 3))),
 o_ 6 (.mv (.t 17)),
 o_ 7 (.mv (.t 20))])
 (.seq (.seq (.region false [o_ 21 (.mv (.t 7))])
 (.cond (.t 21)
 (.region false [o_ 22 (.fieldAddr 3 (.t 5)),
 o_ 23 (.load false 1 (.t 22) .copy),
 o_ 6 (.mv (.t 23))])
 (.skip)))
 (.seq (.region false [o_ 8 (.mv (.c .nils))])
 (.seq (.seq (.region false [o_ 24 (.fieldAddr 4 (.t 4)),
 o_ 25 (.load false 1 (.t 24) .copy),
 o_ 26 (.lenSl (.t 25)),
 o_ 27 (.mv (.c (.int .i64 0)))])
 (.block 0 (.loop [0, 4, 5, 6, 7, 8, 25, 26, 27] (.seq (.region false [o_ 28 (.bin .lss (.t 27) (.t 26))])
 (.seq (.cond (.t 28)
 (.skip)
 (.exit 0))
 (.seq (.block 1 (.seq (.region false [o_ 29 (.indexSl 6 (.t 25) (.t 27)),
 o_ 30 (.load true 6 (.t 29) .copy),
 o_ 10 (.allocL 2 [(.int .i64 0), (.int .i64 0), (.int .i64 0), (.str []), .nils, .nils]),
 ⟨none, none, false, .store 6 (.t 10) (.u 30 .take), .none⟩])
 (.region false [o_ 31 (.mv (.u 8 .take)),
 o_ 32 (.fieldAddr 1 (.t 10)),
 o_ 33 (.load true 2 (.t 32) .copy),
 o_ 34 (.buildSlice 2 [(.int .i64 0), (.int .i64 0)] 1 [(0, (.t 33))]),
 o_ 35 (.append 2 (.u 31 .take) (.u 34 .take)),
 o_ 8 (.mv (.u 35 .take))])))
 (.region false [o_ 36 (.bin .add (.t 27) (.c (.int .i64 1))),
 o_ 27 (.mv (.t 36))])))))))
 (.seq (.region false [o_ 38 (.mv (.t 6)),
 o_ 39 (.mvK 8),
 o_ 40 (.callP 27 [(.t 38), (.u 39 .share)]),
 o_ 37 (.mv (.t 40)),
 o_ 41 (.extract (.t 37) 0),
 o_ 42 (.extract (.t 37) 1),
 ⟨(some 11), none, true, .mv (.u 41 .take), .none⟩,
 o_ 12 (.mv (.t 42))])
 (.seq (.seq (.region false [o_ 43 (.mv (.t 12)),
 o_ 44 (.bin .neq (.t 43) (.c (.int .i64 0)))])
 (.cond (.t 44)
 (.seq (.region false [o_ 45 (.mv (.t 8)),
 o_ 46 (.lenSl (.t 45)),
 o_ 47 (.makeSlice 1 [(.int .i64 0)] (.t 46) (.t 46)),
 ⟨(some 11), none, true, .mv (.u 47 .take), .none⟩])
 (.seq (.region false [o_ 48 (.mv (.u 11 .peek)),
 o_ 49 (.lenSl (.t 48)),
 o_ 50 (.mv (.c (.int .i64 0)))])
 (.block 2 (.loop [0, 4, 5, 7, 11, 49, 50] (.seq (.region false [o_ 51 (.bin .lss (.t 50) (.t 49))])
 (.seq (.cond (.t 51)
 (.skip)
 (.exit 2))
 (.seq (.block 3 (.seq (.region false [o_ 52 (.mv (.t 50)),
 o_ 13 (.mv (.t 52))])
 (.region false [o_ 53 (.mv (.u 11 .peek)),
 o_ 54 (.mv (.t 13)),
 o_ 55 (.indexSl 1 (.t 53) (.t 54)),
 ⟨none, none, false, .store 1 (.t 55) (.c (.int .i64 1)), .none⟩])))
 (.region false [o_ 56 (.bin .add (.t 50) (.c (.int .i64 1))),
 o_ 50 (.mv (.t 56))]))))))))
 (.skip)))
 (.seq (.region false [o_ 57 (.load true 4 (.t 5) .copy),
 o_ 58 (.mv (.u 11 .take)),
 o_ 59 (.mv (.t 7)),
 ⟨(some 60), none, true, .callP 81 [(.t 57), (.u 58 .share), (.t 59)], .none⟩,
 o_ 61 (.lenSl (.u 60 .peek)),
 o_ 62 (.mv (.c (.int .i64 0)))])
 (.block 4 (.loop [0, 4, 60, 61, 62] (.seq (.region false [o_ 63 (.bin .lss (.t 62) (.t 61))])
 (.seq (.cond (.t 63)
 (.skip)
 (.exit 4))
 (.seq (.block 5 (.seq (.region false [o_ 64 (.mv (.t 62)),
 o_ 65 (.indexSl 4 (.u 60 .peek) (.t 62)),
 o_ 66 (.load true 4 (.t 65) .copy),
 o_ 15 (.allocL 3 [(.int .i64 0), (.int .i64 0), (.int .i64 0), (.int .i64 0)]),
 o_ 14 (.mv (.t 64)),
 ⟨none, none, false, .store 4 (.t 15) (.t 66), .none⟩])
 (.region true [o_ 67 (.mv (.t 0)),
 o_ 68 (.fieldAddr 4 (.t 4)),
 o_ 69 (.load false 1 (.t 68) .copy),
 o_ 70 (.mv (.t 14)),
 o_ 71 (.indexSl 6 (.t 69) (.t 70)),
 o_ 72 (.load true 6 (.t 71) .copy),
 o_ 73 (.load true 4 (.t 15) .copy),
 o_ 74 (.callF 35 [(.t 67), (.u 72 .share), (.t 73)])])))
 (.region false [o_ 75 (.bin .add (.t 62) (.c (.int .i64 1))),
 o_ 62 (.mv (.t 75))])))))))))))))⟩
theorem c62 : zap Go.Proofs.Tryz.prog p62 62 = some a62 := by decide +kernel
def p37 : Plan := ⟨[], 3, [((2, 13), { mark := (.loc 0) }),
 ((2, 11), { mark := (.loc 0) }),
 ((2, 9), { mark := .free }),
 ((2, 8), { mark := (.loc 1) }),
 ((2, 6), { mark := (.loc 0) }),
 ((2, 4), { mark := .free }),
 ((2, 3), { mark := (.loc 1) }),
 ((2, 1), { mark := (.loc 0) }),
 ((1, 5), { mark := (.loc 1) }),
 ((1, 4), { mark := (.loc 0) }),
 ((1, 3), { mark := .free, pure := true }),
 ((1, 2), { mark := (.loc 1) }),
 ((1, 1), { mark := .free, pure := true }),
 ((1, 0), { mark := (.loc 0) }),
 ((0, 0), { box := some 0 }),
 ((0, 1), { box := some 1 }),
 ((0, 2), { box := some 2 }),
 ((3, 12), { pure := true }),
 ((4, 12), { pure := true }),
 ((5, 1), { pure := true })],
 []⟩
def a37 : AFunc := ⟨2, 51, 3, [.cell 4 true 4],
 .seq (.region false [o_ 2 (.boxL 0 (.t 0)),
 o_ 3 (.boxL 1 (.t 1)),
 o_ 4 (.allocL 2 [(.int .i64 0), (.int .i64 0), (.int .i64 0), (.int .i64 0)])])
 (.seq (.region true [⟨(some 5), none, false, .load true 4 (.t 2) .copy, (.loc 0)⟩,
 ⟨(some 6), none, false, .callP 25 [(.t 5)], .free⟩,
 ⟨(some 7), none, false, .load true 4 (.t 3) .copy, (.loc 1)⟩,
 ⟨(some 8), none, false, .callP 25 [(.t 7)], .free⟩,
 ⟨none, none, false, .store 4 (.t 2) (.t 6), (.loc 0)⟩,
 ⟨none, none, false, .store 4 (.t 3) (.t 8), (.loc 1)⟩])
 (.seq (.region true [o_ 9 (.fieldAddr 2 (.t 2)),
 ⟨(some 10), none, false, .load false 1 (.t 9) .copy, (.loc 0)⟩,
 o_ 11 (.fieldAddr 2 (.t 3)),
 ⟨(some 12), none, false, .load false 1 (.t 11) .copy, (.loc 1)⟩,
 ⟨(some 13), none, false, .minMax false (.t 10) [(.t 12)], .free⟩,
 o_ 14 (.fieldAddr 3 (.t 2)),
 ⟨(some 15), none, false, .load false 1 (.t 14) .copy, (.loc 0)⟩,
 o_ 16 (.fieldAddr 3 (.t 3)),
 ⟨(some 17), none, false, .load false 1 (.t 16) .copy, (.loc 1)⟩,
 ⟨(some 18), none, false, .minMax false (.t 15) [(.t 17)], .free⟩,
 o_ 19 (.fieldAddr 2 (.t 2)),
 ⟨none, none, false, .store 1 (.t 19) (.t 13), (.loc 0)⟩,
 o_ 20 (.fieldAddr 3 (.t 2)),
 ⟨none, none, false, .store 1 (.t 20) (.t 18), (.loc 0)⟩])
 (.seq (.region false [o_ 21 (.fieldAddr 0 (.t 2)),
 o_ 22 (.load false 1 (.t 21) .copy),
 o_ 23 (.fieldAddr 0 (.t 3)),
 o_ 24 (.load false 1 (.t 23) .copy),
 o_ 25 (.fieldAddr 0 (.t 3)),
 o_ 26 (.load false 1 (.t 25) .copy),
 o_ 27 (.fieldAddr 2 (.t 3)),
 o_ 28 (.load false 1 (.t 27) .copy),
 o_ 29 (.bin .add (.t 26) (.t 28)),
 o_ 30 (.fieldAddr 2 (.t 2)),
 o_ 31 (.load false 1 (.t 30) .copy),
 o_ 32 (.bin .sub (.t 29) (.t 31)),
 o_ 33 (.callP 55 [(.t 22), (.t 24), (.t 32)]),
 o_ 34 (.fieldAddr 0 (.t 2)),
 ⟨none, none, false, .store 1 (.t 34) (.t 33), .none⟩])
 (.seq (.region false [o_ 35 (.fieldAddr 1 (.t 2)),
 o_ 36 (.load false 1 (.t 35) .copy),
 o_ 37 (.fieldAddr 1 (.t 3)),
 o_ 38 (.load false 1 (.t 37) .copy),
 o_ 39 (.fieldAddr 1 (.t 3)),
 o_ 40 (.load false 1 (.t 39) .copy),
 o_ 41 (.fieldAddr 3 (.t 3)),
 o_ 42 (.load false 1 (.t 41) .copy),
 o_ 43 (.bin .add (.t 40) (.t 42)),
 o_ 44 (.fieldAddr 3 (.t 2)),
 o_ 45 (.load false 1 (.t 44) .copy),
 o_ 46 (.bin .sub (.t 43) (.t 45)),
 o_ 47 (.callP 55 [(.t 36), (.t 38), (.t 46)]),
 o_ 48 (.fieldAddr 1 (.t 2)),
 ⟨none, none, false, .store 1 (.t 48) (.t 47), .none⟩])
 (.seq (.region false [o_ 49 (.load true 4 (.t 2) .copy),
 o_ 50 (.callP 25 [(.t 49)]),
 ⟨none, none, false, .store 4 (.t 4) (.t 50), .none⟩])
 (.ret))))))⟩
def v37 : List Nat := [0, 1, 2, 3, 4]
theorem c37 : zap Go.Proofs.Tryz.prog p37 37 = some a37 := by decide +kernel
def p13 : Plan := ⟨[], 3, [((9, 8), { mark := .free, pure := true }),
 ((9, 7), { mark := (.loc 1) }),
 ((9, 6), { mark := .free, pure := true }),
 ((9, 5), { mark := (.loc 1) }),
 ((9, 3), { mark := (.loc 1) }),
 ((9, 1), { mark := (.loc 2) }),
 ((0, 0), { box := some 0 }),
 ((0, 1), { box := some 1 }),
 ((1, 1), { uses := [(8, .share)] }),
 ((3, 1), { pure := true }),
 ((4, 1), { uses := [(13, .take)] }),
 ((5, 3), { uses := [(16, .share)] }),
 ((8, 3), { box := some 2 }),
 ((11, 3), { mode := .take }),
 ((11, 4), { uses := [(43, .take)] })],
 [[3, 5, 20, 21, 22]]⟩
def a13 : AFunc := ⟨2, 44, 3, [.tmp 4],
 .seq (.region false [o_ 2 (.boxL 0 (.t 0)),
 o_ 3 (.boxL 1 (.t 1)),
 o_ 4 (.mv (.c .nils))])
 (.seq (.seq (.region false [o_ 8 (.load true 6 (.t 2) .copy),
 o_ 9 (.callF 15 [(.u 8 .share)]),
 o_ 10 (.bin .neq (.t 9) (.c (.int .i64 0)))])
 (.cond (.t 10)
 (.seq (.region false [o_ 4 (.mv (.c .nils))])
 (.ret))
 (.skip)))
 (.seq (.region false [o_ 11 (.load true 4 (.t 3) .copy),
 o_ 12 (.callP 25 [(.t 11)]),
 ⟨none, none, false, .store 4 (.t 3) (.t 12), .none⟩])
 (.seq (.region false [o_ 13 (.build [.nils] []),
 o_ 14 (.boxM (.u 13 .take)),
 o_ 5 (.mv (.t 14))])
 (.seq (.region false [o_ 15 (.mv (.t 5)),
 o_ 16 (.load true 6 (.t 2) .copy),
 o_ 17 (.load true 4 (.t 3) .copy),
 o_ 18 (.callF 35 [(.t 15), (.u 16 .share), (.t 17)])])
 (.seq (.seq (.region false [o_ 19 (.fieldAddr 5 (.t 2)),
 o_ 20 (.load false 1 (.t 19) .copy),
 o_ 21 (.lenSl (.t 20)),
 o_ 22 (.mv (.c (.int .i64 0)))])
 (.block 0 (.loop [3, 5, 20, 21, 22] (.seq (.region false [o_ 23 (.bin .lss (.t 22) (.t 21))])
 (.seq (.cond (.t 23)
 (.skip)
 (.exit 0))
 (.seq (.block 1 (.seq (.region false [o_ 24 (.mv (.t 22)),
 o_ 25 (.indexSl 4 (.t 20) (.t 22)),
 o_ 26 (.load true 4 (.t 25) .copy),
 o_ 7 (.allocL 2 [(.int .i64 0), (.int .i64 0), (.int .i64 0), (.int .i64 0)]),
 o_ 6 (.mv (.t 24)),
 ⟨none, none, false, .store 4 (.t 7) (.t 26), .none⟩])
 (.region true [o_ 27 (.mv (.t 5)),
 ⟨(some 28), none, false, .load true 4 (.t 7) .copy, (.loc 2)⟩,
 o_ 29 (.fieldAddr 0 (.t 3)),
 ⟨(some 30), none, false, .load false 1 (.t 29) .copy, (.loc 1)⟩,
 o_ 31 (.fieldAddr 1 (.t 3)),
 ⟨(some 32), none, false, .load false 1 (.t 31) .copy, (.loc 1)⟩,
 ⟨(some 33), none, false, .callP 28 [(.t 28), (.t 30), (.t 32)], .free⟩,
 ⟨(some 34), none, false, .load true 4 (.t 3) .copy, (.loc 1)⟩,
 ⟨(some 35), none, false, .callP 37 [(.t 33), (.t 34)], .free⟩,
 o_ 36 (.mv (.t 6)),
 o_ 37 (.bin .add (.t 36) (.c (.int .i64 1))),
 o_ 38 (.callF 36 [(.t 27), (.t 35), (.t 37), (.c (.bool false))])])))
 (.region false [o_ 39 (.bin .add (.t 22) (.c (.int .i64 1))),
 o_ 22 (.mv (.t 39))])))))))
 (.seq (.region false [o_ 40 (.mv (.t 5)),
 o_ 41 (.nilCheck (.t 40)),
 o_ 42 (.fieldAddr 0 (.t 41)),
 o_ 43 (.load false 1 (.t 42) .take),
 o_ 4 (.mv (.u 43 .take))])
 (.ret)))))))⟩
theorem c13 : zap Go.Proofs.Tryz.prog p13 13 = some a13 := by decide +kernel
def p26 : Plan := ⟨[], 1, [((0, 0), { box := some 0 })],
 []⟩
def a26 : AFunc := ⟨4, 14, 1, [.cell 8 true 4],
 .seq (.region false [o_ 8 (.allocL 0 [(.int .i64 0), (.int .i64 0), (.int .i64 0), (.int .i64 0)])])
 (.seq (.region false [o_ 9 (.mv (.t 0)),
 o_ 10 (.mv (.t 1)),
 o_ 11 (.mv (.t 2)),
 o_ 12 (.mv (.t 3)),
 o_ 13 (.build [(.int .i64 0), (.int .i64 0), (.int .i64 0), (.int .i64 0)] [(0, 1, (.t 9)), (1, 1, (.t 10)), (2, 1, (.t 11)), (3, 1, (.t 12))]),
 ⟨none, none, false, .store 4 (.t 8) (.t 13), .none⟩])
 (.ret))⟩
theorem c26 : zap Go.Proofs.Tryz.prog p26 26 = some a26 := by decide +kernel
def p7 : Plan := ⟨[], 4, [((0, 0), { box := some 0 }),
 ((1, 0), { pure := true }),
 ((4, 1), { box := some 1 }),
 ((4, 2), { uses := [(17, .take)] }),
 ((8, 1), { mode := .take }),
 ((8, 3), { uses := [(25, .share)] }),
 ((8, 4), { uses := [(24, .take), (26, .take)] }),
 ((8, 6), { uses := [(27, .take)] }),
 ((9, 0), { mode := .take }),
 ((9, 2), { uses := [(29, .share)] }),
 ((9, 3), { uses := [(31, .share)] }),
 ((10, 1), { pure := true }),
 ((16, 3), { box := some 2 }),
 ((17, 1), { box := some 3 }),
 ((19, 12), { pure := true }),
 ((21, 8), { pure := true })],
 [[0, 3, 5, 6], [0, 3, 8, 45, 46, 47]]⟩
def a7 : AFunc := ⟨2, 114, 4, [.tmp 4],
 .seq (.region false [o_ 3 (.boxL 0 (.t 1)),
 o_ 4 (.mv (.c (.bool false)))])
 (.seq (.seq (.region false [o_ 12 (.callP 11 []),
 o_ 13 (.un .not (.t 12))])
 (.cond (.t 13)
 (.seq (.region false [o_ 4 (.mv (.c (.bool false)))])
 (.ret))
 (.skip)))
 (.seq (.region false [o_ 14 (.mv (.t 0)),
 o_ 15 (.bin .and (.t 14) (.c (.int .i64 15))),
 o_ 16 (.bin .add (.c (.int .i64 1)) (.t 15)),
 o_ 0 (.mv (.t 16))])
 (.seq (.region false [o_ 17 (.build [(.int .i64 0), (.int .i64 0), (.int .i64 0), (.str []), .nils, .nils] [(0, 1, (.c (.int .i64 4)))]),
 o_ 5 (.allocL 1 [(.int .i64 0), (.int .i64 0), (.int .i64 0), (.str []), .nils, .nils]),
 ⟨none, none, false, .store 6 (.t 5) (.u 17 .take), .none⟩])
 (.seq (.seq (.region false [o_ 6 (.mv (.c (.int .i64 0)))])
 (.block 0 (.loop [0, 3, 5, 6] (.seq (.seq (.region false [o_ 18 (.mv (.t 6)),
 o_ 19 (.mv (.t 0)),
 o_ 20 (.bin .lss (.t 18) (.t 19))])
 (.cond (.t 20)
 (.skip)
 (.exit 0)))
 (.seq (.block 1 (.region false [o_ 23 (.fieldAddr 4 (.t 5)),
 o_ 24 (.load false 1 (.t 23) .take),
 o_ 25 (.build [(.int .i64 0), (.int .i64 0), (.int .i64 0), (.str []), .nils, .nils] [(0, 1, (.c (.int .i64 1)))]),
 o_ 26 (.buildSlice 6 [(.int .i64 0), (.int .i64 0), (.int .i64 0), (.str []), .nils, .nils] 1 [(0, (.u 25 .share))]),
 o_ 27 (.append 6 (.u 24 .take) (.u 26 .take)),
 o_ 28 (.fieldAddr 4 (.t 5)),
 ⟨none, none, false, .store 1 (.t 28) (.u 27 .take), .none⟩]))
 (.region false [o_ 21 (.mv (.t 6)),
 o_ 22 (.bin .add (.t 21) (.c (.int .i64 1))),
 o_ 6 (.mv (.t 22))]))))))
 (.seq (.region false [o_ 29 (.load true 6 (.t 5) .take),
 o_ 30 (.load true 4 (.t 3) .copy),
 o_ 31 (.callF 13 [(.u 29 .share), (.t 30)]),
 o_ 7 (.mv (.u 31 .share))])
 (.seq (.region false [o_ 32 (.load true 4 (.t 3) .copy),
 o_ 33 (.callP 25 [(.t 32)]),
 ⟨none, none, false, .store 4 (.t 3) (.t 33), .none⟩])
 (.seq (.seq (.region false [o_ 34 (.mv (.t 7)),
 o_ 35 (.lenSl (.t 34)),
 o_ 36 (.mv (.t 0)),
 o_ 37 (.bin .neq (.t 35) (.t 36))])
 (.cond (.t 37)
 (.seq (.region false [o_ 4 (.mv (.c (.bool false)))])
 (.ret))
 (.skip)))
 (.seq (.region false [o_ 38 (.mv (.t 0)),
 o_ 39 (.bin .sub (.t 38) (.c (.int .i64 1))),
 o_ 40 (.fieldAddr 3 (.t 3)),
 o_ 41 (.load false 1 (.t 40) .copy),
 o_ 42 (.bin .sub (.t 41) (.c (.int .i64 1))),
 o_ 43 (.minMax true (.t 42) [(.c (.int .i64 0))]),
 o_ 44 (.minMax false (.t 39) [(.t 43)]),
 o_ 8 (.mv (.t 44))])
 (.seq (.seq (.region false [o_ 45 (.mv (.t 7)),
 o_ 46 (.lenSl (.t 45)),
 o_ 47 (.mv (.c (.int .i64 0)))])
 (.block 2 (.loop [0, 3, 8, 45, 46, 47] (.seq (.region false [o_ 48 (.bin .lss (.t 47) (.t 46))])
 (.seq (.cond (.t 48)
 (.skip)
 (.exit 2))
 (.seq (.block 3 (.seq (.region false [o_ 49 (.mv (.t 47)),
 o_ 50 (.indexSl 7 (.t 45) (.t 47)),
 o_ 51 (.load true 7 (.t 50) .copy),
 o_ 10 (.allocL 2 [(.int .i64 0), (.int .i64 0), (.int .i64 0), (.int .i64 0), (.int .i64 0), (.int .i64 0), (.bool false)]),
 o_ 9 (.mv (.t 49)),
 ⟨none, none, false, .store 7 (.t 10) (.t 51), .none⟩])
 (.seq (.region false [o_ 52 (.build [(.int .i64 0), (.int .i64 0), (.int .i64 0), (.int .i64 0)] []),
 o_ 11 (.allocL 3 [(.int .i64 0), (.int .i64 0), (.int .i64 0), (.int .i64 0)]),
 ⟨none, none, false, .store 4 (.t 11) (.t 52), .none⟩])
 (.seq (.block 4 (.seq (.region false [o_ 54 (.mv (.t 9)),
 o_ 55 (.mv (.t 0)),
 o_ 56 (.bin .sub (.t 55) (.c (.int .i64 1))),
 o_ 57 (.bin .eql (.t 54) (.t 56)),
 o_ 58 (.mv (.t 57)),
 ⟨(some 59), (some (58, true)), false, .fieldAddr 3 (.t 3), .none⟩,
 ⟨(some 60), (some (58, true)), false, .load false 1 (.t 59) .copy, .none⟩,
 ⟨(some 61), (some (58, true)), false, .bin .gtr (.t 60) (.c (.int .i64 0)), .none⟩,
 o_ 62 (.pick (.t 58) (.t 61) (.c (.bool false))),
 o_ 53 (.mv (.t 62))])
 (.cond (.t 53)
 (.region false [o_ 63 (.fieldAddr 0 (.t 3)),
 o_ 64 (.load false 1 (.t 63) .copy),
 o_ 65 (.fieldAddr 1 (.t 3)),
 o_ 66 (.load false 1 (.t 65) .copy),
 o_ 67 (.mv (.t 8)),
 o_ 68 (.bin .add (.t 66) (.t 67)),
 o_ 69 (.fieldAddr 2 (.t 3)),
 o_ 70 (.load false 1 (.t 69) .copy),
 o_ 71 (.fieldAddr 3 (.t 3)),
 o_ 72 (.load false 1 (.t 71) .copy),
 o_ 73 (.mv (.t 8)),
 o_ 74 (.bin .sub (.t 72) (.t 73)),
 o_ 75 (.callP 26 [(.t 64), (.t 68), (.t 70), (.t 74)]),
 ⟨none, none, false, .store 4 (.t 11) (.t 75), .none⟩])
 (.seq (.region false [o_ 77 (.mv (.t 9)),
 o_ 78 (.mv (.t 8)),
 o_ 79 (.bin .lss (.t 77) (.t 78)),
 o_ 76 (.mv (.t 79))])
 (.cond (.t 76)
 (.region false [o_ 80 (.fieldAddr 0 (.t 3)),
 o_ 81 (.load false 1 (.t 80) .copy),
 o_ 82 (.fieldAddr 1 (.t 3)),
 o_ 83 (.load false 1 (.t 82) .copy),
 o_ 84 (.mv (.t 9)),
 o_ 85 (.bin .add (.t 83) (.t 84)),
 o_ 86 (.fieldAddr 2 (.t 3)),
 o_ 87 (.load false 1 (.t 86) .copy),
 o_ 88 (.callP 26 [(.t 81), (.t 85), (.t 87), (.c (.int .i64 1))]),
 ⟨none, none, false, .store 4 (.t 11) (.t 88), .none⟩])
 (.skip))))))
 (.seq (.region false [o_ 89 (.fieldAddr 1 (.t 10)),
 o_ 90 (.load true 4 (.t 89) .copy),
 o_ 91 (.load true 4 (.t 11) .copy),
 o_ 92 (.eq true (.plain [.int, .int, .int, .int]) (.t 90) (.t 91)),
 o_ 93 (.mv (.t 92)),
 ⟨(some 94), (some (93, false)), false, .fieldAddr 6 (.t 10), .none⟩,
 ⟨(some 95), (some (93, false)), false, .load false 1 (.t 94) .copy, .none⟩,
 ⟨(some 96), (some (93, false)), false, .mv (.t 9), .none⟩,
 ⟨(some 97), (some (93, false)), false, .mv (.t 0), .none⟩,
 ⟨(some 98), (some (93, false)), false, .bin .sub (.t 97) (.c (.int .i64 1)), .none⟩,
 ⟨(some 99), (some (93, false)), false, .bin .lss (.t 96) (.t 98), .none⟩,
 ⟨(some 100), (some (93, false)), false, .eq true .bool (.t 95) (.t 99), .none⟩,
 o_ 101 (.pick (.t 93) (.c (.bool true)) (.t 100)),
 o_ 102 (.mv (.t 101)),
 ⟨(some 103), (some (102, false)), false, .fieldAddr 0 (.t 10), .none⟩,
 ⟨(some 104), (some (102, false)), false, .load false 1 (.t 103) .copy, .none⟩,
 ⟨(some 105), (some (102, false)), false, .mv (.t 9), .none⟩,
 ⟨(some 106), (some (102, false)), false, .bin .neq (.t 104) (.t 105), .none⟩,
 o_ 107 (.pick (.t 102) (.c (.bool true)) (.t 106)),
 o_ 108 (.mv (.t 107)),
 ⟨(some 109), (some (108, false)), false, .fieldAddr 5 (.t 10), .none⟩,
 ⟨(some 110), (some (108, false)), false, .load false 1 (.t 109) .copy, .none⟩,
 ⟨(some 111), (some (108, false)), false, .bin .neq (.t 110) (.c (.int .i64 0)), .none⟩,
 o_ 112 (.pick (.t 108) (.c (.bool true)) (.t 111))])
 (.cond (.t 112)
 (.seq (.region false [o_ 4 (.mv (.c (.bool false)))])
 (.ret))
 (.skip)))))))
 (.region false [o_ 113 (.bin .add (.t 47) (.c (.int .i64 1))),
 o_ 47 (.mv (.t 113))])))))))
 (.seq (.region false [o_ 4 (.mv (.c (.bool true)))])
 (.ret)))))))))))⟩
def b7 : List Nat := [0, 1, 2, 3]
theorem c7 : zap Go.Proofs.Tryz.prog p7 7 = some a7 := by decide +kernel
def p8 : Plan := ⟨[42], 4, [((25, 14), { mark := (.loc 3) }),
 ((25, 12), { mark := .cool, pure := true }),
 ((25, 11), { mark := (.loc 0) }),
 ((25, 10), { mark := (.fa 0) }),
 ((25, 9), { mark := .free }),
 ((25, 8), { mark := .cool }),
 ((25, 7), { mark := .cool }),
 ((25, 6), { mark := .cool }),
 ((25, 5), { mark := (.loc 0) }),
 ((25, 4), { mark := (.fa 0) }),
 ((25, 3), { mark := .cool }),
 ((25, 2), { mark := .cool }),
 ((25, 1), { mark := (.loc 0) }),
 ((25, 0), { mark := (.fa 0) }),
 ((0, 0), { box := some 0 }),
 ((1, 0), { pure := true }),
 ((3, 2), { uses := [(20, .take)] }),
 ((8, 2), { box := some 1 }),
 ((9, 1), { mode := .take }),
 ((9, 4), { uses := [(32, .share)] }),
 ((9, 5), { uses := [(30, .take), (33, .take)] }),
 ((9, 7), { uses := [(34, .take)] }),
 ((11, 0), { mode := .share }),
 ((11, 1), { uses := [(37, .share)] }),
 ((12, 2), { uses := [(40, .share)] }),
 ((12, 3), { uses := [(42, .peek)] }),
 ((13, 2), { uses := [(45, .share)] }),
 ((13, 3), { uses := [(47, .share)] }),
 ((14, 1), { pure := true }),
 ((18, 2), { uses := [(57, .share)], pure := true }),
 ((18, 6), { uses := [(59, .share)] }),
 ((24, 3), { box := some 2 }),
 ((25, 13), { box := some 3 }),
 ((27, 12), { pure := true })],
 [[0, 1, 5, 7, 23, 24, 25], [1, 5, 11, 12, 14, 81, 82, 83]]⟩
def a8 : AFunc := ⟨3, 129, 4, [.tmp 6],
 .seq (.region false [o_ 5 (.boxL 0 (.t 2)),
 o_ 6 (.mv (.c (.bool false)))])
 (.seq (.seq (.region false [o_ 18 (.callP 11 []),
 o_ 19 (.un .not (.t 18))])
 (.cond (.t 19)
 (.seq (.region false [o_ 6 (.mv (.c (.bool false)))])
 (.ret))
 (.skip)))
 (.seq (.region false [o_ 20 (.build [(.int .i64 0), (.int .i64 0), (.int .i64 0), (.str []), .nils, .nils] [(0, 1, (.c (.int .i64 2)))]),
 o_ 7 (.allocM [(.int .i64 0), (.int .i64 0), (.int .i64 0), (.str []), .nils, .nils]),
 ⟨none, none, false, .store 6 (.t 7) (.u 20 .take), .none⟩])
 (.seq (.seq (.region false [o_ 21 (.mv (.t 1))])
 (.cond (.t 21)
 (.region false [o_ 22 (.fieldAddr 0 (.t 7)),
 ⟨none, none, false, .store 1 (.t 22) (.c (.int .i64 3)), .none⟩])
 (.skip)))
 (.seq (.seq (.region false [o_ 23 (.mv (.t 0)),
 o_ 24 (.lenSl (.t 23)),
 o_ 25 (.mv (.c (.int .i64 0)))])
 (.block 0 (.loop [0, 1, 5, 7, 23, 24, 25] (.seq (.region false [o_ 26 (.bin .lss (.t 25) (.t 24))])
 (.seq (.cond (.t 26)
 (.skip)
 (.exit 0))
 (.seq (.block 1 (.seq (.region false [o_ 27 (.indexSl 2 (.t 23) (.t 25)),
 o_ 28 (.load true 2 (.t 27) .copy),
 o_ 9 (.allocL 1 [(.int .i64 0), (.int .i64 0)]),
 ⟨none, none, false, .store 2 (.t 9) (.t 28), .none⟩])
 (.region false [o_ 29 (.fieldAddr 4 (.t 7)),
 o_ 30 (.load false 1 (.t 29) .take),
 o_ 31 (.load true 2 (.t 9) .copy),
 o_ 32 (.build [(.int .i64 0), (.int .i64 0), (.int .i64 0), (.str []), .nils, .nils] [(0, 1, (.c (.int .i64 1))), (1, 2, (.t 31))]),
 o_ 33 (.buildSlice 6 [(.int .i64 0), (.int .i64 0), (.int .i64 0), (.str []), .nils, .nils] 1 [(0, (.u 32 .share))]),
 o_ 34 (.append 6 (.u 30 .take) (.u 33 .take)),
 o_ 35 (.fieldAddr 4 (.t 7)),
 ⟨none, none, false, .store 1 (.t 35) (.u 34 .take), .none⟩])))
 (.region false [o_ 36 (.bin .add (.t 25) (.c (.int .i64 1))),
 o_ 25 (.mv (.t 36))])))))))
 (.seq (.seq (.region false [o_ 37 (.load true 6 (.t 7) .share),
 o_ 38 (.callF 15 [(.u 37 .share)]),
 o_ 39 (.bin .neq (.t 38) (.c (.int .i64 0)))])
 (.cond (.t 39)
 (.seq (.region false [o_ 40 (.load true 6 (.t 7) .copy),
 o_ 41 (.load true 4 (.t 5) .copy),
 ⟨(some 42), none, true, .callF 13 [(.u 40 .share), (.t 41)], .none⟩,
 o_ 43 (.lenSl (.u 42 .peek)),
 o_ 44 (.bin .eql (.t 43) (.c (.int .i64 0))),
 o_ 6 (.mv (.t 44))])
 (.ret))
 (.skip)))
 (.seq (.region false [o_ 45 (.load true 6 (.t 7) .copy),
 o_ 46 (.load true 4 (.t 5) .copy),
 o_ 47 (.callF 13 [(.u 45 .share), (.t 46)]),
 o_ 10 (.mv (.u 47 .share))])
 (.seq (.region false [o_ 48 (.load true 4 (.t 5) .copy),
 o_ 49 (.callP 25 [(.t 48)]),
 ⟨none, none, false, .store 4 (.t 5) (.t 49), .none⟩])
 (.seq (.region false [o_ 50 (.fieldAddr 2 (.t 5)),
 o_ 51 (.load false 1 (.t 50) .copy),
 o_ 11 (.mv (.t 51))])
 (.seq (.seq (.region false [o_ 52 (.mv (.t 1))])
 (.cond (.t 52)
 (.region false [o_ 53 (.fieldAddr 3 (.t 5)),
 o_ 54 (.load false 1 (.t 53) .copy),
 o_ 11 (.mv (.t 54))])
 (.skip)))
 (.seq (.region false [o_ 56 (.mv (.t 11)),
 o_ 57 (.mv (.t 0)),
 o_ 58 (.callP 27 [(.t 56), (.u 57 .share)]),
 o_ 55 (.mv (.t 58)),
 o_ 59 (.extract (.t 55) 0),
 o_ 60 (.extract (.t 55) 1),
 o_ 12 (.mv (.u 59 .share)),
 o_ 13 (.mv (.t 60))])
 (.seq (.seq (.region false [o_ 61 (.mv (.t 10)),
 o_ 62 (.lenSl (.t 61)),
 o_ 63 (.mv (.t 0)),
 o_ 64 (.lenSl (.t 63)),
 o_ 65 (.bin .neq (.t 62) (.t 64)),
 o_ 66 (.mv (.t 65)),
 ⟨(some 67), (some (66, false)), false, .mv (.t 13), .none⟩,
 ⟨(some 68), (some (66, false)), false, .bin .neq (.t 67) (.c (.int .i64 0)), .none⟩,
 o_ 69 (.pick (.t 66) (.c (.bool true)) (.t 68))])
 (.cond (.t 69)
 (.seq (.region false [o_ 70 (.mv (.t 10)),
 o_ 71 (.lenSl (.t 70)),
 o_ 72 (.mv (.t 0)),
 o_ 73 (.lenSl (.t 72)),
 o_ 74 (.bin .eql (.t 71) (.t 73)),
 o_ 75 (.mv (.t 74)),
 ⟨(some 76), (some (75, true)), false, .mv (.t 11), .none⟩,
 ⟨(some 77), (some (75, true)), false, .mv (.t 0), .none⟩,
 ⟨(some 78), (some (75, true)), false, .lenSl (.t 77), .none⟩,
 ⟨(some 79), (some (75, true)), false, .bin .lss (.t 76) (.t 78), .none⟩,
 o_ 80 (.pick (.t 75) (.t 79) (.c (.bool false))),
 o_ 6 (.mv (.t 80))])
 (.ret))
 (.skip)))
 (.seq (.region false [o_ 14 (.mv (.c (.int .i64 0)))])
 (.seq (.seq (.region false [o_ 81 (.mv (.t 10)),
 o_ 82 (.lenSl (.t 81)),
 o_ 83 (.mv (.c (.int .i64 0)))])
 (.block 2 (.loop [1, 5, 11, 12, 14, 81, 82, 83] (.seq (.region false [o_ 84 (.bin .lss (.t 83) (.t 82))])
 (.seq (.cond (.t 84)
 (.skip)
 (.exit 2))
 (.seq (.block 3 (.seq (.region false [o_ 85 (.mv (.t 83)),
 o_ 86 (.indexSl 7 (.t 81) (.t 83)),
 o_ 87 (.load true 7 (.t 86) .copy),
 o_ 16 (.allocL 2 [(.int .i64 0), (.int .i64 0), (.int .i64 0), (.int .i64 0), (.int .i64 0), (.int .i64 0), (.bool false)]),
 o_ 15 (.mv (.t 85)),
 ⟨none, none, false, .store 7 (.t 16) (.t 87), .none⟩])
 (.seq (.region true [⟨(some 88), none, false, .fieldAddr 0 (.t 5), (.fa 0)⟩,
 ⟨(some 89), none, false, .load false 1 (.t 88) .copy, (.loc 0)⟩,
 ⟨(some 90), none, false, .mv (.t 14), .cool⟩,
 ⟨(some 91), none, false, .bin .add (.t 89) (.t 90), .cool⟩,
 ⟨(some 92), none, false, .fieldAddr 1 (.t 5), (.fa 0)⟩,
 ⟨(some 93), none, false, .load false 1 (.t 92) .copy, (.loc 0)⟩,
 ⟨(some 94), none, false, .mv (.t 12), .cool⟩,
 ⟨(some 95), none, false, .mv (.t 15), .cool⟩,
 ⟨(some 96), none, false, .indexSl 1 (.t 94) (.t 95), .cool⟩,
 ⟨(some 97), none, false, .load false 1 (.t 96) .copy, .free⟩,
 ⟨(some 98), none, false, .fieldAddr 3 (.t 5), (.fa 0)⟩,
 ⟨(some 99), none, false, .load false 1 (.t 98) .copy, (.loc 0)⟩,
 ⟨(some 100), none, false, .callP 26 [(.t 91), (.t 93), (.t 97), (.t 99)], .cool⟩,
 o_ 17 (.allocL 3 [(.int .i64 0), (.int .i64 0), (.int .i64 0), (.int .i64 0)]),
 ⟨none, none, false, .store 4 (.t 17) (.t 100), (.loc 3)⟩])
 (.seq (.seq (.region false [o_ 101 (.mv (.t 1))])
 (.cond (.t 101)
 (.region true [o_ 102 (.fieldAddr 0 (.t 5)),
 o_ 103 (.load false 1 (.t 102) .copy),
 o_ 104 (.fieldAddr 1 (.t 5)),
 o_ 105 (.load false 1 (.t 104) .copy),
 o_ 106 (.mv (.t 14)),
 o_ 107 (.bin .add (.t 105) (.t 106)),
 o_ 108 (.fieldAddr 2 (.t 5)),
 o_ 109 (.load false 1 (.t 108) .copy),
 o_ 110 (.mv (.t 12)),
 o_ 111 (.mv (.t 15)),
 o_ 112 (.indexSl 1 (.t 110) (.t 111)),
 o_ 113 (.load false 1 (.t 112) .copy),
 o_ 114 (.callP 26 [(.t 103), (.t 107), (.t 109), (.t 113)]),
 ⟨none, none, false, .store 4 (.t 17) (.t 114), .none⟩])
 (.skip)))
 (.seq (.seq (.region false [o_ 115 (.fieldAddr 1 (.t 16)),
 o_ 116 (.load true 4 (.t 115) .copy),
 o_ 117 (.load true 4 (.t 17) .copy),
 o_ 118 (.eq true (.plain [.int, .int, .int, .int]) (.t 116) (.t 117))])
 (.cond (.t 118)
 (.seq (.region false [o_ 6 (.mv (.c (.bool false)))])
 (.ret))
 (.skip)))
 (.region false [o_ 119 (.mv (.t 14)),
 o_ 120 (.mv (.t 12)),
 o_ 121 (.mv (.t 15)),
 o_ 122 (.indexSl 1 (.t 120) (.t 121)),
 o_ 123 (.load false 1 (.t 122) .copy),
 o_ 124 (.bin .add (.t 119) (.t 123)),
 o_ 14 (.mv (.t 124))]))))))
 (.region false [o_ 125 (.bin .add (.t 83) (.c (.int .i64 1))),
 o_ 83 (.mv (.t 125))])))))))
 (.seq (.region false [o_ 126 (.mv (.t 14)),
 o_ 127 (.mv (.t 11)),
 o_ 128 (.bin .eql (.t 126) (.t 127)),
 o_ 6 (.mv (.t 128))])
 (.ret)))))))))))))))⟩
def b8 : List Nat := [0, 1, 2, 3]
theorem c8 : zap Go.Proofs.Tryz.prog p8 8 = some a8 := by decide +kernel
def p9 : Plan := ⟨[], 2, [((12, 48), { mark := .free }),
 ((12, 46), { mark := .free }),
 ((12, 43), { mark := .free }),
 ((12, 41), { mark := .free }),
 ((12, 34), { mark := .free }),
 ((12, 32), { mark := .free }),
 ((12, 29), { mark := .free, pure := true }),
 ((12, 26), { mark := .free }),
 ((12, 24), { mark := .free }),
 ((12, 19), { mark := .free, pure := true }),
 ((12, 18), { mark := .free }),
 ((12, 16), { mark := .free }),
 ((12, 11), { mark := .free, pure := true }),
 ((12, 10), { mark := .free }),
 ((12, 8), { mark := .free }),
 ((12, 5), { mark := .free, pure := true }),
 ((12, 4), { mark := .free }),
 ((12, 2), { mark := .free }),
 ((6, 7), { mark := .free, pure := true }),
 ((6, 4), { mark := (.loc 1) }),
 ((6, 3), { mark := (.loc 0) }),
 ((6, 1), { mark := (.loc 1) }),
 ((6, 0), { mark := (.loc 0) }),
 ((0, 0), { box := some 0 }),
 ((0, 1), { box := some 1 }),
 ((1, 0), { pure := true }),
 ((3, 1), { pure := true }),
 ((6, 2), { uses := [(61, .share)] }),
 ((6, 8), { uses := [(64, .share)] }),
 ((6, 9), { uses := [(63, .share)] }),
 ((6, 10), { uses := [(69, .share)] })],
 [[2, 3, 9, 10, 76, 77]]⟩
def a9 : AFunc := ⟨4, 132, 2, [.tmp 8],
 .seq (.region false [o_ 4 (.boxL 0 (.t 0)),
 o_ 5 (.boxL 1 (.t 1)),
 o_ 8 (.mv (.c (.bool false)))])
 (.seq (.seq (.region false [o_ 12 (.callP 11 []),
 o_ 13 (.un .not (.t 12))])
 (.cond (.t 13)
 (.seq (.region false [o_ 8 (.mv (.c (.bool false)))])
 (.ret))
 (.skip)))
 (.seq (.region false [o_ 14 (.load true 4 (.t 5) .copy),
 o_ 15 (.callP 25 [(.t 14)]),
 ⟨none, none, false, .store 4 (.t 5) (.t 15), .none⟩])
 (.seq (.seq (.region false [o_ 16 (.fieldAddr 0 (.t 5)),
 o_ 17 (.load false 1 (.t 16) .copy),
 o_ 18 (.bin .lss (.t 17) (.c (.int .i64 (-1000)))),
 o_ 19 (.mv (.t 18)),
 ⟨(some 20), (some (19, false)), false, .fieldAddr 0 (.t 5), .none⟩,
 ⟨(some 21), (some (19, false)), false, .load false 1 (.t 20) .copy, .none⟩,
 ⟨(some 22), (some (19, false)), false, .bin .gtr (.t 21) (.c (.int .i64 1000)), .none⟩,
 o_ 23 (.pick (.t 19) (.c (.bool true)) (.t 22)),
 o_ 24 (.mv (.t 23)),
 ⟨(some 25), (some (24, false)), false, .fieldAddr 1 (.t 5), .none⟩,
 ⟨(some 26), (some (24, false)), false, .load false 1 (.t 25) .copy, .none⟩,
 ⟨(some 27), (some (24, false)), false, .bin .lss (.t 26) (.c (.int .i64 (-1000))), .none⟩,
 o_ 28 (.pick (.t 24) (.c (.bool true)) (.t 27)),
 o_ 29 (.mv (.t 28)),
 ⟨(some 30), (some (29, false)), false, .fieldAddr 1 (.t 5), .none⟩,
 ⟨(some 31), (some (29, false)), false, .load false 1 (.t 30) .copy, .none⟩,
 ⟨(some 32), (some (29, false)), false, .bin .gtr (.t 31) (.c (.int .i64 1000)), .none⟩,
 o_ 33 (.pick (.t 29) (.c (.bool true)) (.t 32)),
 o_ 34 (.mv (.t 33)),
 ⟨(some 35), (some (34, false)), false, .mv (.t 2), .none⟩,
 ⟨(some 36), (some (34, false)), false, .bin .lss (.t 35) (.c (.int .i64 (-1000))), .none⟩,
 o_ 37 (.pick (.t 34) (.c (.bool true)) (.t 36)),
 o_ 38 (.mv (.t 37)),
 ⟨(some 39), (some (38, false)), false, .mv (.t 2), .none⟩,
 ⟨(some 40), (some (38, false)), false, .bin .gtr (.t 39) (.c (.int .i64 1000)), .none⟩,
 o_ 41 (.pick (.t 38) (.c (.bool true)) (.t 40)),
 o_ 42 (.mv (.t 41)),
 ⟨(some 43), (some (42, false)), false, .mv (.t 3), .none⟩,
 ⟨(some 44), (some (42, false)), false, .bin .lss (.t 43) (.c (.int .i64 (-1000))), .none⟩,
 o_ 45 (.pick (.t 42) (.c (.bool true)) (.t 44)),
 o_ 46 (.mv (.t 45)),
 ⟨(some 47), (some (46, false)), false, .mv (.t 3), .none⟩,
 ⟨(some 48), (some (46, false)), false, .bin .gtr (.t 47) (.c (.int .i64 1000)), .none⟩,
 o_ 49 (.pick (.t 46) (.c (.bool true)) (.t 48)),
 o_ 50 (.mv (.t 49)),
 ⟨(some 51), (some (50, false)), false, .fieldAddr 5 (.t 4), .none⟩,
 ⟨(some 52), (some (50, false)), false, .load false 1 (.t 51) .copy, .none⟩,
 ⟨(some 53), (some (50, false)), false, .lenSl (.t 52), .none⟩,
 ⟨(some 54), (some (50, false)), false, .bin .gtr (.t 53) (.c (.int .i64 0)), .none⟩,
 o_ 55 (.pick (.t 50) (.c (.bool true)) (.t 54)),
 o_ 56 (.mv (.t 55)),
 ⟨(some 57), (some (56, false)), false, .fieldAddr 2 (.t 5), .none⟩,
 ⟨(some 58), (some (56, false)), false, .load false 1 (.t 57) .copy, .none⟩,
 ⟨(some 59), (some (56, false)), false, .bin .eql (.t 58) (.c (.int .i64 0)), .none⟩,
 o_ 60 (.pick (.t 56) (.c (.bool true)) (.t 59))])
 (.cond (.t 60)
 (.seq (.region false [o_ 8 (.mv (.c (.bool true)))])
 (.ret))
 (.skip)))
 (.seq (.region true [⟨(some 61), none, false, .load true 6 (.t 4) .copy, (.loc 0)⟩,
 ⟨(some 62), none, false, .load true 4 (.t 5) .copy, (.loc 1)⟩,
 o_ 63 (.callF 13 [(.u 61 .share), (.t 62)]),
 ⟨(some 64), none, false, .load true 6 (.t 4) .copy, (.loc 0)⟩,
 ⟨(some 65), none, false, .load true 4 (.t 5) .copy, (.loc 1)⟩,
 o_ 66 (.mv (.t 2)),
 o_ 67 (.mv (.t 3)),
 ⟨(some 68), none, false, .callP 28 [(.t 65), (.t 66), (.t 67)], .free⟩,
 o_ 69 (.callF 13 [(.u 64 .share), (.t 68)]),
 o_ 9 (.mv (.u 63 .share)),
 o_ 10 (.mv (.u 69 .share))])
 (.seq (.seq (.region false [o_ 70 (.mv (.t 9)),
 o_ 71 (.lenSl (.t 70)),
 o_ 72 (.mv (.t 10)),
 o_ 73 (.lenSl (.t 72)),
 o_ 74 (.bin .neq (.t 71) (.t 73))])
 (.cond (.t 74)
 (.seq (.region false [o_ 8 (.mv (.c (.bool false)))])
 (.ret))
 (.skip)))
 (.seq (.seq (.region false [o_ 75 (.mv (.t 9)),
 o_ 76 (.lenSl (.t 75)),
 o_ 77 (.mv (.c (.int .i64 0)))])
 (.block 0 (.loop [2, 3, 9, 10, 76, 77] (.seq (.region false [o_ 78 (.bin .lss (.t 77) (.t 76))])
 (.seq (.cond (.t 78)
 (.skip)
 (.exit 0))
 (.seq (.block 1 (.seq (.region false [o_ 79 (.mv (.t 77)),
 o_ 11 (.mv (.t 79))])
 (.seq (.region true [o_ 80 (.mv (.t 9)),
 o_ 81 (.mv (.t 11)),
 ⟨(some 82), none, false, .indexSl 7 (.t 80) (.t 81), .free⟩,
 o_ 83 (.fieldAddr 1 (.t 82)),
 ⟨(some 84), none, false, .load true 4 (.t 83) .copy, .free⟩,
 ⟨(some 85), none, false, .callP 29 [(.t 84)], .free⟩,
 o_ 86 (.mv (.t 10)),
 o_ 87 (.mv (.t 11)),
 ⟨(some 88), none, false, .indexSl 7 (.t 86) (.t 87), .free⟩,
 o_ 89 (.fieldAddr 1 (.t 88)),
 ⟨(some 90), none, false, .load true 4 (.t 89) .copy, .free⟩,
 ⟨(some 91), none, false, .callP 29 [(.t 90)], .free⟩,
 o_ 92 (.eq true .bool (.t 85) (.t 91)),
 o_ 93 (.mv (.t 92)),
 ⟨(some 94), (some (93, false)), false, .mv (.t 9), .none⟩,
 ⟨(some 95), (some (93, false)), false, .mv (.t 11), .none⟩,
 ⟨(some 96), (some (93, false)), false, .indexSl 7 (.t 94) (.t 95), .free⟩,
 ⟨(some 97), (some (93, false)), false, .fieldAddr 1 (.t 96), .none⟩,
 ⟨(some 98), (some (93, false)), false, .load true 4 (.t 97) .copy, .free⟩,
 ⟨(some 99), (some (93, false)), false, .callP 29 [(.t 98)], .free⟩,
 ⟨(some 100), (some (93, false)), false, .un .not (.t 99), .none⟩,
 ⟨(some 101), (some (93, false)), false, .mv (.t 100), .none⟩,
 ⟨(some 102), (some (101, true)), false, .mv (.t 9), .none⟩,
 ⟨(some 103), (some (101, true)), false, .mv (.t 11), .none⟩,
 ⟨(some 104), (some (101, true)), false, .indexSl 7 (.t 102) (.t 103), .free⟩,
 ⟨(some 105), (some (101, true)), false, .fieldAddr 1 (.t 104), .none⟩,
 ⟨(some 106), (some (101, true)), false, .load true 4 (.t 105) .copy, .free⟩,
 ⟨(some 107), (some (101, true)), false, .mv (.t 2), .none⟩,
 ⟨(some 108), (some (101, true)), false, .mv (.t 3), .none⟩,
 ⟨(some 109), (some (101, true)), false, .callP 28 [(.t 106), (.t 107), (.t 108)], .free⟩,
 ⟨(some 110), (some (101, true)), false, .mv (.t 10), .none⟩,
 ⟨(some 111), (some (101, true)), false, .mv (.t 11), .none⟩,
 ⟨(some 112), (some (101, true)), false, .indexSl 7 (.t 110) (.t 111), .free⟩,
 ⟨(some 113), (some (101, true)), false, .fieldAddr 1 (.t 112), .none⟩,
 ⟨(some 114), (some (101, true)), false, .load true 4 (.t 113) .copy, .free⟩,
 ⟨(some 115), (some (101, true)), false, .eq true (.plain [.int, .int, .int, .int]) (.t 109) (.t 114), .none⟩,
 ⟨(some 116), (some (93, false)), false, .pick (.t 101) (.t 115) (.c (.bool false)), .none⟩,
 o_ 117 (.pick (.t 93) (.c (.bool true)) (.t 116)),
 o_ 118 (.mv (.t 117)),
 ⟨(some 119), (some (118, false)), false, .mv (.t 9), .none⟩,
 ⟨(some 120), (some (118, false)), false, .mv (.t 11), .none⟩,
 ⟨(some 121), (some (118, false)), false, .indexSl 7 (.t 119) (.t 120), .free⟩,
 ⟨(some 122), (some (118, false)), false, .fieldAddr 6 (.t 121), .none⟩,
 ⟨(some 123), (some (118, false)), false, .load false 1 (.t 122) .copy, .free⟩,
 ⟨(some 124), (some (118, false)), false, .mv (.t 10), .none⟩,
 ⟨(some 125), (some (118, false)), false, .mv (.t 11), .none⟩,
 ⟨(some 126), (some (118, false)), false, .indexSl 7 (.t 124) (.t 125), .free⟩,
 ⟨(some 127), (some (118, false)), false, .fieldAddr 6 (.t 126), .none⟩,
 ⟨(some 128), (some (118, false)), false, .load false 1 (.t 127) .copy, .free⟩,
 ⟨(some 129), (some (118, false)), false, .eq true .bool (.t 123) (.t 128), .none⟩,
 o_ 130 (.pick (.t 118) (.c (.bool true)) (.t 129))])
 (.cond (.t 130)
 (.seq (.region false [o_ 8 (.mv (.c (.bool false)))])
 (.ret))
 (.skip)))))
 (.region false [o_ 131 (.bin .add (.t 77) (.c (.int .i64 1))),
 o_ 77 (.mv (.t 131))])))))))
 (.seq (.region false [o_ 8 (.mv (.c (.bool true)))])
 (.ret))))))))⟩
def v9 : List Nat := [0, 1, 2, 3, 4, 5, 8, 9, 10, 11, 13, 60, 74, 76, 77, 78, 130]
theorem c9 : zap Go.Proofs.Tryz.prog p9 9 = some a9 := by decide +kernel
def p10 : Plan := ⟨[], 3, [((0, 0), { box := some 0 }),
 ((0, 1), { box := some 1 }),
 ((1, 0), { pure := true }),
 ((3, 2), { uses := [(14, .share)] }),
 ((3, 3), { uses := [(16, .share)] }),
 ((4, 1), { uses := [(18, .share)] }),
 ((10, 3), { box := some 2 }),
 ((11, 8), { pure := true }),
 ((14, 3), { pure := true }),
 ((18, 7), { pure := true }),
 ((18, 8), { pure := true }),
 ((22, 4), { uses := [(96, .share)], pure := true }),
 ((22, 10), { pure := true })],
 [[3, 5, 6, 8, 28, 29, 30], [3, 5, 6, 8, 10, 28, 29, 30, 77, 78]]⟩
def a10 : AFunc := ⟨2, 106, 3, [.tmp 4],
 .seq (.region false [o_ 2 (.boxL 0 (.t 0)),
 o_ 3 (.boxL 1 (.t 1)),
 o_ 4 (.mv (.c (.bool false)))])
 (.seq (.seq (.region false [o_ 12 (.callP 11 []),
 o_ 13 (.un .not (.t 12))])
 (.cond (.t 13)
 (.seq (.region false [o_ 4 (.mv (.c (.bool false)))])
 (.ret))
 (.skip)))
 (.seq (.region false [o_ 14 (.load true 6 (.t 2) .copy),
 o_ 15 (.load true 4 (.t 3) .copy),
 o_ 16 (.callF 13 [(.u 14 .share), (.t 15)]),
 o_ 5 (.mv (.u 16 .share))])
 (.seq (.region false [o_ 18 (.load true 6 (.t 2) .copy),
 o_ 19 (.callF 12 [(.u 18 .share)]),
 o_ 17 (.mv (.t 19)),
 o_ 20 (.extract (.t 17) 0),
 o_ 21 (.extract (.t 17) 1),
 o_ 6 (.mv (.t 20)),
 o_ 7 (.mv (.t 21))])
 (.seq (.seq (.region false [o_ 22 (.mv (.t 5)),
 o_ 23 (.lenSl (.t 22)),
 o_ 24 (.mv (.t 6)),
 o_ 25 (.mv (.t 7)),
 o_ 26 (.bin .add (.t 24) (.t 25)),
 o_ 27 (.bin .neq (.t 23) (.t 26))])
 (.cond (.t 27)
 (.seq (.region false [o_ 4 (.mv (.c (.bool false)))])
 (.ret))
 (.skip)))
 (.seq (.region false [o_ 8 (.mv (.c (.int .i64 0)))])
 (.seq (.seq (.region false [o_ 28 (.mv (.t 5)),
 o_ 29 (.lenSl (.t 28)),
 o_ 30 (.mv (.c (.int .i64 0)))])
 (.block 0 (.loop [3, 5, 6, 8, 28, 29, 30] (.seq (.region false [o_ 31 (.bin .lss (.t 30) (.t 29))])
 (.seq (.cond (.t 31)
 (.skip)
 (.exit 0))
 (.seq (.block 1 (.seq (.region false [o_ 32 (.mv (.t 30)),
 o_ 33 (.indexSl 7 (.t 28) (.t 30)),
 o_ 34 (.load true 7 (.t 33) .copy),
 o_ 10 (.allocL 2 [(.int .i64 0), (.int .i64 0), (.int .i64 0), (.int .i64 0), (.int .i64 0), (.int .i64 0), (.bool false)]),
 o_ 9 (.mv (.t 32)),
 ⟨none, none, false, .store 7 (.t 10) (.t 34), .none⟩])
 (.seq (.seq (.region false [o_ 35 (.fieldAddr 0 (.t 10)),
 o_ 36 (.load false 1 (.t 35) .copy),
 o_ 37 (.mv (.t 9)),
 o_ 38 (.bin .neq (.t 36) (.t 37)),
 o_ 39 (.mv (.t 38)),
 ⟨(some 40), (some (39, false)), false, .fieldAddr 1 (.t 10), .none⟩,
 ⟨(some 41), (some (39, false)), false, .load true 4 (.t 40) .copy, .none⟩,
 ⟨(some 42), (some (39, false)), false, .load true 4 (.t 3) .copy, .none⟩,
 ⟨(some 43), (some (39, false)), false, .callP 30 [(.t 41), (.t 42)], .none⟩,
 ⟨(some 44), (some (39, false)), false, .un .not (.t 43), .none⟩,
 o_ 45 (.pick (.t 39) (.c (.bool true)) (.t 44)),
 o_ 46 (.mv (.t 45)),
 ⟨(some 47), (some (46, false)), false, .fieldAddr 5 (.t 10), .none⟩,
 ⟨(some 48), (some (46, false)), false, .load false 1 (.t 47) .copy, .none⟩,
 ⟨(some 49), (some (46, false)), false, .bin .eql (.t 48) (.c (.int .i64 0)), .none⟩,
 ⟨(some 50), (some (46, false)), false, .mv (.t 9), .none⟩,
 ⟨(some 51), (some (46, false)), false, .mv (.t 6), .none⟩,
 ⟨(some 52), (some (46, false)), false, .bin .lss (.t 50) (.t 51), .none⟩,
 ⟨(some 53), (some (46, false)), false, .eq true .bool (.t 49) (.t 52), .none⟩,
 o_ 54 (.pick (.t 46) (.c (.bool true)) (.t 53)),
 o_ 55 (.mv (.t 54)),
 ⟨(some 56), (some (55, false)), false, .fieldAddr 5 (.t 10), .none⟩,
 ⟨(some 57), (some (55, false)), false, .load false 1 (.t 56) .copy, .none⟩,
 ⟨(some 58), (some (55, false)), false, .bin .lss (.t 57) (.c (.int .i64 0)), .none⟩,
 o_ 59 (.pick (.t 55) (.c (.bool true)) (.t 58)),
 o_ 60 (.mv (.t 59)),
 ⟨(some 61), (some (60, false)), false, .fieldAddr 5 (.t 10), .none⟩,
 ⟨(some 62), (some (60, false)), false, .load false 1 (.t 61) .copy, .none⟩,
 ⟨(some 63), (some (60, false)), false, .bin .gtr (.t 62) (.c (.int .i64 0)), .none⟩,
 ⟨(some 64), (some (60, false)), false, .mv (.t 63), .none⟩,
 ⟨(some 65), (some (64, true)), false, .fieldAddr 6 (.t 10), .none⟩,
 ⟨(some 66), (some (64, true)), false, .load false 1 (.t 65) .copy, .none⟩,
 ⟨(some 67), (some (60, false)), false, .pick (.t 64) (.t 66) (.c (.bool false)), .none⟩,
 o_ 68 (.pick (.t 60) (.c (.bool true)) (.t 67))])
 (.cond (.t 68)
 (.seq (.region false [o_ 4 (.mv (.c (.bool false)))])
 (.ret))
 (.skip)))
 (.seq (.seq (.region false [o_ 69 (.mv (.t 9)),
 o_ 70 (.mv (.t 6)),
 o_ 71 (.bin .geq (.t 69) (.t 70))])
 (.cond (.t 71)
 (.exit 1)
 (.skip)))
 (.seq (.region false [o_ 72 (.mv (.t 8)),
 o_ 73 (.fieldAddr 1 (.t 10)),
 o_ 74 (.load true 4 (.t 73) .copy),
 o_ 75 (.callP 31 [(.t 74)]),
 o_ 76 (.bin .add (.t 72) (.t 75)),
 o_ 8 (.mv (.t 76))])
 (.seq (.region false [o_ 77 (.mv (.t 9)),
 o_ 78 (.mv (.c (.int .i64 0)))])
 (.block 2 (.loop [3, 5, 6, 8, 10, 28, 29, 30, 77, 78] (.seq (.region false [o_ 79 (.bin .lss (.t 78) (.t 77))])
 (.seq (.cond (.t 79)
 (.skip)
 (.exit 2))
 (.seq (.block 3 (.seq (.region false [o_ 80 (.mv (.t 78)),
 o_ 11 (.mv (.t 80))])
 (.seq (.region true [o_ 81 (.fieldAddr 1 (.t 10)),
 o_ 82 (.load true 4 (.t 81) .copy),
 o_ 83 (.mv (.t 5)),
 o_ 84 (.mv (.t 11)),
 o_ 85 (.indexSl 7 (.t 83) (.t 84)),
 o_ 86 (.fieldAddr 1 (.t 85)),
 o_ 87 (.load true 4 (.t 86) .copy),
 o_ 88 (.callP 32 [(.t 82), (.t 87)]),
 o_ 89 (.callP 29 [(.t 88)]),
 o_ 90 (.un .not (.t 89))])
 (.cond (.t 90)
 (.seq (.region false [o_ 4 (.mv (.c (.bool false)))])
 (.ret))
 (.skip)))))
 (.region false [o_ 91 (.bin .add (.t 78) (.c (.int .i64 1))),
 o_ 78 (.mv (.t 91))]))))))))))))
 (.region false [o_ 92 (.bin .add (.t 30) (.c (.int .i64 1))),
 o_ 30 (.mv (.t 92))])))))))
 (.seq (.region false [o_ 93 (.mv (.t 6)),
 o_ 94 (.bin .eql (.t 93) (.c (.int .i64 0))),
 o_ 95 (.mv (.t 94)),
 ⟨(some 96), (some (95, false)), false, .mv (.t 5), .none⟩,
 ⟨(some 97), (some (95, false)), false, .callP 33 [(.u 96 .share)], .none⟩,
 ⟨(some 98), (some (95, false)), false, .un .not (.t 97), .none⟩,
 o_ 99 (.pick (.t 95) (.c (.bool true)) (.t 98)),
 o_ 100 (.mv (.t 99)),
 ⟨(some 101), (some (100, false)), false, .mv (.t 8), .none⟩,
 ⟨(some 102), (some (100, false)), false, .load true 4 (.t 3) .copy, .none⟩,
 ⟨(some 103), (some (100, false)), false, .callP 31 [(.t 102)], .none⟩,
 ⟨(some 104), (some (100, false)), false, .bin .eql (.t 101) (.t 103), .none⟩,
 o_ 105 (.pick (.t 100) (.c (.bool true)) (.t 104)),
 o_ 4 (.mv (.t 105))])
 (.ret))))))))⟩
theorem c10 : zap Go.Proofs.Tryz.prog p10 10 = some a10 := by decide +kernel
def p12 : Plan := ⟨[], 1, [((0, 0), { box := some 0 }),
 ((1, 1), { uses := [(5, .share)] }),
 ((4, 1), { uses := [(8, .share)] })],
 []⟩
def a12 : AFunc := ⟨1, 14, 1, [.tmp 2, .tmp 3],
 .seq (.region false [o_ 1 (.boxL 0 (.t 0)),
 o_ 2 (.mv (.c (.int .i64 0))),
 o_ 3 (.mv (.c (.int .i64 0)))])
 (.seq (.seq (.region false [o_ 5 (.load true 6 (.t 1) .copy),
 o_ 6 (.callF 15 [(.u 5 .share)]),
 o_ 7 (.bin .neq (.t 6) (.c (.int .i64 0)))])
 (.cond (.t 7)
 (.seq (.region false [o_ 2 (.mv (.c (.int .i64 0))),
 o_ 3 (.mv (.c (.int .i64 0)))])
 (.ret))
 (.skip)))
 (.seq (.region false [o_ 4 (.allocM [(.int .i64 0)]),
 ⟨none, none, false, .store 1 (.t 4) (.c (.int .i64 0)), .none⟩])
 (.seq (.region false [o_ 8 (.load true 6 (.t 1) .copy),
 o_ 9 (.callF 34 [(.u 8 .share), (.c (.int .i64 1)), (.t 4)])])
 (.seq (.region true [o_ 10 (.load false 1 (.t 4) .copy),
 o_ 11 (.fieldAddr 5 (.t 1)),
 o_ 12 (.load false 1 (.t 11) .copy),
 o_ 13 (.lenSl (.t 12)),
 o_ 2 (.mv (.t 10)),
 o_ 3 (.mv (.t 13))])
 (.ret)))))⟩
theorem c12 : zap Go.Proofs.Tryz.prog p12 12 = some a12 := by decide +kernel
def p29 : Plan := ⟨[], 1, [((0, 0), { box := some 0 }),
 ((1, 1), { pure := true })],
 []⟩
def a29 : AFunc := ⟨1, 7, 1, [.tmp 2],
 .seq (.region false [o_ 1 (.boxL 0 (.t 0)),
 o_ 2 (.mv (.c (.bool false)))])
 (.seq (.region false [o_ 3 (.load true 4 (.t 1) .copy),
 o_ 4 (.callP 25 [(.t 3)]),
 o_ 5 (.field false 1 2 (.t 4)),
 o_ 6 (.bin .eql (.t 5) (.c (.int .i64 0))),
 o_ 2 (.mv (.t 6))])
 (.ret))⟩
theorem c29 : zap Go.Proofs.Tryz.prog p29 29 = some a29 := by decide +kernel
def p61 : Plan := ⟨[], 1, [((0, 0), { box := some 0 }),
 ((1, 9), { pure := true })],
 []⟩
def a61 : AFunc := ⟨4, 19, 1, [.cell 8 true 4],
 .seq (.region false [o_ 8 (.allocL 0 [(.int .i64 0), (.int .i64 0), (.int .i64 0), (.int .i64 0)])])
 (.seq (.region false [o_ 9 (.mv (.t 0)),
 o_ 10 (.mv (.t 1)),
 o_ 11 (.mv (.t 2)),
 o_ 12 (.mv (.t 0)),
 o_ 13 (.bin .sub (.t 11) (.t 12)),
 o_ 14 (.mv (.t 3)),
 o_ 15 (.mv (.t 1)),
 o_ 16 (.bin .sub (.t 14) (.t 15)),
 o_ 17 (.build [(.int .i64 0), (.int .i64 0), (.int .i64 0), (.int .i64 0)] [(0, 1, (.t 9)), (1, 1, (.t 10)), (2, 1, (.t 13)), (3, 1, (.t 16))]),
 o_ 18 (.callP 25 [(.t 17)]),
 ⟨none, none, false, .store 4 (.t 8) (.t 18), .none⟩])
 (.ret))⟩
theorem c61 : zap Go.Proofs.Tryz.prog p61 61 = some a61 := by decide +kernel
def p32 : Plan := ⟨[], 3, [((1, 5), { mark := (.loc 1) }),
 ((1, 4), { mark := (.loc 0) }),
 ((1, 3), { mark := .free, pure := true }),
 ((1, 2), { mark := (.loc 1) }),
 ((1, 1), { mark := .free, pure := true }),
 ((1, 0), { mark := (.loc 0) }),
 ((0, 0), { box := some 0 }),
 ((0, 1), { box := some 1 }),
 ((0, 2), { box := some 2 }),
 ((2, 32), { pure := true })],
 []⟩
def a32 : AFunc := ⟨2, 42, 3, [.cell 4 true 4],
 .seq (.region false [o_ 2 (.boxL 0 (.t 0)),
 o_ 3 (.boxL 1 (.t 1)),
 o_ 4 (.allocL 2 [(.int .i64 0), (.int .i64 0), (.int .i64 0), (.int .i64 0)])])
 (.seq (.region true [⟨(some 5), none, false, .load true 4 (.t 2) .copy, (.loc 0)⟩,
 ⟨(some 6), none, false, .callP 25 [(.t 5)], .free⟩,
 ⟨(some 7), none, false, .load true 4 (.t 3) .copy, (.loc 1)⟩,
 ⟨(some 8), none, false, .callP 25 [(.t 7)], .free⟩,
 ⟨none, none, false, .store 4 (.t 2) (.t 6), (.loc 0)⟩,
 ⟨none, none, false, .store 4 (.t 3) (.t 8), (.loc 1)⟩])
 (.seq (.region false [o_ 9 (.fieldAddr 0 (.t 2)),
 o_ 10 (.load false 1 (.t 9) .copy),
 o_ 11 (.fieldAddr 0 (.t 3)),
 o_ 12 (.load false 1 (.t 11) .copy),
 o_ 13 (.minMax true (.t 10) [(.t 12)]),
 o_ 14 (.fieldAddr 1 (.t 2)),
 o_ 15 (.load false 1 (.t 14) .copy),
 o_ 16 (.fieldAddr 1 (.t 3)),
 o_ 17 (.load false 1 (.t 16) .copy),
 o_ 18 (.minMax true (.t 15) [(.t 17)]),
 o_ 19 (.fieldAddr 0 (.t 2)),
 o_ 20 (.load false 1 (.t 19) .copy),
 o_ 21 (.fieldAddr 2 (.t 2)),
 o_ 22 (.load false 1 (.t 21) .copy),
 o_ 23 (.bin .add (.t 20) (.t 22)),
 o_ 24 (.fieldAddr 0 (.t 3)),
 o_ 25 (.load false 1 (.t 24) .copy),
 o_ 26 (.fieldAddr 2 (.t 3)),
 o_ 27 (.load false 1 (.t 26) .copy),
 o_ 28 (.bin .add (.t 25) (.t 27)),
 o_ 29 (.minMax false (.t 23) [(.t 28)]),
 o_ 30 (.fieldAddr 1 (.t 2)),
 o_ 31 (.load false 1 (.t 30) .copy),
 o_ 32 (.fieldAddr 3 (.t 2)),
 o_ 33 (.load false 1 (.t 32) .copy),
 o_ 34 (.bin .add (.t 31) (.t 33)),
 o_ 35 (.fieldAddr 1 (.t 3)),
 o_ 36 (.load false 1 (.t 35) .copy),
 o_ 37 (.fieldAddr 3 (.t 3)),
 o_ 38 (.load false 1 (.t 37) .copy),
 o_ 39 (.bin .add (.t 36) (.t 38)),
 o_ 40 (.minMax false (.t 34) [(.t 39)]),
 o_ 41 (.callP 61 [(.t 13), (.t 18), (.t 29), (.t 40)]),
 ⟨none, none, false, .store 4 (.t 4) (.t 41), .none⟩])
 (.ret)))⟩
theorem c32 : zap Go.Proofs.Tryz.prog p32 32 = some a32 := by decide +kernel
def p30 : Plan := ⟨[], 2, [((1, 4), { mark := .free, pure := true }),
 ((1, 3), { mark := (.loc 0) }),
 ((1, 2), { mark := .free, pure := true }),
 ((1, 1), { mark := (.loc 1) }),
 ((1, 0), { mark := (.loc 0) }),
 ((0, 0), { box := some 0 }),
 ((0, 1), { box := some 1 })],
 []⟩
def a30 : AFunc := ⟨2, 11, 2, [.tmp 4],
 .seq (.region false [o_ 2 (.boxL 0 (.t 0)),
 o_ 3 (.boxL 1 (.t 1)),
 o_ 4 (.mv (.c (.bool false)))])
 (.seq (.region true [⟨(some 5), none, false, .load true 4 (.t 2) .copy, (.loc 0)⟩,
 ⟨(some 6), none, false, .load true 4 (.t 3) .copy, (.loc 1)⟩,
 ⟨(some 7), none, false, .callP 32 [(.t 5), (.t 6)], .free⟩,
 ⟨(some 8), none, false, .load true 4 (.t 2) .copy, (.loc 0)⟩,
 ⟨(some 9), none, false, .callP 25 [(.t 8)], .free⟩,
 o_ 10 (.eq false (.plain [.int, .int, .int, .int]) (.t 7) (.t 9)),
 o_ 4 (.mv (.t 10))])
 (.ret))⟩
theorem c30 : zap Go.Proofs.Tryz.prog p30 30 = some a30 := by decide +kernel
def p31 : Plan := ⟨[], 1, [((0, 0), { box := some 0 }),
 ((1, 1), { pure := true })],
 []⟩
def a31 : AFunc := ⟨1, 10, 1, [.tmp 2],
 .seq (.region false [o_ 1 (.boxL 0 (.t 0)),
 o_ 2 (.mv (.c (.int .i64 0)))])
 (.seq (.region false [o_ 3 (.load true 4 (.t 1) .copy),
 o_ 4 (.callP 25 [(.t 3)]),
 ⟨none, none, false, .store 4 (.t 1) (.t 4), .none⟩])
 (.seq (.region false [o_ 5 (.fieldAddr 2 (.t 1)),
 o_ 6 (.load false 1 (.t 5) .copy),
 o_ 7 (.fieldAddr 3 (.t 1)),
 o_ 8 (.load false 1 (.t 7) .copy),
 o_ 9 (.bin .mul (.t 6) (.t 8)),
 o_ 2 (.mv (.t 9))])
 (.ret)))⟩
theorem c31 : zap Go.Proofs.Tryz.prog p31 31 = some a31 := by decide +kernel
def p33 : Plan := ⟨[], 1, [((3, 2), { box := some 0 }),
 ((4, 6), { pure := true })],
 [[5, 6, 7]]⟩
def a33 : AFunc := ⟨1, 20, 1, [.tmp 2],
 .seq (.region false [o_ 2 (.mv (.c (.bool false)))])
 (.seq (.seq (.region false [o_ 5 (.mv (.t 0)),
 o_ 6 (.lenSl (.t 5)),
 o_ 7 (.mv (.c (.int .i64 0)))])
 (.block 0 (.loop [5, 6, 7] (.seq (.region false [o_ 8 (.bin .lss (.t 7) (.t 6))])
 (.seq (.cond (.t 8)
 (.skip)
 (.exit 0))
 (.seq (.block 1 (.seq (.region false [o_ 9 (.indexSl 7 (.t 5) (.t 7)),
 o_ 10 (.load true 7 (.t 9) .copy),
 o_ 4 (.allocL 0 [(.int .i64 0), (.int .i64 0), (.int .i64 0), (.int .i64 0), (.int .i64 0), (.int .i64 0), (.bool false)]),
 ⟨none, none, false, .store 7 (.t 4) (.t 10), .none⟩])
 (.seq (.region false [o_ 11 (.fieldAddr 5 (.t 4)),
 o_ 12 (.load false 1 (.t 11) .copy),
 o_ 13 (.bin .eql (.t 12) (.c (.int .i64 0))),
 o_ 14 (.mv (.t 13)),
 ⟨(some 15), (some (14, true)), false, .fieldAddr 1 (.t 4), .none⟩,
 ⟨(some 16), (some (14, true)), false, .load true 4 (.t 15) .copy, .none⟩,
 ⟨(some 17), (some (14, true)), false, .callP 29 [(.t 16)], .none⟩,
 o_ 18 (.pick (.t 14) (.t 17) (.c (.bool false)))])
 (.cond (.t 18)
 (.seq (.region false [o_ 2 (.mv (.c (.bool false)))])
 (.ret))
 (.skip)))))
 (.region false [o_ 19 (.bin .add (.t 7) (.c (.int .i64 1))),
 o_ 7 (.mv (.t 19))])))))))
 (.seq (.region false [o_ 2 (.mv (.c (.bool true)))])
 (.ret)))⟩
theorem c33 : zap Go.Proofs.Tryz.prog p33 33 = some a33 := by decide +kernel
def p53 : Plan := ⟨[], 1, [((0, 0), { box := some 0 }),
 ((1, 1), { pure := true })],
 []⟩
def a53 : AFunc := ⟨3, 37, 1, [.tmp 6],
 .seq (.region false [o_ 3 (.boxL 0 (.t 0)),
 o_ 6 (.mv (.c (.bool false)))])
 (.seq (.region false [o_ 7 (.load true 4 (.t 3) .copy),
 o_ 8 (.callP 25 [(.t 7)]),
 ⟨none, none, false, .store 4 (.t 3) (.t 8), .none⟩])
 (.seq (.region false [o_ 9 (.mv (.t 1)),
 o_ 10 (.fieldAddr 0 (.t 3)),
 o_ 11 (.load false 1 (.t 10) .copy),
 o_ 12 (.bin .geq (.t 9) (.t 11)),
 o_ 13 (.mv (.t 12)),
 ⟨(some 14), (some (13, true)), false, .mv (.t 1), .none⟩,
 ⟨(some 15), (some (13, true)), false, .fieldAddr 0 (.t 3), .none⟩,
 ⟨(some 16), (some (13, true)), false, .load false 1 (.t 15) .copy, .none⟩,
 ⟨(some 17), (some (13, true)), false, .fieldAddr 2 (.t 3), .none⟩,
 ⟨(some 18), (some (13, true)), false, .load false 1 (.t 17) .copy, .none⟩,
 ⟨(some 19), (some (13, true)), false, .bin .add (.t 16) (.t 18), .none⟩,
 ⟨(some 20), (some (13, true)), false, .bin .lss (.t 14) (.t 19), .none⟩,
 o_ 21 (.pick (.t 13) (.t 20) (.c (.bool false))),
 o_ 22 (.mv (.t 21)),
 ⟨(some 23), (some (22, true)), false, .mv (.t 2), .none⟩,
 ⟨(some 24), (some (22, true)), false, .fieldAddr 1 (.t 3), .none⟩,
 ⟨(some 25), (some (22, true)), false, .load false 1 (.t 24) .copy, .none⟩,
 ⟨(some 26), (some (22, true)), false, .bin .geq (.t 23) (.t 25), .none⟩,
 o_ 27 (.pick (.t 22) (.t 26) (.c (.bool false))),
 o_ 28 (.mv (.t 27)),
 ⟨(some 29), (some (28, true)), false, .mv (.t 2), .none⟩,
 ⟨(some 30), (some (28, true)), false, .fieldAddr 1 (.t 3), .none⟩,
 ⟨(some 31), (some (28, true)), false, .load false 1 (.t 30) .copy, .none⟩,
 ⟨(some 32), (some (28, true)), false, .fieldAddr 3 (.t 3), .none⟩,
 ⟨(some 33), (some (28, true)), false, .load false 1 (.t 32) .copy, .none⟩,
 ⟨(some 34), (some (28, true)), false, .bin .add (.t 31) (.t 33), .none⟩,
 ⟨(some 35), (some (28, true)), false, .bin .lss (.t 29) (.t 34), .none⟩,
 o_ 36 (.pick (.t 28) (.t 35) (.c (.bool false))),
 o_ 6 (.mv (.t 36))])
 (.ret)))⟩
def v53 : List Nat := [0, 1, 2, 3, 6]
theorem c53 : zap Go.Proofs.Tryz.prog p53 53 = some a53 := by decide +kernel
def p23 : Plan := ⟨[], 1, [((4, 3), { box := some 0 }),
 ((5, 4), { pure := true })],
 [[0, 1, 2, 7, 14, 15, 16]]⟩
def a23 : AFunc := ⟨3, 49, 1, [.tmp 6],
 .seq (.region false [o_ 6 (.mv (.c (.int .i64 0)))])
 (.seq (.region false [o_ 7 (.mv (.c (.int .i64 (-1))))])
 (.seq (.seq (.region false [o_ 10 (.mv (.t 0)),
 o_ 11 (.mv (.t 0)),
 o_ 12 (.lenSl (.t 11)),
 o_ 13 (.minMax false (.t 12) [(.c (.int .i64 24))]),
 o_ 14 (.sliceV 7 (.t 10) none (some (.t 13))),
 o_ 15 (.lenSl (.t 14)),
 o_ 16 (.mv (.c (.int .i64 0)))])
 (.block 0 (.loop [0, 1, 2, 7, 14, 15, 16] (.seq (.region false [o_ 17 (.bin .lss (.t 16) (.t 15))])
 (.seq (.cond (.t 17)
 (.skip)
 (.exit 0))
 (.seq (.block 1 (.seq (.region false [o_ 18 (.mv (.t 16)),
 o_ 19 (.indexSl 7 (.t 14) (.t 16)),
 o_ 20 (.load true 7 (.t 19) .copy),
 o_ 9 (.allocL 0 [(.int .i64 0), (.int .i64 0), (.int .i64 0), (.int .i64 0), (.int .i64 0), (.int .i64 0), (.bool false)]),
 o_ 8 (.mv (.t 18)),
 ⟨none, none, false, .store 7 (.t 9) (.t 20), .none⟩])
 (.seq (.region true [o_ 21 (.fieldAddr 1 (.t 9)),
 o_ 22 (.load true 4 (.t 21) .copy),
 o_ 23 (.mv (.t 1)),
 o_ 24 (.mv (.t 2)),
 o_ 25 (.callP 53 [(.t 22), (.t 23), (.t 24)]),
 o_ 26 (.mv (.t 25)),
 ⟨(some 27), (some (26, true)), false, .mv (.t 7), .none⟩,
 ⟨(some 28), (some (26, true)), false, .bin .lss (.t 27) (.c (.int .i64 0)), .none⟩,
 ⟨(some 29), (some (26, true)), false, .mv (.t 28), .none⟩,
 ⟨(some 30), (some (29, false)), false, .fieldAddr 5 (.t 9), .none⟩,
 ⟨(some 31), (some (29, false)), false, .load false 1 (.t 30) .copy, .none⟩,
 ⟨(some 32), (some (29, false)), false, .mv (.t 0), .none⟩,
 ⟨(some 33), (some (29, false)), false, .mv (.t 7), .none⟩,
 ⟨(some 34), (some (29, false)), false, .indexSl 7 (.t 32) (.t 33), .none⟩,
 ⟨(some 35), (some (29, false)), false, .fieldAddr 5 (.t 34), .none⟩,
 ⟨(some 36), (some (29, false)), false, .load false 1 (.t 35) .copy, .none⟩,
 ⟨(some 37), (some (29, false)), false, .bin .geq (.t 31) (.t 36), .none⟩,
 ⟨(some 38), (some (26, true)), false, .pick (.t 29) (.c (.bool true)) (.t 37), .none⟩,
 o_ 39 (.pick (.t 26) (.t 38) (.c (.bool false)))])
 (.cond (.t 39)
 (.region false [o_ 40 (.mv (.t 8)),
 o_ 7 (.mv (.t 40))])
 (.skip)))))
 (.region false [o_ 41 (.bin .add (.t 16) (.c (.int .i64 1))),
 o_ 16 (.mv (.t 41))])))))))
 (.seq (.seq (.region false [o_ 42 (.mv (.t 7)),
 o_ 43 (.bin .lss (.t 42) (.c (.int .i64 0)))])
 (.cond (.t 43)
 (.seq (.region false [o_ 6 (.mv (.c (.int .i64 (-1))))])
 (.ret))
 (.skip)))
 (.seq (.region false [o_ 44 (.mv (.t 0)),
 o_ 45 (.mv (.t 7)),
 o_ 46 (.indexSl 7 (.t 44) (.t 45)),
 o_ 47 (.fieldAddr 0 (.t 46)),
 o_ 48 (.load false 1 (.t 47) .copy),
 o_ 6 (.mv (.t 48))])
 (.ret)))))⟩
theorem c23 : zap Go.Proofs.Tryz.prog p23 23 = some a23 := by decide +kernel
def p64 : Plan := ⟨[], 0, [],
 []⟩
def a64 : AFunc := ⟨3, 16, 0, [.tmp 6],
 .seq (.region false [o_ 6 (.mv (.c (.int .i64 0)))])
 (.seq (.seq (.region false [o_ 7 (.mv (.t 0)),
 o_ 8 (.mv (.t 1)),
 o_ 9 (.bin .lss (.t 7) (.t 8))])
 (.cond (.t 9)
 (.seq (.region false [o_ 10 (.mv (.t 1)),
 o_ 6 (.mv (.t 10))])
 (.ret))
 (.skip)))
 (.seq (.seq (.region false [o_ 11 (.mv (.t 0)),
 o_ 12 (.mv (.t 2)),
 o_ 13 (.bin .gtr (.t 11) (.t 12))])
 (.cond (.t 13)
 (.seq (.region false [o_ 14 (.mv (.t 2)),
 o_ 6 (.mv (.t 14))])
 (.ret))
 (.skip)))
 (.seq (.region false [o_ 15 (.mv (.t 0)),
 o_ 6 (.mv (.t 15))])
 (.ret))))⟩
theorem c64 : zap Go.Proofs.Tryz.prog p64 64 = some a64 := by decide +kernel
def p39 : Plan := ⟨[], 2, [((0, 0), { box := some 0 }),
 ((0, 1), { box := some 1 }),
 ((1, 2), { pure := true }),
 ((2, 2), { pure := true }),
 ((3, 2), { pure := true }),
 ((4, 2), { pure := true })],
 []⟩
def a39 : AFunc := ⟨1, 43, 2, [.cell 2 true 4],
 .seq (.region false [o_ 1 (.boxL 0 (.t 0)),
 o_ 2 (.allocL 1 [(.int .i64 0), (.int .i64 0), (.int .i64 0), (.int .i64 0)])])
 (.seq (.region false [o_ 7 (.fieldAddr 0 (.t 1)),
 o_ 8 (.load false 1 (.t 7) .copy),
 o_ 9 (.callP 64 [(.t 8), (.c (.int .i64 (-5000))), (.c (.int .i64 5000))]),
 o_ 3 (.mv (.t 9))])
 (.seq (.region false [o_ 10 (.fieldAddr 1 (.t 1)),
 o_ 11 (.load false 1 (.t 10) .copy),
 o_ 12 (.callP 64 [(.t 11), (.c (.int .i64 (-5000))), (.c (.int .i64 5000))]),
 o_ 4 (.mv (.t 12))])
 (.seq (.region false [o_ 13 (.fieldAddr 2 (.t 1)),
 o_ 14 (.load false 1 (.t 13) .copy),
 o_ 15 (.callP 64 [(.t 14), (.c (.int .i64 0)), (.c (.int .i64 200))]),
 o_ 5 (.mv (.t 15))])
 (.seq (.region false [o_ 16 (.fieldAddr 3 (.t 1)),
 o_ 17 (.load false 1 (.t 16) .copy),
 o_ 18 (.callP 64 [(.t 17), (.c (.int .i64 0)), (.c (.int .i64 200))]),
 o_ 6 (.mv (.t 18))])
 (.seq (.seq (.region false [o_ 19 (.mv (.t 3)),
 o_ 20 (.mv (.t 5)),
 o_ 21 (.bin .add (.t 19) (.t 20)),
 o_ 22 (.bin .gtr (.t 21) (.c (.int .i64 5000)))])
 (.cond (.t 22)
 (.region false [o_ 23 (.mv (.t 3)),
 o_ 24 (.bin .sub (.c (.int .i64 5000)) (.t 23)),
 o_ 5 (.mv (.t 24))])
 (.skip)))
 (.seq (.seq (.region false [o_ 25 (.mv (.t 4)),
 o_ 26 (.mv (.t 6)),
 o_ 27 (.bin .add (.t 25) (.t 26)),
 o_ 28 (.bin .gtr (.t 27) (.c (.int .i64 5000)))])
 (.cond (.t 28)
 (.region false [o_ 29 (.mv (.t 4)),
 o_ 30 (.bin .sub (.c (.int .i64 5000)) (.t 29)),
 o_ 6 (.mv (.t 30))])
 (.skip)))
 (.seq (.seq (.region false [o_ 31 (.mv (.t 5)),
 o_ 32 (.bin .eql (.t 31) (.c (.int .i64 0))),
 o_ 33 (.mv (.t 32)),
 ⟨(some 34), (some (33, false)), false, .mv (.t 6), .none⟩,
 ⟨(some 35), (some (33, false)), false, .bin .eql (.t 34) (.c (.int .i64 0)), .none⟩,
 o_ 36 (.pick (.t 33) (.c (.bool true)) (.t 35))])
 (.cond (.t 36)
 (.seq (.region false [o_ 37 (.build [(.int .i64 0), (.int .i64 0), (.int .i64 0), (.int .i64 0)] []),
 ⟨none, none, false, .store 4 (.t 2) (.t 37), .none⟩])
 (.ret))
 (.skip)))
 (.seq (.region false [o_ 38 (.mv (.t 3)),
 o_ 39 (.mv (.t 4)),
 o_ 40 (.mv (.t 5)),
 o_ 41 (.mv (.t 6)),
 o_ 42 (.build [(.int .i64 0), (.int .i64 0), (.int .i64 0), (.int .i64 0)] [(0, 1, (.t 38)), (1, 1, (.t 39)), (2, 1, (.t 40)), (3, 1, (.t 41))]),
 ⟨none, none, false, .store 4 (.t 2) (.t 42), .none⟩])
 (.ret)))))))))⟩
theorem c39 : zap Go.Proofs.Tryz.prog p39 39 = some a39 := by decide +kernel
def p54 : Plan := ⟨[], 1, [((0, 0), { box := some 0 })],
 []⟩
def a54 : AFunc := ⟨3, 35, 1, [.tmp 6],
 .seq (.region false [o_ 3 (.boxL 0 (.t 0)),
 o_ 6 (.mv (.c (.bool false)))])
 (.seq (.region false [o_ 7 (.mv (.t 1)),
 o_ 8 (.fieldAddr 0 (.t 3)),
 o_ 9 (.load false 1 (.t 8) .copy),
 o_ 10 (.bin .geq (.t 7) (.t 9)),
 o_ 11 (.mv (.t 10)),
 ⟨(some 12), (some (11, true)), false, .mv (.t 1), .none⟩,
 ⟨(some 13), (some (11, true)), false, .fieldAddr 0 (.t 3), .none⟩,
 ⟨(some 14), (some (11, true)), false, .load false 1 (.t 13) .copy, .none⟩,
 ⟨(some 15), (some (11, true)), false, .fieldAddr 2 (.t 3), .none⟩,
 ⟨(some 16), (some (11, true)), false, .load false 1 (.t 15) .copy, .none⟩,
 ⟨(some 17), (some (11, true)), false, .bin .add (.t 14) (.t 16), .none⟩,
 ⟨(some 18), (some (11, true)), false, .bin .lss (.t 12) (.t 17), .none⟩,
 o_ 19 (.pick (.t 11) (.t 18) (.c (.bool false))),
 o_ 20 (.mv (.t 19)),
 ⟨(some 21), (some (20, true)), false, .mv (.t 2), .none⟩,
 ⟨(some 22), (some (20, true)), false, .fieldAddr 1 (.t 3), .none⟩,
 ⟨(some 23), (some (20, true)), false, .load false 1 (.t 22) .copy, .none⟩,
 ⟨(some 24), (some (20, true)), false, .bin .geq (.t 21) (.t 23), .none⟩,
 o_ 25 (.pick (.t 20) (.t 24) (.c (.bool false))),
 o_ 26 (.mv (.t 25)),
 ⟨(some 27), (some (26, true)), false, .mv (.t 2), .none⟩,
 ⟨(some 28), (some (26, true)), false, .fieldAddr 1 (.t 3), .none⟩,
 ⟨(some 29), (some (26, true)), false, .load false 1 (.t 28) .copy, .none⟩,
 ⟨(some 30), (some (26, true)), false, .fieldAddr 3 (.t 3), .none⟩,
 ⟨(some 31), (some (26, true)), false, .load false 1 (.t 30) .copy, .none⟩,
 ⟨(some 32), (some (26, true)), false, .bin .add (.t 29) (.t 31), .none⟩,
 ⟨(some 33), (some (26, true)), false, .bin .lss (.t 27) (.t 32), .none⟩,
 o_ 34 (.pick (.t 26) (.t 33) (.c (.bool false))),
 o_ 6 (.mv (.t 34))])
 (.ret))⟩
theorem c54 : zap Go.Proofs.Tryz.prog p54 54 = some a54 := by decide +kernel
def p24 : Plan := ⟨[], 0, [((5, 5), { pure := true }),
 ((5, 8), { pure := true })],
 [[0, 1, 2, 7, 8]]⟩
def a24 : AFunc := ⟨3, 53, 0, [.tmp 6],
 .seq (.region false [o_ 6 (.mv (.c (.int .i64 0)))])
 (.seq (.region false [o_ 7 (.mv (.c (.int .i64 (-1))))])
 (.seq (.seq (.region false [o_ 8 (.mv (.c (.int .i64 0)))])
 (.block 0 (.loop [0, 1, 2, 7, 8] (.seq (.seq (.region false [o_ 9 (.mv (.t 8)),
 o_ 10 (.mv (.t 0)),
 o_ 11 (.lenSl (.t 10)),
 o_ 12 (.bin .lss (.t 9) (.t 11)),
 o_ 13 (.mv (.t 12)),
 ⟨(some 14), (some (13, true)), false, .mv (.t 8), .none⟩,
 ⟨(some 15), (some (13, true)), false, .bin .lss (.t 14) (.c (.int .i64 24)), .none⟩,
 o_ 16 (.pick (.t 13) (.t 15) (.c (.bool false)))])
 (.cond (.t 16)
 (.skip)
 (.exit 0)))
 (.seq (.block 1 (.seq (.region true [o_ 19 (.mv (.t 0)),
 o_ 20 (.mv (.t 8)),
 o_ 21 (.indexSl 7 (.t 19) (.t 20)),
 o_ 22 (.fieldAddr 1 (.t 21)),
 o_ 23 (.load true 4 (.t 22) .copy),
 o_ 24 (.callP 39 [(.t 23)]),
 o_ 25 (.mv (.t 1)),
 o_ 26 (.mv (.t 2)),
 o_ 27 (.callP 54 [(.t 24), (.t 25), (.t 26)]),
 o_ 28 (.mv (.t 27)),
 ⟨(some 29), (some (28, true)), false, .mv (.t 7), .none⟩,
 ⟨(some 30), (some (28, true)), false, .bin .lss (.t 29) (.c (.int .i64 0)), .none⟩,
 ⟨(some 31), (some (28, true)), false, .mv (.t 30), .none⟩,
 ⟨(some 32), (some (31, false)), false, .mv (.t 0), .none⟩,
 ⟨(some 33), (some (31, false)), false, .mv (.t 8), .none⟩,
 ⟨(some 34), (some (31, false)), false, .indexSl 7 (.t 32) (.t 33), .none⟩,
 ⟨(some 35), (some (31, false)), false, .fieldAddr 5 (.t 34), .none⟩,
 ⟨(some 36), (some (31, false)), false, .load false 1 (.t 35) .copy, .none⟩,
 ⟨(some 37), (some (31, false)), false, .mv (.t 0), .none⟩,
 ⟨(some 38), (some (31, false)), false, .mv (.t 7), .none⟩,
 ⟨(some 39), (some (31, false)), false, .indexSl 7 (.t 37) (.t 38), .none⟩,
 ⟨(some 40), (some (31, false)), false, .fieldAddr 5 (.t 39), .none⟩,
 ⟨(some 41), (some (31, false)), false, .load false 1 (.t 40) .copy, .none⟩,
 ⟨(some 42), (some (31, false)), false, .bin .geq (.t 36) (.t 41), .none⟩,
 ⟨(some 43), (some (28, true)), false, .pick (.t 31) (.c (.bool true)) (.t 42), .none⟩,
 o_ 44 (.pick (.t 28) (.t 43) (.c (.bool false)))])
 (.cond (.t 44)
 (.region false [o_ 45 (.mv (.t 8)),
 o_ 7 (.mv (.t 45))])
 (.skip))))
 (.region false [o_ 17 (.mv (.t 8)),
 o_ 18 (.bin .add (.t 17) (.c (.int .i64 1))),
 o_ 8 (.mv (.t 18))]))))))
 (.seq (.seq (.region false [o_ 46 (.mv (.t 7)),
 o_ 47 (.bin .lss (.t 46) (.c (.int .i64 0)))])
 (.cond (.t 47)
 (.seq (.region false [o_ 6 (.mv (.c (.int .i64 (-1))))])
 (.ret))
 (.skip)))
 (.seq (.region false [o_ 48 (.mv (.t 0)),
 o_ 49 (.mv (.t 7)),
 o_ 50 (.indexSl 7 (.t 48) (.t 49)),
 o_ 51 (.fieldAddr 0 (.t 50)),
 o_ 52 (.load false 1 (.t 51) .copy),
 o_ 6 (.mv (.t 52))])
 (.ret)))))⟩
theorem c24 : zap Go.Proofs.Tryz.prog p24 24 = some a24 := by decide +kernel
def p6 : Plan := ⟨[], 0, [((1, 0), { pure := true }),
 ((3, 3), { uses := [(9, .share)], pure := true }),
 ((3, 7), { uses := [(13, .share)], pure := true })],
 []⟩
def a6 : AFunc := ⟨3, 18, 0, [.tmp 6],
 .seq (.region false [o_ 6 (.mv (.c (.bool false)))])
 (.seq (.seq (.region false [o_ 7 (.callP 11 []),
 o_ 8 (.un .not (.t 7))])
 (.cond (.t 8)
 (.seq (.region false [o_ 6 (.mv (.c (.bool false)))])
 (.ret))
 (.skip)))
 (.seq (.region false [o_ 9 (.mv (.t 0)),
 o_ 10 (.mv (.t 1)),
 o_ 11 (.mv (.t 2)),
 o_ 12 (.callP 23 [(.u 9 .share), (.t 10), (.t 11)]),
 o_ 13 (.mv (.t 0)),
 o_ 14 (.mv (.t 1)),
 o_ 15 (.mv (.t 2)),
 o_ 16 (.callP 24 [(.u 13 .share), (.t 14), (.t 15)]),
 o_ 17 (.bin .eql (.t 12) (.t 16)),
 o_ 6 (.mv (.t 17))])
 (.ret)))⟩
def b6 : List Nat := []
theorem c6 : zap Go.Proofs.Tryz.prog p6 6 = some a6 := by decide +kernel
def zm4 : List (Nat × AFunc) := [(58, a58), (34, a34), (15, a15), (55, a55), (25, a25), (60, a60), (28, a28), (36, a36), (57, a57), (80, a80), (56, a56), (59, a59), (27, a27), (81, a81), (35, a35), (62, a62), (37, a37), (13, a13), (26, a26), (7, a7), (8, a8), (9, a9), (10, a10), (12, a12), (29, a29), (61, a61), (32, a32), (30, a30), (31, a31), (33, a33), (53, a53), (23, a23), (64, a64), (39, a39), (54, a54), (24, a24), (6, a6)]
def ET : Table := zkO zm4 lyX
theorem ziF : zmY Go.Proofs.Tryz.prog zm4 := ⟨zae c58, zae c34, zae c15, zae c55, zae c25, zae c60, zae c28, zae c36, zae c57, zae c80, zae c56, zae c59, zae c27, zae c81, zae c35, zae c62, zae c37, zae c13, zae c26, zae c7, zae c8, zae c9, zae c10, zae c12, zae c29, zae c61, zae c32, zae c30, zae c31, zae c33, zae c53, zae c23, zae c64, zae c39, zae c54, zae c24, zae c6, trivial⟩
end Go.Proofs.YtakdnfneikbjjaaGreatDoor.Am.Lay10

set_option linter.all false
namespace Go.Proofs.YtakdnfneikbjjaaGreatDoor.Am.LayA
theorem zkQ {s : List UInt8} {n : Int} (hn : Lib.parseIntB 64 s = .ok n) (hl : s.length ≤ 1000) (m : List (List V)) : zdr Go.Proofs.Tryz.prog 97 [.str s, .int .i64 10, .int .i64 64] m (.tuple [.int .i64 n, .nili]) m := by
  intro g w fr vs hsz hok _ hS
  obtain ⟨v0, v1, v2, rfl⟩ : ∃ v0 v1 v2, vs = #[v0, v1, v2] := by
    have : vs.size = 3 := hsz
    refine ⟨vs[0], vs[1], vs[2], ?_⟩
    apply Array.ext
    · simpa using this
    · intro i h1 h2
      have : i = 0 ∨ i = 1 ∨ i = 2 := by omega
      rcases this with rfl | rfl | rfl <;> rfl
  have hS : SR g w 0 fr (fun _ => false) ⟨fun _ => .undef, fun _ => [], m⟩ #[] [(.str s, v0), (.int .i64 10, v1), (.int .i64 64, v2)] := hS
  obtain ⟨b0, rfl, h0⟩ := R3.str (hS.pend _ (.head _))
  have h1 := R3.int (hS.pend _ (.tail _ (.head _)))
  have h2 := R3.int (hS.pend _ (.tail _ (.tail _ (.head _))))
  simp only at h1 h2
  subst h1
  subst h2
  subst h0
  have hb : b0.size ≤ 9223372036854775806 := by
    have : b0.data.toList.length = b0.size := by simp
    omega
  refine (Go.Proofs.Any.strconv_ParseInt_10_at64_ok Go.Proofs.Tryz.laysC174 b0 hb n hn w).mono ?_
  rintro e w' ⟨rfl, hw⟩
  have hB : RowKit.Below w.heap.size w w' := by
    rcases hw with rfl | ⟨t, rfl⟩
    · exact RowKit.Below.refl _ _
    · exact Lib.bytesWorld_below _ _ _
  have h5 : ∀ c, c < w.heap.size → Same w w' c := fun c hc => hB.block c hc
  have hD := (hS.world hB.size h5).drop.drop.drop
  refine ⟨_, g, rfl, hD.add (x := .tuple [.int .i64 n, .nili]) ⟨#[.int .i64 n, .nilIface], rfl, rfl, fun k hk => ?_⟩ rfl (fun d hd => by cases hd), ⟨hB.os, hB.tape, hB.output, hB.size, fun c hc => ⟨hc, h5 c (hS.pers_lt hc)⟩, fun c hc => h5 c (hS.fr_lt hc), fun _ _ => rfl⟩, Nat.le_refl _, fun x => by simp [V.root?], fun j o => by simp⟩
  have hk : k = 0 ∨ k = 1 := by simp only [List.length_cons, List.length_nil] at hk; omega
  rcases hk with rfl | rfl
  · exact ⟨.inl rfl, RB.int _ _⟩
  · exact ⟨.inl rfl, RB.nili⟩
theorem zoa : Good Go.Proofs.Tryz.prog lyA := by
  intro f args m r m' h
  unfold lyA at h
  split at h
  · split at h
    · split at h
      · simp only [Option.some.injEq, Prod.mk.injEq] at h
        obtain ⟨rfl, rfl⟩ := h
        exact ⟨⟨_, Go.Proofs.Tryz.func97, rfl, rfl⟩, zkQ (by assumption) (by assumption) m⟩
      · cases h
    · cases h
  · cases h
theorem ET0_ok : TableOK Go.Proofs.Tryz.prog ET0 := zia ziF zoa
set_option maxRecDepth 100000 in
theorem alive_true : ziE (evF ET0 60 60 11 [] []) = true := by decide +kernel
end Go.Proofs.YtakdnfneikbjjaaGreatDoor.Am.LayA
namespace Go.Proofs.YtakdnfneikbjjaaGreatDoor.Am.Lay10
theorem zo2 : Good Go.Proofs.Tryz.prog lyX := by
  intro f args m r m' h
  unfold lyX at h
  split at h
  · simp only [Option.some.injEq, Prod.mk.injEq] at h
    obtain ⟨rfl, rfl⟩ := h
    obtain ⟨h1, h2⟩ := zje LayA.ET0_ok (zn9 LayA.alive_true)
    exact ⟨h1, h2.anyMem m⟩
  · cases h
theorem zpI : TableOK Go.Proofs.Tryz.prog ET := zia ziF zo2
end Go.Proofs.YtakdnfneikbjjaaGreatDoor.Am.Lay10

namespace Go.Proofs.YtakdnfneikbjjaaGreatDoor.Am.T
open Go.Proofs.YtakdnfneikbjjaaGreatDoor.Am
inductive TV where
 | undef
 | bool (b : Bool)
 | int (k : IntKind) (n : Int)
 | str (s : List Int)
 | nilp
 | ptr (b off : Nat)
 | loc (j off : Nat)
 | ro (cells : List TV) (off : Nat)
 | el (r : Root) (sz i k : Nat)
 | place (r : Root)
 | nils
 | sl (own : Bool) (sz : Nat) (xs : List (List TV))
 | agg (cells : List TV)
 | tuple (vs : List TV)
 | func (f : Nat) (captured : List TV)
 | nilf
 | nili
 deriving Inhabited
inductive Pw {α β : Type} (R : α → β → Prop) : List α → List β → Prop
 | nil : Pw R [] []
 | cons {a b l l'} (h : R a b) (t : Pw R l l') : Pw R (a :: l) (b :: l')
def zd9 (b : UInt8) : Int := b.toNat
inductive Den0 : TV → V → Prop
 | undef (v : V) : Den0 .undef v
 | bool (b : Bool) : Den0 (.bool b) (.bool b)
 | int (k : IntKind) (n : Int) : Den0 (.int k n) (.int k n)
 | str (s : List UInt8) : Den0 (.str (s.map zd9)) (.str s)
 | nilp : Den0 .nilp .nilp
 | nils : Den0 .nils .nils
 | sl (own : Bool) (sz : Nat) {xs ys} (h : Pw (Pw Den0) xs ys) : Den0 (.sl own sz xs) (.slice own sz ys)
 | sln (own : Bool) (sz : Nat) : Den0 (.sl own sz []) .nils
 | func (f : Nat) : Den0 (.func f []) (.func f [])
 | nilf : Den0 .nilf .nilf
 | nili : Den0 .nili .nili
inductive RootR (ρ : List Nat) : Root → Root → Prop
 | mem {i b : Nat} (o : Nat) (h : ρ[i]? = some b) : RootR ρ (.mem i o) (.mem b o)
 | loc (j o : Nat) : RootR ρ (.loc j o) (.loc j o)
 | tmp (s : Nat) : RootR ρ (.tmp s) (.tmp s)
inductive Den (ρ : List Nat) : TV → V → Prop
 | base {t v} (h : Den0 t v) : Den ρ t v
 | ptr {i b : Nat} (o : Nat) (h : ρ[i]? = some b) : Den ρ (.ptr i o) (.ptr b o)
 | loc (j o : Nat) : Den ρ (.loc j o) (.loc j o)
 | ro {cs cs'} (o : Nat) (h : Pw (Den ρ) cs cs') : Den ρ (.ro cs o) (.ro cs' o)
 | el {r r'} (sz i k : Nat) (h : RootR ρ r r') : Den ρ (.el r sz i k) (.el r' sz i k)
 | place {r r'} (h : RootR ρ r r') : Den ρ (.place r) (.place r')
 | agg {cs cs'} (h : Pw (Den ρ) cs cs') : Den ρ (.agg cs) (.agg cs')
 | tuple {cs cs'} (h : Pw (Den ρ) cs cs') : Den ρ (.tuple cs) (.tuple cs')
 | func (f : Nat) {cs cs'} (h : Pw (Den ρ) cs cs') : Den ρ (.func f cs) (.func f cs')
section pw
variable {α β γ : Type} {R : α → β → Prop}
theorem Pw.length {l : List α} {l' : List β} (h : Pw R l l') : l.length = l'.length := by
 induction h with
 | nil => rfl
 | cons _ _ ih => simp [ih]
theorem Pw.get {l : List α} {l' : List β} (h : Pw R l l') : ∀ {i : Nat} {x : α}, l[i]? = some x → ∃ y, l'[i]? = some y ∧ R x y := by
 induction h with
 | nil => intro i x hx; simp at hx
 | cons hr _ ih =>
  intro i x hx
  cases i with
  | zero => simp only [List.getElem?_cons_zero, Option.some.injEq] at hx; subst hx; exact ⟨_, rfl, hr⟩
  | succ i => simp only [List.getElem?_cons_succ] at hx; exact ih hx
theorem Pw.append {l m : List α} {l' m' : List β} (h : Pw R l l') (g : Pw R m m') : Pw R (l ++ m) (l' ++ m') := by
 induction h with
 | nil => exact g
 | cons hr _ ih => exact .cons hr ih
theorem Pw.drop {l : List α} {l' : List β} (h : Pw R l l') : ∀ n, Pw R (l.drop n) (l'.drop n) := by
 induction h with
 | nil => intro n; simpa using Pw.nil
 | cons hr t ih =>
  intro n
  cases n with
  | zero => exact .cons hr t
  | succ n => exact ih n
theorem Pw.take {l : List α} {l' : List β} (h : Pw R l l') : ∀ n, Pw R (l.take n) (l'.take n) := by
 induction h with
 | nil => intro n; simpa using Pw.nil
 | cons hr t ih =>
  intro n
  cases n with
  | zero => exact .nil
  | succ n => exact .cons hr (ih n)
theorem Pw.set {l : List α} {l' : List β} (h : Pw R l l') {x : α} {y : β} (hxy : R x y) : ∀ n, Pw R (l.set n x) (l'.set n y) := by
 induction h with
 | nil => intro n; simpa using Pw.nil
 | cons hr t ih =>
  intro n
  cases n with
  | zero => exact .cons hxy t
  | succ n => exact .cons hr (ih n)
theorem Pw.mono {R' : α → β → Prop} (hm : ∀ x y, R x y → R' x y) {l : List α} {l' : List β} (h : Pw R l l') : Pw R' l l' := by
 induction h with
 | nil => exact .nil
 | cons hr _ ih => exact .cons (hm _ _ hr) ih
theorem Pw.maps {α' β' : Type} {R' : α' → β' → Prop} {f : α → α'} {g : β → β'} (hm : ∀ x y, R x y → R' (f x) (g y)) {l : List α} {l' : List β} (h : Pw R l l') : Pw R' (l.map f) (l'.map g) := by
 induction h with
 | nil => exact .nil
 | cons hr _ ih => exact .cons (hm _ _ hr) ih
theorem Pw.replicate {x : α} {y : β} (h : R x y) : ∀ n, Pw R (List.replicate n x) (List.replicate n y)
 | 0 => .nil
 | n + 1 => .cons h (Pw.replicate h n)
theorem Pw.all {p : α → Bool} {q : β → Bool} (hm : ∀ x y, R x y → p x = true → q y = true) {l : List α} {l' : List β} (h : Pw R l l') (ha : l.all p = true) : l'.all q = true := by
 induction h with
 | nil => rfl
 | cons hr _ ih =>
  simp only [List.all_cons, Bool.and_eq_true] at ha ⊢
  exact ⟨hm _ _ hr ha.1, ih ha.2⟩
theorem Pw.any {p : α → Bool} {q : β → Bool} (hm : ∀ x y, R x y → p x = false → q y = false) {l : List α} {l' : List β} (h : Pw R l l') (ha : l.any p = false) : l'.any q = false := by
 induction h with
 | nil => rfl
 | cons hr _ ih =>
  simp only [List.any_cons, Bool.or_eq_false_iff] at ha ⊢
  exact ⟨hm _ _ hr ha.1, ih ha.2⟩
end pw
theorem Den.mono {ρ : List Nat} (e : List Nat) {t : TV} {v : V} (h : Den ρ t v) : Den (ρ ++ e) t v := by
 have key : ∀ {i b : Nat}, ρ[i]? = some b → (ρ ++ e)[i]? = some b := fun {i b} h => by
  rw [List.getElem?_append_left (zai h)]; exact h
 have rt : ∀ {r r'}, RootR ρ r r' → RootR (ρ ++ e) r r' := fun h => by
  cases h with
  | mem o h => exact .mem o (key h)
  | loc j o => exact .loc j o
  | tmp s => exact .tmp s
 refine Den.rec (motive_1 := fun t v _ => Den (ρ ++ e) t v) (motive_2 := fun l l' _ => Pw (Den (ρ ++ e)) l l') ?_ ?_ ?_ ?_ ?_ ?_ ?_ ?_ ?_ ?_ ?_ h
 ·intro t v h; exact .base h
 ·intro i b o h; exact .ptr o (key h)
 ·intro j o; exact .loc j o
 ·intro cs cs' o _ h; exact .ro o h
 ·intro r r' sz i k h; exact .el sz i k (rt h)
 ·intro r r' h; exact .place (rt h)
 ·intro cs cs' _ h; exact .agg h
 ·intro cs cs' _ h; exact .tuple h
 ·intro f cs cs' _ h; exact .func f h
 ·exact .nil
 ·intro a b l l' _ _ h1 h2; exact .cons h1 h2
section tv
def TV.cells : TV → List TV
 | .agg cs => cs
 | v => [v]
def TV.own0 : TV → Bool
 | .sl true _ _ => true
 | .undef => true
 | _ => false
def TV.own1 : TV → Bool
 | .agg cs => cs.any TV.own0
 | v => v.own0
def TV.hasOwn : TV → Bool
 | .tuple vs => vs.any TV.own1
 | v => v.own1
def TV.share0 : TV → TV
 | .sl _ sz xs => .sl false sz xs
 | v => v
def TV.share : TV → TV
 | .agg cs => .agg (cs.map TV.share0)
 | v => v.share0
def TV.good : TV → Bool
 | .bool _ | .int _ _ | .str _ | .nilp | .nils | .sl false _ _ | .nilf | .nili => true
 | .func _ cs => cs.isEmpty
 | _ => false
def TV.left : TV → TV
 | .sl true _ _ => .undef
 | v => v
def TV.low0 : TV → Bool
 | .bool _ | .int _ _ | .str _ | .nilp | .nils | .sl _ _ _ | .nilf | .nili => true
 | .func _ cs => cs.isEmpty
 | _ => false
def TV.low1 : TV → Bool
 | .agg cs => cs.all TV.low0
 | v => v.low0
def TV.low2 : TV → Bool
 | .tuple vs => vs.all TV.low1
 | v => v.low1
def zhe : TV → Bool
 | .ptr _ _ => true
 | _ => false
def TV.ok0 : TV → Bool
 | .bool _ | .int _ _ | .str _ | .nilp | .ptr _ _ | .nils | .sl _ _ _ | .nilf | .nili => true
 | .func _ cs => cs.all zhe
 | _ => false
def TV.ok1 : TV → Bool
 | .agg cs => cs.all TV.ok0
 | v => v.ok0
def TV.okArg : TV → Bool
 | .agg cs => cs.all TV.ok0
 | .place (.mem _ _) | .el (.mem _ _) _ _ _ => true
 | v => v.ok0
def zkR (lean : Bool) : TV → Bool
 | .place (.tmp _) | .el (.tmp _) _ _ _ => false
 | .place _ | .el _ _ _ _ => !lean
 | .undef => false
 | _ => true
def killV : TV → TV
 | .place (.mem _ _) | .place (.loc _ _) | .el (.mem _ _) _ _ _ | .el (.loc _ _) _ _ _ => .undef
 | v => v
def killLocV : TV → TV
 | .place (.loc _ _) | .el (.loc _ _) _ _ _ => .undef
 | v => v
def killAtV (off n : Nat) : TV → TV
 | .place (.mem b o) => bif Nat.ble off o && Nat.ble (o + 1) (off + n) then .undef else .place (.mem b o)
 | .el (.mem b o) z i k => bif Nat.ble off o && Nat.ble (o + 1) (off + n) then .undef else .el (.mem b o) z i k
 | v => v
def killMV : TV → TV
 | .place (.mem _ _) | .el (.mem _ _) _ _ _ => .undef
 | v => v
def killTV (d : Nat) : TV → TV
 | .place (.tmp s) => bif Nat.beq s d then .undef else .place (.tmp s)
 | .el (.tmp s) z i k => bif Nat.beq s d then .undef else .el (.tmp s) z i k
 | v => v
def killLV (j : Nat) : TV → TV
 | .loc j' o => bif Nat.beq j' j then .undef else .loc j' o
 | .place (.loc j' o) => bif Nat.beq j' j then .undef else .place (.loc j' o)
 | .el (.loc j' o) z i k => bif Nat.beq j' j then .undef else .el (.loc j' o) z i k
 | v => v
def zfW (d : Option Nat) : TV → Bool
 | .place (.tmp s) => d == some s
 | .el (.tmp s) _ _ _ => d == some s
 | _ => false
variable {ρ : List Nat} {t : TV} {v : V}
theorem Den.undef' (v : V) : Den ρ .undef v := .base (.undef v)
theorem Den.cells (h : Den ρ t v) (ho : t.ok1 = true) : Pw (Den ρ) t.cells v.cells := by
 cases h with
 | agg h => exact h
 | base h0 =>
  have hh := Den.base (ρ := ρ) h0
  cases h0 with
  | undef v => cases ho
  | _ => exact .cons hh .nil
 | ptr o h => exact .cons (.ptr o h) .nil
 | loc j o => exact .cons (.loc j o) .nil
 | ro o h => exact .cons (.ro o h) .nil
 | el sz i k h => exact .cons (.el sz i k h) .nil
 | place h => exact .cons (.place h) .nil
 | tuple h => exact .cons (.tuple h) .nil
 | func f h => exact .cons (.func f h) .nil
theorem Den.own0 (h : Den ρ t v) (ho : t.own0 = false) : v.own0 = false := by
 cases h with
 | base h0 =>
  cases h0 with
  | undef v => cases ho
  | sl own sz _ => cases own <;> first | rfl | cases ho
  | _ => rfl
 | _ => rfl
theorem Den.own1 (h : Den ρ t v) (ho : t.own1 = false) : v.own1 = false := by
 cases h with
 | agg h => exact Pw.any (p := TV.own0) (q := V.own0) (fun _ _ h ho => Den.own0 h ho) h ho
 | base h0 =>
  cases h0 with
  | undef v => cases ho
  | sl own sz _ => cases own <;> first | rfl | cases ho
  | _ => rfl
 | _ => rfl
theorem Den.hasOwn (h : Den ρ t v) (ho : t.hasOwn = false) : v.hasOwn = false := by
 cases h with
 | tuple h => exact Pw.any (p := TV.own1) (q := V.own1) (fun _ _ h ho => Den.own1 h ho) h ho
 | agg h => exact (Den.agg h).own1 ho
 | base h0 =>
  cases h0 with
  | undef v => cases ho
  | sl own sz _ => cases own <;> first | rfl | cases ho
  | _ => rfl
 | _ => rfl
theorem Den.share0 (h : Den ρ t v) : Den ρ t.share0 v.share0 := by
 cases h with
 | base h0 =>
  cases h0 with
  | undef v => exact .undef' _
  | sl own sz h => exact .base (.sl false sz h)
  | sln own sz => exact .base (.sln false sz)
  | bool b => exact .base (.bool b)
  | int k n => exact .base (.int k n)
  | str s => exact .base (.str s)
  | nilp => exact .base .nilp
  | nils => exact .base .nils
  | func f => exact .base (.func f)
  | nilf => exact .base .nilf
  | nili => exact .base .nili
 | ptr o h => exact .ptr o h
 | loc j o => exact .loc j o
 | ro o h => exact .ro o h
 | el sz i k h => exact .el sz i k h
 | place h => exact .place h
 | tuple h => exact .tuple h
 | func f h => exact .func f h
 | agg h => exact .agg h
theorem Den.share (h : Den ρ t v) : Den ρ t.share v.share := by
 cases h with
 | agg h => exact .agg (Pw.maps (f := TV.share0) (g := V.share0) (fun _ _ h => Den.share0 h) h)
 | base h0 =>
  cases h0 with
  | undef v => exact .undef' _
  | sl own sz h => exact .base (.sl false sz h)
  | sln own sz => exact .base (.sln false sz)
  | bool b => exact .base (.bool b)
  | int k n => exact .base (.int k n)
  | str s => exact .base (.str s)
  | nilp => exact .base .nilp
  | nils => exact .base .nils
  | func f => exact .base (.func f)
  | nilf => exact .base .nilf
  | nili => exact .base .nili
 | ptr o h => exact .ptr o h
 | loc j o => exact .loc j o
 | ro o h => exact .ro o h
 | el sz i k h => exact .el sz i k h
 | place h => exact .place h
 | tuple h => exact .tuple h
 | func f h => exact .func f h
theorem Den.left (h : Den ρ t v) : Den ρ t.left v.left := by
 cases h with
 | base h0 =>
  cases h0 with
  | undef v => exact .undef' _
  | sl own sz h => cases own with
   | true => exact .undef' _
   | false => exact .base (.sl false sz h)
  | sln own sz => cases own with
   | true => exact .undef' _
   | false => exact .base (.sln false sz)
  | bool b => exact .base (.bool b)
  | int k n => exact .base (.int k n)
  | str s => exact .base (.str s)
  | nilp => exact .base .nilp
  | nils => exact .base .nils
  | func f => exact .base (.func f)
  | nilf => exact .base .nilf
  | nili => exact .base .nili
 | ptr o h => exact .ptr o h
 | loc j o => exact .loc j o
 | ro o h => exact .ro o h
 | el sz i k h => exact .el sz i k h
 | place h => exact .place h
 | tuple h => exact .tuple h
 | func f h => exact .func f h
 | agg h => exact .agg h
theorem Den0.good (h : Den0 t v) (hg : t.good = true) : v.good = true := by
 cases h with
 | undef v => cases hg
 | sl own sz _ => cases own <;> first | rfl | cases hg
 | func f => rfl
 | _ => rfl
theorem Den.good (h : Den ρ t v) (hg : t.good = true) : Den0 t v ∧ v.good = true := by
 cases h with
 | base h0 => exact ⟨h0, h0.good hg⟩
 | func f h =>
  cases h with
  | nil => exact ⟨.func f, rfl⟩
  | cons _ _ => cases hg
 | _ => cases hg
theorem Den.okCap (h : Den ρ t v) (hg : zhe t = true) : Am.okCap v = true := by
 cases h with
 | base h0 => cases h0 <;> cases hg
 | ptr o h => rfl
 | _ => cases hg
theorem Den.ok0 (h : Den ρ t v) (hg : t.ok0 = true) : v.ok0 = true := by
 cases h with
 | base h0 => cases h0 <;> first | rfl | cases hg
 | ptr o h => rfl
 | func f h => exact Pw.all (p := zhe) (q := Am.okCap) (fun _ _ h ho => Den.okCap h ho) h hg
 | _ => cases hg
theorem Den.ok1 (h : Den ρ t v) (hg : t.ok1 = true) : v.ok1 = true := by
 cases h with
 | base h0 => cases h0 <;> first | rfl | cases hg
 | ptr o h => rfl
 | func f h => exact Pw.all (p := zhe) (q := Am.okCap) (fun _ _ h ho => Den.okCap h ho) h hg
 | agg h => exact Pw.all (p := TV.ok0) (q := V.ok0) (fun _ _ h ho => Den.ok0 h ho) h hg
 | _ => cases hg
theorem Den.okArg (h : Den ρ t v) (hg : t.okArg = true) : v.okArg = true := by
 cases h with
 | base h0 => cases h0 <;> first | rfl | cases hg
 | ptr o h => rfl
 | func f h => exact Pw.all (p := zhe) (q := Am.okCap) (fun _ _ h ho => Den.okCap h ho) h hg
 | agg h => exact Pw.all (p := TV.ok0) (q := V.ok0) (fun _ _ h ho => Den.ok0 h ho) h hg
 | place h => cases h <;> first | rfl | cases hg
 | el sz i k h => cases h <;> first | rfl | cases hg
 | _ => cases hg
theorem Den.rootOk {lean : Bool} (h : Den ρ t v) (hg : zkR lean t = true) : Am.rootOk lean v = true := by
 cases h with
 | base h0 => cases h0 <;> first | rfl | cases hg
 | place h => cases h <;> first | exact hg | rfl
 | el sz i k h => cases h <;> first | exact hg | rfl
 | _ => rfl
theorem Den.killV (h : Den ρ t v) : Den ρ (T.killV t) (Am.killV v) := by
 cases h with
 | base h0 => cases h0 with
  | undef v => exact .undef' _
  | _ => exact .base (by constructor <;> assumption)
 | place h => cases h with
  | tmp s => exact .place (.tmp s)
  | _ => exact .undef' _
 | el sz i k h => cases h with
  | tmp s => exact .el _ _ _ (.tmp s)
  | _ => exact .undef' _
 | ptr o h => exact .ptr o h
 | loc j o => exact .loc j o
 | ro o h => exact .ro o h
 | tuple h => exact .tuple h
 | func f h => exact .func f h
 | agg h => exact .agg h
theorem Den.killMV (h : Den ρ t v) : Den ρ (T.killMV t) (Am.killMV v) := by
 cases h with
 | base h0 => cases h0 with
  | undef v => exact .undef' _
  | _ => exact .base (by constructor <;> assumption)
 | place h => cases h with
  | tmp s => exact .place (.tmp s)
  | loc j o => exact .place (.loc j o)
  | mem o h => exact .undef' _
 | el sz i k h => cases h with
  | tmp s => exact .el _ _ _ (.tmp s)
  | loc j o => exact .el _ _ _ (.loc j o)
  | mem o h => exact .undef' _
 | ptr o h => exact .ptr o h
 | loc j o => exact .loc j o
 | ro o h => exact .ro o h
 | tuple h => exact .tuple h
 | func f h => exact .func f h
 | agg h => exact .agg h
theorem Den.killLocV (h : Den ρ t v) : Den ρ (T.killLocV t) (Am.killLocV v) := by
 cases h with
 | base h0 => cases h0 with
  | undef v => exact .undef' _
  | _ => exact .base (by constructor <;> assumption)
 | place h => cases h with
  | tmp s => exact .place (.tmp s)
  | mem o h => exact .place (.mem o h)
  | loc j o => exact .undef' _
 | el sz i k h => cases h with
  | tmp s => exact .el _ _ _ (.tmp s)
  | mem o h => exact .el _ _ _ (.mem o h)
  | loc j o => exact .undef' _
 | ptr o h => exact .ptr o h
 | loc j o => exact .loc j o
 | ro o h => exact .ro o h
 | tuple h => exact .tuple h
 | func f h => exact .func f h
 | agg h => exact .agg h
theorem zoA {α : Type} {off n o : Nat} {x y : α} : (bif Nat.ble off o && Nat.ble (o + 1) (off + n) then x else y) = if off ≤ o ∧ o < off + n then x else y := by
 by_cases h : off ≤ o ∧ o < off + n
 ·rw [if_pos h, Nat.ble_eq_true_of_le h.1, Nat.ble_eq_true_of_le (show o + 1 ≤ off + n from h.2)]; rfl
 ·rw [if_neg h]
  cases h1 : Nat.ble off o with
  | false => rfl
  | true =>
   cases h2 : Nat.ble (o + 1) (off + n) with
   | false => rfl
   | true => exact absurd ⟨Nat.le_of_ble_eq_true h1, Nat.le_of_ble_eq_true h2⟩ h
theorem Den.killAtV (off n : Nat) (h : Den ρ t v) : Den ρ (T.killAtV off n t) (Am.killAtV off n v) := by
 cases h with
 | base h0 => cases h0 with
  | undef v => exact .undef' _
  | _ => exact .base (by constructor <;> assumption)
 | place h => cases h with
  | tmp s => exact .place (.tmp s)
  | mem o h =>
   simp only [T.killAtV, Am.killAtV, zoA]
   split
   ·exact .undef' _
   ·exact .place (.mem o h)
  | loc j o => exact .place (.loc j o)
 | el sz i k h => cases h with
  | tmp s => exact .el _ _ _ (.tmp s)
  | mem o h =>
   simp only [T.killAtV, Am.killAtV, zoA]
   split
   ·exact .undef' _
   ·exact .el _ _ _ (.mem o h)
  | loc j o => exact .el _ _ _ (.loc j o)
 | ptr o h => exact .ptr o h
 | loc j o => exact .loc j o
 | ro o h => exact .ro o h
 | tuple h => exact .tuple h
 | func f h => exact .func f h
 | agg h => exact .agg h
theorem zjM {α : Type} {a b : Nat} {x y : α} : (bif Nat.beq a b then x else y) = if a = b then x else y := by
 by_cases h : a = b
 ·subst h; simp
 ·have : Nat.beq a b = false := by
   cases hb : Nat.beq a b with
   | false => rfl
   | true => exact absurd (Nat.eq_of_beq_eq_true hb) h
  simp [h, this]
theorem Den.killTV (d : Nat) (h : Den ρ t v) : Den ρ (T.killTV d t) (Am.killTV d v) := by
 cases h with
 | base h0 => cases h0 with
  | undef v => exact .undef' _
  | _ => exact .base (by constructor <;> assumption)
 | place h => cases h with
  | tmp s =>
   show Den ρ (bif Nat.beq s d then .undef else .place (.tmp s)) (if s = d then .undef else .place (.tmp s))
   rw [zjM]; split
   ·exact .undef' _
   ·exact .place (.tmp s)
  | loc j o => exact .place (.loc j o)
  | mem o h => exact .place (.mem o h)
 | el sz i k h => cases h with
  | tmp s =>
   show Den ρ (bif Nat.beq s d then .undef else .el (.tmp s) sz i k) (if s = d then .undef else .el (.tmp s) sz i k)
   rw [zjM]; split
   ·exact .undef' _
   ·exact .el _ _ _ (.tmp s)
  | loc j o => exact .el _ _ _ (.loc j o)
  | mem o h => exact .el _ _ _ (.mem o h)
 | ptr o h => exact .ptr o h
 | loc j o => exact .loc j o
 | ro o h => exact .ro o h
 | tuple h => exact .tuple h
 | func f h => exact .func f h
 | agg h => exact .agg h
theorem Den.killLV (d : Nat) (h : Den ρ t v) : Den ρ (T.killLV d t) (Am.killLV d v) := by
 cases h with
 | base h0 => cases h0 with
  | undef v => exact .undef' _
  | _ => exact .base (by constructor <;> assumption)
 | place h => cases h with
  | loc j o =>
   show Den ρ (bif Nat.beq j d then .undef else .place (.loc j o)) (if j = d then .undef else .place (.loc j o))
   rw [zjM]; split
   ·exact .undef' _
   ·exact .place (.loc j o)
  | tmp s => exact .place (.tmp s)
  | mem o h => exact .place (.mem o h)
 | el sz i k h => cases h with
  | loc j o =>
   show Den ρ (bif Nat.beq j d then .undef else .el (.loc j o) sz i k) (if j = d then .undef else .el (.loc j o) sz i k)
   rw [zjM]; split
   ·exact .undef' _
   ·exact .el _ _ _ (.loc j o)
  | tmp s => exact .el _ _ _ (.tmp s)
  | mem o h => exact .el _ _ _ (.mem o h)
 | ptr o h => exact .ptr o h
 | loc j o =>
  show Den ρ (bif Nat.beq j d then .undef else .loc j o) (if j = d then .undef else .loc j o)
  rw [zjM]; split
  ·exact .undef' _
  ·exact .loc j o
 | ro o h => exact .ro o h
 | tuple h => exact .tuple h
 | func f h => exact .func f h
 | agg h => exact .agg h
theorem Den.selfPlace {d : Option Nat} (h : Den ρ t v) (hu : t ≠ .undef) (hg : zfW d t = false) : Am.selfPlace d v = false := by
 cases h with
 | base h0 => cases h0 <;> first | rfl | exact absurd rfl hu
 | place h => cases h <;> first | exact hg | rfl
 | el sz i k h => cases h <;> first | exact hg | rfl
 | _ => rfl
theorem Den0.low (h : Den0 t v) (hg : t.low0 = true) : v.top = 0 := by
 cases h <;> first | rfl | cases hg
theorem Den.low (h : Den ρ t v) (hg : t.low0 = true) : v.top = 0 := by
 cases h with
 | base h0 => exact h0.low hg
 | func f h => cases h with
  | nil => rfl
  | cons _ _ => cases hg
 | _ => cases hg
theorem zgy {cs : List TV} {cs' : List V} (h : Pw (Den ρ) cs cs') (hg : cs.all TV.low0 = true) : tops cs' = 0 := by
 induction h with
 | nil => rfl
 | cons hr _ ih =>
  simp only [List.all_cons, Bool.and_eq_true] at hg
  have e1 := hr.low hg.1
  have e2 := ih hg.2
  unfold tops at e2 ⊢
  simp only [List.foldr_cons, e1, e2]; rfl
theorem Den.low1 (h : Den ρ t v) (hg : t.low1 = true) : v.top1 = 0 := by
 cases h with
 | base h0 => cases h0 <;> first | rfl | cases hg
 | func f h => cases h with
  | nil => rfl
  | cons _ _ => cases hg
 | agg h => exact zgy h hg
 | _ => cases hg
theorem Den.low2 (h : Den ρ t v) (hg : t.low2 = true) : v.top2 = 0 := by
 cases h with
 | base h0 => cases h0 <;> first | rfl | cases hg
 | func f h => cases h with
  | nil => rfl
  | cons _ _ => cases hg
 | agg h => exact zgy h hg
 | tuple h =>
  show List.foldr (fun (v : V) (n : Nat) => max v.top1 n) 0 _ = 0
  have hg' : List.all _ TV.low1 = true := hg
  clear hg
  induction h with
  | nil => rfl
  | cons hr _ ih =>
   simp only [List.all_cons, Bool.and_eq_true] at hg'
   simp only [List.foldr_cons, hr.low1 hg'.1, ih hg'.2]; rfl
 | _ => cases hg
theorem Den.bool_inv {b : Bool} (h : Den ρ (.bool b) v) : v = .bool b := by
 cases h with
 | base h0 => cases h0; rfl
theorem Den.int_inv {k : IntKind} {n : Int} (h : Den ρ (.int k n) v) : v = .int k n := by
 cases h with
 | base h0 => cases h0; rfl
theorem Den.str_inv {s : List Int} (h : Den ρ (.str s) v) : ∃ b : List UInt8, v = .str b ∧ s = b.map zd9 := by
 cases h with
 | base h0 => cases h0 with
  | str b => exact ⟨b, rfl, rfl⟩
theorem Den.agg_inv {cs : List TV} (h : Den ρ (.agg cs) v) : ∃ cs', v = .agg cs' ∧ Pw (Den ρ) cs cs' := by
 cases h with
 | base h0 => cases h0
 | agg h => exact ⟨_, rfl, h⟩
theorem Den.tuple_inv {cs : List TV} (h : Den ρ (.tuple cs) v) : ∃ cs', v = .tuple cs' ∧ Pw (Den ρ) cs cs' := by
 cases h with
 | base h0 => cases h0
 | tuple h => exact ⟨_, rfl, h⟩
theorem Den.ptr_inv {i o : Nat} (h : Den ρ (.ptr i o) v) : ∃ b, v = .ptr b o ∧ ρ[i]? = some b := by
 cases h with
 | base h0 => cases h0
 | ptr o h => exact ⟨_, rfl, h⟩
theorem Den.loc_inv {i o : Nat} (h : Den ρ (.loc i o) v) : v = .loc i o := by
 cases h with
 | base h0 => cases h0
 | loc j o => rfl
theorem Den.ro_inv {cs : List TV} {o : Nat} (h : Den ρ (.ro cs o) v) : ∃ cs', v = .ro cs' o ∧ Pw (Den ρ) cs cs' := by
 cases h with
 | base h0 => cases h0
 | ro o h => exact ⟨_, rfl, h⟩
theorem Den.el_inv {r : Root} {sz i k : Nat} (h : Den ρ (.el r sz i k) v) : ∃ r', v = .el r' sz i k ∧ RootR ρ r r' := by
 cases h with
 | base h0 => cases h0
 | el sz i k h => exact ⟨_, rfl, h⟩
theorem Den.place_inv {r : Root} (h : Den ρ (.place r) v) : ∃ r', v = .place r' ∧ RootR ρ r r' := by
 cases h with
 | base h0 => cases h0
 | place h => exact ⟨_, rfl, h⟩
theorem Den.func_inv {f : Nat} {cs : List TV} (h : Den ρ (.func f cs) v) : ∃ cs', v = .func f cs' ∧ Pw (Den ρ) cs cs' := by
 cases h with
 | base h0 => cases h0 with
  | func f => exact ⟨_, rfl, .nil⟩
 | func f h => exact ⟨_, rfl, h⟩
theorem Den.nils_inv (h : Den ρ .nils v) : v = .nils := by
 cases h with
 | base h0 => cases h0; rfl
theorem Den.nilp_inv (h : Den ρ .nilp v) : v = .nilp := by
 cases h with
 | base h0 => cases h0; rfl
theorem Den.nilf_inv (h : Den ρ .nilf v) : v = .nilf := by
 cases h with
 | base h0 => cases h0; rfl
theorem Den.sl_inv {own : Bool} {sz : Nat} {xs : List (List TV)} (h : Den ρ (.sl own sz xs) v) : (∃ ys, v = .slice own sz ys ∧ Pw (Pw Den0) xs ys) ∨ (v = .nils ∧ xs = []) := by
 cases h with
 | base h0 => cases h0 with
  | sl own sz h => exact .inl ⟨_, rfl, h⟩
  | sln own sz => exact .inr ⟨rfl, rfl⟩
theorem Pw.base {cs : List TV} {cs' : List V} (h : Pw Den0 cs cs') : Pw (Den ρ) cs cs' := h.mono fun _ _ h => .base h
end tv
end Go.Proofs.YtakdnfneikbjjaaGreatDoor.Am.T
