/-
A part of the proof of a law: ly code, ly uint, ly good a, am fits, am row, ly laid, tw val, tw wp, tw s, tw o.
-/
import Derived.Test.YtakdnfneikbjjaaGreatDoorAmLayoutReadsRow3
import Derived.WalkKit
import Derived.BigCall
import Derived.BigGuard
import Derived.Lib.ParseIntBTie
import Derived.Shelf.Strconv.ParseUint10At
import Derived.ChangeReads
import Derived.ChangeArms
import Derived.Carry
import Derived.OpenShut
import Derived.ChangeSame
import Derived.RowKit
import Derived.Test.YtakdnfneikbjjaaGreatDoorRows
import Derived.LaidSub
import Derived.LaidLaws
namespace Go.Proofs.YtakdnfneikbjjaaGreatDoor.Am.Lay10
abbrev a58 : AFunc := LayA.a58
abbrev a34 : AFunc := LayA.a34
abbrev a15 : AFunc := LayA.a15
abbrev a55 : AFunc := LayA.a55
abbrev a25 : AFunc := LayA.a25
abbrev a60 : AFunc := LayA.a60
abbrev a28 : AFunc := LayA.a28
abbrev a36 : AFunc := LayA.a36
abbrev a57 : AFunc := LayA.a57
abbrev a80 : AFunc := LayA.a80
abbrev v80 : List Nat := LayA.v80
abbrev a56 : AFunc := LayA.a56
abbrev a59 : AFunc := LayA.a59
abbrev a27 : AFunc := LayA.a27
abbrev a81 : AFunc := LayA.a81
abbrev a35 : AFunc := LayA.a35
abbrev a62 : AFunc := LayA.a62
abbrev a37 : AFunc := LayA.a37
abbrev v37 : List Nat := LayA.v37
abbrev a13 : AFunc := LayA.a13
abbrev a26 : AFunc := LayA.a26
def p7 : Plan := ⟨[], 4, [((0, 0), hB 0),
 ((1, 0), hP),
 ((4, 1), hB 1),
 ((4, 2), hT 17),
 ((8, 1), hA),
 ((8, 3), hS 25),
 ((8, 4), hT2 24 26),
 ((8, 6), hT 27),
 ((9, 0), hA),
 ((9, 2), hS 29),
 ((9, 3), hS 31),
 ((10, 1), hP),
 ((16, 3), hB 2),
 ((17, 1), hB 3),
 ((19, 12), hP),
 ((21, 8), hP)],
 [[0, 3, 5, 6], [0, 3, 8, 45, 46, 47]]⟩
def a7 : AFunc := ⟨2, 114, 4, [.tmp 4],
 .seq (.region false [o_ 3 (.boxL 0 (.t 1)),
 o_ 4 (.mv (.c (.bool false)))])
 (.seq (.seq (.region false [o_ 12 (.callP 11 []),
 o_ 13 (.un .not (.t 12))])
 (.cond (.t 13)
 (.seq (.region false [o_ 4 (.mv (.c (.bool false)))])
 (.ret))
 (.skip)))
 (.seq (.region false [m_ 14 0,
 c_ 15 .and 14 15,
 o_ 16 (.bin .add (.c (.int .i64 1)) (.t 15)),
 m_ 0 16])
 (.seq (.region false [o_ 17 (.build [(.int .i64 0), (.int .i64 0), (.int .i64 0), (.str []), .nils, .nils] [(0, 1, (.c (.int .i64 4)))]),
 o_ 5 (.allocL 1 [(.int .i64 0), (.int .i64 0), (.int .i64 0), (.str []), .nils, .nils]),
 ⟨none, none, false, .store 6 (.t 5) (.u 17 .take), .none⟩])
 (.seq (.seq (.region false [i_ 6 0])
 (.block 0 (.loop [0, 3, 5, 6] (.seq (.seq (.region false [m_ 18 6,
 m_ 19 0,
 b_ 20 .lss 18 19])
 (.cond (.t 20)
 (.skip)
 (.exit 0)))
 (.seq (.block 1 (.region false [f_ 23 4 5,
 o_ 24 (.load false 1 (.t 23) .take),
 o_ 25 (.build [(.int .i64 0), (.int .i64 0), (.int .i64 0), (.str []), .nils, .nils] [(0, 1, (.c (.int .i64 1)))]),
 o_ 26 (.buildSlice 6 [(.int .i64 0), (.int .i64 0), (.int .i64 0), (.str []), .nils, .nils] 1 [(0, (.u 25 .share))]),
 o_ 27 (.append 6 (.u 24 .take) (.u 26 .take)),
 f_ 28 4 5,
 ⟨none, none, false, .store 1 (.t 28) (.u 27 .take), .none⟩]))
 (.region false [m_ 21 6,
 c_ 22 .add 21 1,
 m_ 6 22]))))))
 (.seq (.region false [o_ 29 (.load true 6 (.t 5) .take),
 o_ 30 (.load true 4 (.t 3) .copy),
 o_ 31 (.callF 13 [(.u 29 .share), (.t 30)]),
 o_ 7 (.mv (.u 31 .share))])
 (.seq (.region false [o_ 32 (.load true 4 (.t 3) .copy),
 o_ 33 (.callP 25 [(.t 32)]),
 ⟨none, none, false, .store 4 (.t 3) (.t 33), .none⟩])
 (.seq (.seq (.region false [m_ 34 7,
 o_ 35 (.lenSl (.t 34)),
 m_ 36 0,
 b_ 37 .neq 35 36])
 (.cond (.t 37)
 (.seq (.region false [o_ 4 (.mv (.c (.bool false)))])
 (.ret))
 (.skip)))
 (.seq (.region false [m_ 38 0,
 c_ 39 .sub 38 1,
 f_ 40 3 3,
 l_ 41 40,
 c_ 42 .sub 41 1,
 o_ 43 (.minMax true (.t 42) [(.c (.int .i64 0))]),
 o_ 44 (.minMax false (.t 39) [(.t 43)]),
 m_ 8 44])
 (.seq (.seq (.region false [m_ 45 7,
 o_ 46 (.lenSl (.t 45)),
 i_ 47 0])
 (.block 2 (.loop [0, 3, 8, 45, 46, 47] (.seq (.region false [b_ 48 .lss 47 46])
 (.seq (.cond (.t 48)
 (.skip)
 (.exit 2))
 (.seq (.block 3 (.seq (.region false [m_ 49 47,
 o_ 50 (.indexSl 7 (.t 45) (.t 47)),
 o_ 51 (.load true 7 (.t 50) .copy),
 o_ 10 (.allocL 2 [(.int .i64 0), (.int .i64 0), (.int .i64 0), (.int .i64 0), (.int .i64 0), (.int .i64 0), (.bool false)]),
 m_ 9 49,
 ⟨none, none, false, .store 7 (.t 10) (.t 51), .none⟩])
 (.seq (.region false [o_ 52 (.build [(.int .i64 0), (.int .i64 0), (.int .i64 0), (.int .i64 0)] []),
 o_ 11 (.allocL 3 [(.int .i64 0), (.int .i64 0), (.int .i64 0), (.int .i64 0)]),
 ⟨none, none, false, .store 4 (.t 11) (.t 52), .none⟩])
 (.seq (.block 4 (.seq (.region false [m_ 54 9,
 m_ 55 0,
 c_ 56 .sub 55 1,
 b_ 57 .eql 54 56,
 m_ 58 57,
 g_ 59 58 true (.fieldAddr 3 (.t 3)),
 g_ 60 58 true (.load false 1 (.t 59) .copy),
 g_ 61 58 true (.bin .gtr (.t 60) (.c (.int .i64 0))),
 o_ 62 (.pick (.t 58) (.t 61) (.c (.bool false))),
 m_ 53 62])
 (.cond (.t 53)
 (.region false [f_ 63 0 3,
 l_ 64 63,
 f_ 65 1 3,
 l_ 66 65,
 m_ 67 8,
 b_ 68 .add 66 67,
 f_ 69 2 3,
 l_ 70 69,
 f_ 71 3 3,
 l_ 72 71,
 m_ 73 8,
 b_ 74 .sub 72 73,
 o_ 75 (.callP 26 [(.t 64), (.t 68), (.t 70), (.t 74)]),
 ⟨none, none, false, .store 4 (.t 11) (.t 75), .none⟩])
 (.seq (.region false [m_ 77 9,
 m_ 78 8,
 b_ 79 .lss 77 78,
 m_ 76 79])
 (.cond (.t 76)
 (.region false [f_ 80 0 3,
 l_ 81 80,
 f_ 82 1 3,
 l_ 83 82,
 m_ 84 9,
 b_ 85 .add 83 84,
 f_ 86 2 3,
 l_ 87 86,
 o_ 88 (.callP 26 [(.t 81), (.t 85), (.t 87), (.c (.int .i64 1))]),
 ⟨none, none, false, .store 4 (.t 11) (.t 88), .none⟩])
 (.skip))))))
 (.seq (.region false [f_ 89 1 10,
 o_ 90 (.load true 4 (.t 89) .copy),
 o_ 91 (.load true 4 (.t 11) .copy),
 o_ 92 (.eq true (.plain [.int, .int, .int, .int]) (.t 90) (.t 91)),
 m_ 93 92,
 g_ 94 93 false (.fieldAddr 6 (.t 10)),
 g_ 95 93 false (.load false 1 (.t 94) .copy),
 g_ 96 93 false (.mv (.t 9)),
 g_ 97 93 false (.mv (.t 0)),
 g_ 98 93 false (.bin .sub (.t 97) (.c (.int .i64 1))),
 g_ 99 93 false (.bin .lss (.t 96) (.t 98)),
 g_ 100 93 false (.eq true .bool (.t 95) (.t 99)),
 o_ 101 (.pick (.t 93) (.c (.bool true)) (.t 100)),
 m_ 102 101,
 g_ 103 102 false (.fieldAddr 0 (.t 10)),
 g_ 104 102 false (.load false 1 (.t 103) .copy),
 g_ 105 102 false (.mv (.t 9)),
 g_ 106 102 false (.bin .neq (.t 104) (.t 105)),
 o_ 107 (.pick (.t 102) (.c (.bool true)) (.t 106)),
 m_ 108 107,
 g_ 109 108 false (.fieldAddr 5 (.t 10)),
 g_ 110 108 false (.load false 1 (.t 109) .copy),
 g_ 111 108 false (.bin .neq (.t 110) (.c (.int .i64 0))),
 o_ 112 (.pick (.t 108) (.c (.bool true)) (.t 111))])
 (.cond (.t 112)
 (.seq (.region false [o_ 4 (.mv (.c (.bool false)))])
 (.ret))
 (.skip)))))))
 (.region false [c_ 113 .add 47 1,
 m_ 47 113])))))))
 (.seq (.region false [o_ 4 (.mv (.c (.bool true)))])
 (.ret)))))))))))⟩
theorem c7 : zat Go.Proofs.Tryz.prog p7 7 = some a7 := by decide +kernel
def p8 : Plan := ⟨[42], 4, [((25, 14), hM 3),
 ((25, 12), { mark := .cool, pure := true }),
 ((25, 11), hM 0),
 ((25, 10), { mark := (.fa 0) }),
 ((25, 9), hF),
 ((25, 8), { mark := .cool }),
 ((25, 7), { mark := .cool }),
 ((25, 6), { mark := .cool }),
 ((25, 5), hM 0),
 ((25, 4), { mark := (.fa 0) }),
 ((25, 3), { mark := .cool }),
 ((25, 2), { mark := .cool }),
 ((25, 1), hM 0),
 ((25, 0), { mark := (.fa 0) }),
 ((0, 0), hB 0),
 ((1, 0), hP),
 ((3, 2), hT 20),
 ((8, 2), hB 1),
 ((9, 1), hA),
 ((9, 4), hS 32),
 ((9, 5), hT2 30 33),
 ((9, 7), hT 34),
 ((11, 0), { mode := .share }),
 ((11, 1), hS 37),
 ((12, 2), hS 40),
 ((12, 3), hK 42),
 ((13, 2), hS 45),
 ((13, 3), hS 47),
 ((14, 1), hP),
 ((18, 2), hU 57),
 ((18, 6), hS 59),
 ((24, 3), hB 2),
 ((25, 13), hB 3),
 ((27, 12), hP)],
 [[0, 1, 5, 7, 23, 24, 25], [1, 5, 11, 12, 14, 81, 82, 83]]⟩
def a8 : AFunc := ⟨3, 129, 4, [.tmp 6],
 .seq (.region false [o_ 5 (.boxL 0 (.t 2)),
 o_ 6 (.mv (.c (.bool false)))])
 (.seq (.seq (.region false [o_ 18 (.callP 11 []),
 o_ 19 (.un .not (.t 18))])
 (.cond (.t 19)
 (.seq (.region false [o_ 6 (.mv (.c (.bool false)))])
 (.ret))
 (.skip)))
 (.seq (.region false [o_ 20 (.build [(.int .i64 0), (.int .i64 0), (.int .i64 0), (.str []), .nils, .nils] [(0, 1, (.c (.int .i64 2)))]),
 o_ 7 (.allocM [(.int .i64 0), (.int .i64 0), (.int .i64 0), (.str []), .nils, .nils]),
 ⟨none, none, false, .store 6 (.t 7) (.u 20 .take), .none⟩])
 (.seq (.seq (.region false [m_ 21 1])
 (.cond (.t 21)
 (.region false [f_ 22 0 7,
 ⟨none, none, false, .store 1 (.t 22) (.c (.int .i64 3)), .none⟩])
 (.skip)))
 (.seq (.seq (.region false [m_ 23 0,
 o_ 24 (.lenSl (.t 23)),
 i_ 25 0])
 (.block 0 (.loop [0, 1, 5, 7, 23, 24, 25] (.seq (.region false [b_ 26 .lss 25 24])
 (.seq (.cond (.t 26)
 (.skip)
 (.exit 0))
 (.seq (.block 1 (.seq (.region false [o_ 27 (.indexSl 2 (.t 23) (.t 25)),
 o_ 28 (.load true 2 (.t 27) .copy),
 o_ 9 (.allocL 1 [(.int .i64 0), (.int .i64 0)]),
 ⟨none, none, false, .store 2 (.t 9) (.t 28), .none⟩])
 (.region false [f_ 29 4 7,
 o_ 30 (.load false 1 (.t 29) .take),
 o_ 31 (.load true 2 (.t 9) .copy),
 o_ 32 (.build [(.int .i64 0), (.int .i64 0), (.int .i64 0), (.str []), .nils, .nils] [(0, 1, (.c (.int .i64 1))), (1, 2, (.t 31))]),
 o_ 33 (.buildSlice 6 [(.int .i64 0), (.int .i64 0), (.int .i64 0), (.str []), .nils, .nils] 1 [(0, (.u 32 .share))]),
 o_ 34 (.append 6 (.u 30 .take) (.u 33 .take)),
 f_ 35 4 7,
 ⟨none, none, false, .store 1 (.t 35) (.u 34 .take), .none⟩])))
 (.region false [c_ 36 .add 25 1,
 m_ 25 36])))))))
 (.seq (.seq (.region false [o_ 37 (.load true 6 (.t 7) .share),
 o_ 38 (.callF 15 [(.u 37 .share)]),
 c_ 39 .neq 38 0])
 (.cond (.t 39)
 (.seq (.region false [o_ 40 (.load true 6 (.t 7) .copy),
 o_ 41 (.load true 4 (.t 5) .copy),
 ⟨(some 42), none, true, .callF 13 [(.u 40 .share), (.t 41)], .none⟩,
 o_ 43 (.lenSl (.u 42 .peek)),
 c_ 44 .eql 43 0,
 m_ 6 44])
 (.ret))
 (.skip)))
 (.seq (.region false [o_ 45 (.load true 6 (.t 7) .copy),
 o_ 46 (.load true 4 (.t 5) .copy),
 o_ 47 (.callF 13 [(.u 45 .share), (.t 46)]),
 o_ 10 (.mv (.u 47 .share))])
 (.seq (.region false [o_ 48 (.load true 4 (.t 5) .copy),
 o_ 49 (.callP 25 [(.t 48)]),
 ⟨none, none, false, .store 4 (.t 5) (.t 49), .none⟩])
 (.seq (.region false [f_ 50 2 5,
 l_ 51 50,
 m_ 11 51])
 (.seq (.seq (.region false [m_ 52 1])
 (.cond (.t 52)
 (.region false [f_ 53 3 5,
 l_ 54 53,
 m_ 11 54])
 (.skip)))
 (.seq (.region false [m_ 56 11,
 m_ 57 0,
 o_ 58 (.callP 27 [(.t 56), (.u 57 .share)]),
 m_ 55 58,
 o_ 59 (.extract (.t 55) 0),
 o_ 60 (.extract (.t 55) 1),
 o_ 12 (.mv (.u 59 .share)),
 m_ 13 60])
 (.seq (.seq (.region false [m_ 61 10,
 o_ 62 (.lenSl (.t 61)),
 m_ 63 0,
 o_ 64 (.lenSl (.t 63)),
 b_ 65 .neq 62 64,
 m_ 66 65,
 g_ 67 66 false (.mv (.t 13)),
 g_ 68 66 false (.bin .neq (.t 67) (.c (.int .i64 0))),
 o_ 69 (.pick (.t 66) (.c (.bool true)) (.t 68))])
 (.cond (.t 69)
 (.seq (.region false [m_ 70 10,
 o_ 71 (.lenSl (.t 70)),
 m_ 72 0,
 o_ 73 (.lenSl (.t 72)),
 b_ 74 .eql 71 73,
 m_ 75 74,
 g_ 76 75 true (.mv (.t 11)),
 g_ 77 75 true (.mv (.t 0)),
 g_ 78 75 true (.lenSl (.t 77)),
 g_ 79 75 true (.bin .lss (.t 76) (.t 78)),
 o_ 80 (.pick (.t 75) (.t 79) (.c (.bool false))),
 m_ 6 80])
 (.ret))
 (.skip)))
 (.seq (.region false [i_ 14 0])
 (.seq (.seq (.region false [m_ 81 10,
 o_ 82 (.lenSl (.t 81)),
 i_ 83 0])
 (.block 2 (.loop [1, 5, 11, 12, 14, 81, 82, 83] (.seq (.region false [b_ 84 .lss 83 82])
 (.seq (.cond (.t 84)
 (.skip)
 (.exit 2))
 (.seq (.block 3 (.seq (.region false [m_ 85 83,
 o_ 86 (.indexSl 7 (.t 81) (.t 83)),
 o_ 87 (.load true 7 (.t 86) .copy),
 o_ 16 (.allocL 2 [(.int .i64 0), (.int .i64 0), (.int .i64 0), (.int .i64 0), (.int .i64 0), (.int .i64 0), (.bool false)]),
 m_ 15 85,
 ⟨none, none, false, .store 7 (.t 16) (.t 87), .none⟩])
 (.seq (.region true [⟨(some 88), none, false, .fieldAddr 0 (.t 5), (.fa 0)⟩,
 ⟨(some 89), none, false, .load false 1 (.t 88) .copy, (.loc 0)⟩,
 ⟨(some 90), none, false, .mv (.t 14), .cool⟩,
 ⟨(some 91), none, false, .bin .add (.t 89) (.t 90), .cool⟩,
 ⟨(some 92), none, false, .fieldAddr 1 (.t 5), (.fa 0)⟩,
 ⟨(some 93), none, false, .load false 1 (.t 92) .copy, (.loc 0)⟩,
 ⟨(some 94), none, false, .mv (.t 12), .cool⟩,
 ⟨(some 95), none, false, .mv (.t 15), .cool⟩,
 ⟨(some 96), none, false, .indexSl 1 (.t 94) (.t 95), .cool⟩,
 ⟨(some 97), none, false, .load false 1 (.t 96) .copy, .free⟩,
 ⟨(some 98), none, false, .fieldAddr 3 (.t 5), (.fa 0)⟩,
 ⟨(some 99), none, false, .load false 1 (.t 98) .copy, (.loc 0)⟩,
 ⟨(some 100), none, false, .callP 26 [(.t 91), (.t 93), (.t 97), (.t 99)], .cool⟩,
 o_ 17 (.allocL 3 [(.int .i64 0), (.int .i64 0), (.int .i64 0), (.int .i64 0)]),
 ⟨none, none, false, .store 4 (.t 17) (.t 100), (.loc 3)⟩])
 (.seq (.seq (.region false [m_ 101 1])
 (.cond (.t 101)
 (.region true [f_ 102 0 5,
 l_ 103 102,
 f_ 104 1 5,
 l_ 105 104,
 m_ 106 14,
 b_ 107 .add 105 106,
 f_ 108 2 5,
 l_ 109 108,
 m_ 110 12,
 m_ 111 15,
 o_ 112 (.indexSl 1 (.t 110) (.t 111)),
 l_ 113 112,
 o_ 114 (.callP 26 [(.t 103), (.t 107), (.t 109), (.t 113)]),
 ⟨none, none, false, .store 4 (.t 17) (.t 114), .none⟩])
 (.skip)))
 (.seq (.seq (.region false [f_ 115 1 16,
 o_ 116 (.load true 4 (.t 115) .copy),
 o_ 117 (.load true 4 (.t 17) .copy),
 o_ 118 (.eq true (.plain [.int, .int, .int, .int]) (.t 116) (.t 117))])
 (.cond (.t 118)
 (.seq (.region false [o_ 6 (.mv (.c (.bool false)))])
 (.ret))
 (.skip)))
 (.region false [m_ 119 14,
 m_ 120 12,
 m_ 121 15,
 o_ 122 (.indexSl 1 (.t 120) (.t 121)),
 l_ 123 122,
 b_ 124 .add 119 123,
 m_ 14 124]))))))
 (.region false [c_ 125 .add 83 1,
 m_ 83 125])))))))
 (.seq (.region false [m_ 126 14,
 m_ 127 11,
 b_ 128 .eql 126 127,
 m_ 6 128])
 (.ret)))))))))))))))⟩
theorem c8 : zat Go.Proofs.Tryz.prog p8 8 = some a8 := by decide +kernel
def p9 : Plan := ⟨[], 2, [((12, 48), hF),
 ((12, 46), hF),
 ((12, 43), hF),
 ((12, 41), hF),
 ((12, 34), hF),
 ((12, 32), hF),
 ((12, 29), hG),
 ((12, 26), hF),
 ((12, 24), hF),
 ((12, 19), hG),
 ((12, 18), hF),
 ((12, 16), hF),
 ((12, 11), hG),
 ((12, 10), hF),
 ((12, 8), hF),
 ((12, 5), hG),
 ((12, 4), hF),
 ((12, 2), hF),
 ((6, 7), hG),
 ((6, 4), hM 1),
 ((6, 3), hM 0),
 ((6, 1), hM 1),
 ((6, 0), hM 0),
 ((0, 0), hB 0),
 ((0, 1), hB 1),
 ((1, 0), hP),
 ((3, 1), hP),
 ((6, 2), hS 61),
 ((6, 8), hS 64),
 ((6, 9), hS 63),
 ((6, 10), hS 69)],
 [[2, 3, 9, 10, 76, 77]]⟩
def a9 : AFunc := ⟨4, 132, 2, [.tmp 8],
 .seq (.region false [o_ 4 (.boxL 0 (.t 0)),
 o_ 5 (.boxL 1 (.t 1)),
 o_ 8 (.mv (.c (.bool false)))])
 (.seq (.seq (.region false [o_ 12 (.callP 11 []),
 o_ 13 (.un .not (.t 12))])
 (.cond (.t 13)
 (.seq (.region false [o_ 8 (.mv (.c (.bool false)))])
 (.ret))
 (.skip)))
 (.seq (.region false [o_ 14 (.load true 4 (.t 5) .copy),
 o_ 15 (.callP 25 [(.t 14)]),
 ⟨none, none, false, .store 4 (.t 5) (.t 15), .none⟩])
 (.seq (.seq (.region false [f_ 16 0 5,
 l_ 17 16,
 c_ 18 .lss 17 (-1000),
 m_ 19 18,
 g_ 20 19 false (.fieldAddr 0 (.t 5)),
 g_ 21 19 false (.load false 1 (.t 20) .copy),
 g_ 22 19 false (.bin .gtr (.t 21) (.c (.int .i64 1000))),
 o_ 23 (.pick (.t 19) (.c (.bool true)) (.t 22)),
 m_ 24 23,
 g_ 25 24 false (.fieldAddr 1 (.t 5)),
 g_ 26 24 false (.load false 1 (.t 25) .copy),
 g_ 27 24 false (.bin .lss (.t 26) (.c (.int .i64 (-1000)))),
 o_ 28 (.pick (.t 24) (.c (.bool true)) (.t 27)),
 m_ 29 28,
 g_ 30 29 false (.fieldAddr 1 (.t 5)),
 g_ 31 29 false (.load false 1 (.t 30) .copy),
 g_ 32 29 false (.bin .gtr (.t 31) (.c (.int .i64 1000))),
 o_ 33 (.pick (.t 29) (.c (.bool true)) (.t 32)),
 m_ 34 33,
 g_ 35 34 false (.mv (.t 2)),
 g_ 36 34 false (.bin .lss (.t 35) (.c (.int .i64 (-1000)))),
 o_ 37 (.pick (.t 34) (.c (.bool true)) (.t 36)),
 m_ 38 37,
 g_ 39 38 false (.mv (.t 2)),
 g_ 40 38 false (.bin .gtr (.t 39) (.c (.int .i64 1000))),
 o_ 41 (.pick (.t 38) (.c (.bool true)) (.t 40)),
 m_ 42 41,
 g_ 43 42 false (.mv (.t 3)),
 g_ 44 42 false (.bin .lss (.t 43) (.c (.int .i64 (-1000)))),
 o_ 45 (.pick (.t 42) (.c (.bool true)) (.t 44)),
 m_ 46 45,
 g_ 47 46 false (.mv (.t 3)),
 g_ 48 46 false (.bin .gtr (.t 47) (.c (.int .i64 1000))),
 o_ 49 (.pick (.t 46) (.c (.bool true)) (.t 48)),
 m_ 50 49,
 g_ 51 50 false (.fieldAddr 5 (.t 4)),
 g_ 52 50 false (.load false 1 (.t 51) .copy),
 g_ 53 50 false (.lenSl (.t 52)),
 g_ 54 50 false (.bin .gtr (.t 53) (.c (.int .i64 0))),
 o_ 55 (.pick (.t 50) (.c (.bool true)) (.t 54)),
 m_ 56 55,
 g_ 57 56 false (.fieldAddr 2 (.t 5)),
 g_ 58 56 false (.load false 1 (.t 57) .copy),
 g_ 59 56 false (.bin .eql (.t 58) (.c (.int .i64 0))),
 o_ 60 (.pick (.t 56) (.c (.bool true)) (.t 59))])
 (.cond (.t 60)
 (.seq (.region false [o_ 8 (.mv (.c (.bool true)))])
 (.ret))
 (.skip)))
 (.seq (.region true [⟨(some 61), none, false, .load true 6 (.t 4) .copy, (.loc 0)⟩,
 ⟨(some 62), none, false, .load true 4 (.t 5) .copy, (.loc 1)⟩,
 o_ 63 (.callF 13 [(.u 61 .share), (.t 62)]),
 ⟨(some 64), none, false, .load true 6 (.t 4) .copy, (.loc 0)⟩,
 ⟨(some 65), none, false, .load true 4 (.t 5) .copy, (.loc 1)⟩,
 m_ 66 2,
 m_ 67 3,
 ⟨(some 68), none, false, .callP 28 [(.t 65), (.t 66), (.t 67)], .free⟩,
 o_ 69 (.callF 13 [(.u 64 .share), (.t 68)]),
 o_ 9 (.mv (.u 63 .share)),
 o_ 10 (.mv (.u 69 .share))])
 (.seq (.seq (.region false [m_ 70 9,
 o_ 71 (.lenSl (.t 70)),
 m_ 72 10,
 o_ 73 (.lenSl (.t 72)),
 b_ 74 .neq 71 73])
 (.cond (.t 74)
 (.seq (.region false [o_ 8 (.mv (.c (.bool false)))])
 (.ret))
 (.skip)))
 (.seq (.seq (.region false [m_ 75 9,
 o_ 76 (.lenSl (.t 75)),
 i_ 77 0])
 (.block 0 (.loop [2, 3, 9, 10, 76, 77] (.seq (.region false [b_ 78 .lss 77 76])
 (.seq (.cond (.t 78)
 (.skip)
 (.exit 0))
 (.seq (.block 1 (.seq (.region false [m_ 79 77,
 m_ 11 79])
 (.seq (.region true [m_ 80 9,
 m_ 81 11,
 ⟨(some 82), none, false, .indexSl 7 (.t 80) (.t 81), .free⟩,
 f_ 83 1 82,
 ⟨(some 84), none, false, .load true 4 (.t 83) .copy, .free⟩,
 ⟨(some 85), none, false, .callP 29 [(.t 84)], .free⟩,
 m_ 86 10,
 m_ 87 11,
 ⟨(some 88), none, false, .indexSl 7 (.t 86) (.t 87), .free⟩,
 f_ 89 1 88,
 ⟨(some 90), none, false, .load true 4 (.t 89) .copy, .free⟩,
 ⟨(some 91), none, false, .callP 29 [(.t 90)], .free⟩,
 o_ 92 (.eq true .bool (.t 85) (.t 91)),
 m_ 93 92,
 g_ 94 93 false (.mv (.t 9)),
 g_ 95 93 false (.mv (.t 11)),
 ⟨(some 96), (some (93, false)), false, .indexSl 7 (.t 94) (.t 95), .free⟩,
 g_ 97 93 false (.fieldAddr 1 (.t 96)),
 ⟨(some 98), (some (93, false)), false, .load true 4 (.t 97) .copy, .free⟩,
 ⟨(some 99), (some (93, false)), false, .callP 29 [(.t 98)], .free⟩,
 g_ 100 93 false (.un .not (.t 99)),
 g_ 101 93 false (.mv (.t 100)),
 g_ 102 101 true (.mv (.t 9)),
 g_ 103 101 true (.mv (.t 11)),
 ⟨(some 104), (some (101, true)), false, .indexSl 7 (.t 102) (.t 103), .free⟩,
 g_ 105 101 true (.fieldAddr 1 (.t 104)),
 ⟨(some 106), (some (101, true)), false, .load true 4 (.t 105) .copy, .free⟩,
 g_ 107 101 true (.mv (.t 2)),
 g_ 108 101 true (.mv (.t 3)),
 ⟨(some 109), (some (101, true)), false, .callP 28 [(.t 106), (.t 107), (.t 108)], .free⟩,
 g_ 110 101 true (.mv (.t 10)),
 g_ 111 101 true (.mv (.t 11)),
 ⟨(some 112), (some (101, true)), false, .indexSl 7 (.t 110) (.t 111), .free⟩,
 g_ 113 101 true (.fieldAddr 1 (.t 112)),
 ⟨(some 114), (some (101, true)), false, .load true 4 (.t 113) .copy, .free⟩,
 g_ 115 101 true (.eq true (.plain [.int, .int, .int, .int]) (.t 109) (.t 114)),
 g_ 116 93 false (.pick (.t 101) (.t 115) (.c (.bool false))),
 o_ 117 (.pick (.t 93) (.c (.bool true)) (.t 116)),
 m_ 118 117,
 g_ 119 118 false (.mv (.t 9)),
 g_ 120 118 false (.mv (.t 11)),
 ⟨(some 121), (some (118, false)), false, .indexSl 7 (.t 119) (.t 120), .free⟩,
 g_ 122 118 false (.fieldAddr 6 (.t 121)),
 ⟨(some 123), (some (118, false)), false, .load false 1 (.t 122) .copy, .free⟩,
 g_ 124 118 false (.mv (.t 10)),
 g_ 125 118 false (.mv (.t 11)),
 ⟨(some 126), (some (118, false)), false, .indexSl 7 (.t 124) (.t 125), .free⟩,
 g_ 127 118 false (.fieldAddr 6 (.t 126)),
 ⟨(some 128), (some (118, false)), false, .load false 1 (.t 127) .copy, .free⟩,
 g_ 129 118 false (.eq true .bool (.t 123) (.t 128)),
 o_ 130 (.pick (.t 118) (.c (.bool true)) (.t 129))])
 (.cond (.t 130)
 (.seq (.region false [o_ 8 (.mv (.c (.bool false)))])
 (.ret))
 (.skip)))))
 (.region false [c_ 131 .add 77 1,
 m_ 77 131])))))))
 (.seq (.region false [o_ 8 (.mv (.c (.bool true)))])
 (.ret))))))))⟩
def v9 : List Nat := [0, 1, 2, 3, 4, 5, 8, 9, 10, 11, 13, 60, 74, 76, 77, 78, 130]
theorem c9 : zat Go.Proofs.Tryz.prog p9 9 = some a9 := by decide +kernel
def p10 : Plan := ⟨[], 3, [((0, 0), hB 0),
 ((0, 1), hB 1),
 ((1, 0), hP),
 ((3, 2), hS 14),
 ((3, 3), hS 16),
 ((4, 1), hS 18),
 ((10, 3), hB 2),
 ((11, 8), hP),
 ((14, 3), hP),
 ((18, 7), hP),
 ((18, 8), hP),
 ((22, 4), hU 96),
 ((22, 10), hP)],
 [[3, 5, 6, 8, 28, 29, 30], [3, 5, 6, 8, 10, 28, 29, 30, 77, 78]]⟩
def a10 : AFunc := ⟨2, 106, 3, [.tmp 4],
 .seq (.region false [o_ 2 (.boxL 0 (.t 0)),
 o_ 3 (.boxL 1 (.t 1)),
 o_ 4 (.mv (.c (.bool false)))])
 (.seq (.seq (.region false [o_ 12 (.callP 11 []),
 o_ 13 (.un .not (.t 12))])
 (.cond (.t 13)
 (.seq (.region false [o_ 4 (.mv (.c (.bool false)))])
 (.ret))
 (.skip)))
 (.seq (.region false [o_ 14 (.load true 6 (.t 2) .copy),
 o_ 15 (.load true 4 (.t 3) .copy),
 o_ 16 (.callF 13 [(.u 14 .share), (.t 15)]),
 o_ 5 (.mv (.u 16 .share))])
 (.seq (.region false [o_ 18 (.load true 6 (.t 2) .copy),
 o_ 19 (.callF 12 [(.u 18 .share)]),
 m_ 17 19,
 o_ 20 (.extract (.t 17) 0),
 o_ 21 (.extract (.t 17) 1),
 m_ 6 20,
 m_ 7 21])
 (.seq (.seq (.region false [m_ 22 5,
 o_ 23 (.lenSl (.t 22)),
 m_ 24 6,
 m_ 25 7,
 b_ 26 .add 24 25,
 b_ 27 .neq 23 26])
 (.cond (.t 27)
 (.seq (.region false [o_ 4 (.mv (.c (.bool false)))])
 (.ret))
 (.skip)))
 (.seq (.region false [i_ 8 0])
 (.seq (.seq (.region false [m_ 28 5,
 o_ 29 (.lenSl (.t 28)),
 i_ 30 0])
 (.block 0 (.loop [3, 5, 6, 8, 28, 29, 30] (.seq (.region false [b_ 31 .lss 30 29])
 (.seq (.cond (.t 31)
 (.skip)
 (.exit 0))
 (.seq (.block 1 (.seq (.region false [m_ 32 30,
 o_ 33 (.indexSl 7 (.t 28) (.t 30)),
 o_ 34 (.load true 7 (.t 33) .copy),
 o_ 10 (.allocL 2 [(.int .i64 0), (.int .i64 0), (.int .i64 0), (.int .i64 0), (.int .i64 0), (.int .i64 0), (.bool false)]),
 m_ 9 32,
 ⟨none, none, false, .store 7 (.t 10) (.t 34), .none⟩])
 (.seq (.seq (.region false [f_ 35 0 10,
 l_ 36 35,
 m_ 37 9,
 b_ 38 .neq 36 37,
 m_ 39 38,
 g_ 40 39 false (.fieldAddr 1 (.t 10)),
 g_ 41 39 false (.load true 4 (.t 40) .copy),
 g_ 42 39 false (.load true 4 (.t 3) .copy),
 g_ 43 39 false (.callP 30 [(.t 41), (.t 42)]),
 g_ 44 39 false (.un .not (.t 43)),
 o_ 45 (.pick (.t 39) (.c (.bool true)) (.t 44)),
 m_ 46 45,
 g_ 47 46 false (.fieldAddr 5 (.t 10)),
 g_ 48 46 false (.load false 1 (.t 47) .copy),
 g_ 49 46 false (.bin .eql (.t 48) (.c (.int .i64 0))),
 g_ 50 46 false (.mv (.t 9)),
 g_ 51 46 false (.mv (.t 6)),
 g_ 52 46 false (.bin .lss (.t 50) (.t 51)),
 g_ 53 46 false (.eq true .bool (.t 49) (.t 52)),
 o_ 54 (.pick (.t 46) (.c (.bool true)) (.t 53)),
 m_ 55 54,
 g_ 56 55 false (.fieldAddr 5 (.t 10)),
 g_ 57 55 false (.load false 1 (.t 56) .copy),
 g_ 58 55 false (.bin .lss (.t 57) (.c (.int .i64 0))),
 o_ 59 (.pick (.t 55) (.c (.bool true)) (.t 58)),
 m_ 60 59,
 g_ 61 60 false (.fieldAddr 5 (.t 10)),
 g_ 62 60 false (.load false 1 (.t 61) .copy),
 g_ 63 60 false (.bin .gtr (.t 62) (.c (.int .i64 0))),
 g_ 64 60 false (.mv (.t 63)),
 g_ 65 64 true (.fieldAddr 6 (.t 10)),
 g_ 66 64 true (.load false 1 (.t 65) .copy),
 g_ 67 60 false (.pick (.t 64) (.t 66) (.c (.bool false))),
 o_ 68 (.pick (.t 60) (.c (.bool true)) (.t 67))])
 (.cond (.t 68)
 (.seq (.region false [o_ 4 (.mv (.c (.bool false)))])
 (.ret))
 (.skip)))
 (.seq (.seq (.region false [m_ 69 9,
 m_ 70 6,
 b_ 71 .geq 69 70])
 (.cond (.t 71)
 (.exit 1)
 (.skip)))
 (.seq (.region false [m_ 72 8,
 f_ 73 1 10,
 o_ 74 (.load true 4 (.t 73) .copy),
 o_ 75 (.callP 31 [(.t 74)]),
 b_ 76 .add 72 75,
 m_ 8 76])
 (.seq (.region false [m_ 77 9,
 i_ 78 0])
 (.block 2 (.loop [3, 5, 6, 8, 10, 28, 29, 30, 77, 78] (.seq (.region false [b_ 79 .lss 78 77])
 (.seq (.cond (.t 79)
 (.skip)
 (.exit 2))
 (.seq (.block 3 (.seq (.region false [m_ 80 78,
 m_ 11 80])
 (.seq (.region true [f_ 81 1 10,
 o_ 82 (.load true 4 (.t 81) .copy),
 m_ 83 5,
 m_ 84 11,
 o_ 85 (.indexSl 7 (.t 83) (.t 84)),
 f_ 86 1 85,
 o_ 87 (.load true 4 (.t 86) .copy),
 o_ 88 (.callP 32 [(.t 82), (.t 87)]),
 o_ 89 (.callP 29 [(.t 88)]),
 o_ 90 (.un .not (.t 89))])
 (.cond (.t 90)
 (.seq (.region false [o_ 4 (.mv (.c (.bool false)))])
 (.ret))
 (.skip)))))
 (.region false [c_ 91 .add 78 1,
 m_ 78 91]))))))))))))
 (.region false [c_ 92 .add 30 1,
 m_ 30 92])))))))
 (.seq (.region false [m_ 93 6,
 c_ 94 .eql 93 0,
 m_ 95 94,
 g_ 96 95 false (.mv (.t 5)),
 g_ 97 95 false (.callP 33 [(.u 96 .share)]),
 g_ 98 95 false (.un .not (.t 97)),
 o_ 99 (.pick (.t 95) (.c (.bool true)) (.t 98)),
 m_ 100 99,
 g_ 101 100 false (.mv (.t 8)),
 g_ 102 100 false (.load true 4 (.t 3) .copy),
 g_ 103 100 false (.callP 31 [(.t 102)]),
 g_ 104 100 false (.bin .eql (.t 101) (.t 103)),
 o_ 105 (.pick (.t 100) (.c (.bool true)) (.t 104)),
 m_ 4 105])
 (.ret))))))))⟩
theorem c10 : zat Go.Proofs.Tryz.prog p10 10 = some a10 := by decide +kernel
abbrev a12 : AFunc := LayA.a12
def p29 : Plan := ⟨[], 1, [((0, 0), hB 0),
 ((1, 1), hP)],
 []⟩
def a29 : AFunc := ⟨1, 7, 1, [.tmp 2],
 .seq (.region false [o_ 1 (.boxL 0 (.t 0)),
 o_ 2 (.mv (.c (.bool false)))])
 (.seq (.region false [o_ 3 (.load true 4 (.t 1) .copy),
 o_ 4 (.callP 25 [(.t 3)]),
 o_ 5 (.field false 1 2 (.t 4)),
 c_ 6 .eql 5 0,
 m_ 2 6])
 (.ret))⟩
theorem c29 : zat Go.Proofs.Tryz.prog p29 29 = some a29 := by decide +kernel
abbrev a61 : AFunc := LayA.a61
def p32 : Plan := ⟨[], 3, [((1, 5), hM 1),
 ((1, 4), hM 0),
 ((1, 3), hG),
 ((1, 2), hM 1),
 ((1, 1), hG),
 ((1, 0), hM 0),
 ((0, 0), hB 0),
 ((0, 1), hB 1),
 ((0, 2), hB 2),
 ((2, 32), hP)],
 []⟩
def a32 : AFunc := ⟨2, 42, 3, [.cell 4 true 4],
 .seq (.region false [o_ 2 (.boxL 0 (.t 0)),
 o_ 3 (.boxL 1 (.t 1)),
 o_ 4 (.allocL 2 [(.int .i64 0), (.int .i64 0), (.int .i64 0), (.int .i64 0)])])
 (.seq (.region true [⟨(some 5), none, false, .load true 4 (.t 2) .copy, (.loc 0)⟩,
 ⟨(some 6), none, false, .callP 25 [(.t 5)], .free⟩,
 ⟨(some 7), none, false, .load true 4 (.t 3) .copy, (.loc 1)⟩,
 ⟨(some 8), none, false, .callP 25 [(.t 7)], .free⟩,
 ⟨none, none, false, .store 4 (.t 2) (.t 6), (.loc 0)⟩,
 ⟨none, none, false, .store 4 (.t 3) (.t 8), (.loc 1)⟩])
 (.seq (.region false [f_ 9 0 2,
 l_ 10 9,
 f_ 11 0 3,
 l_ 12 11,
 o_ 13 (.minMax true (.t 10) [(.t 12)]),
 f_ 14 1 2,
 l_ 15 14,
 f_ 16 1 3,
 l_ 17 16,
 o_ 18 (.minMax true (.t 15) [(.t 17)]),
 f_ 19 0 2,
 l_ 20 19,
 f_ 21 2 2,
 l_ 22 21,
 b_ 23 .add 20 22,
 f_ 24 0 3,
 l_ 25 24,
 f_ 26 2 3,
 l_ 27 26,
 b_ 28 .add 25 27,
 o_ 29 (.minMax false (.t 23) [(.t 28)]),
 f_ 30 1 2,
 l_ 31 30,
 f_ 32 3 2,
 l_ 33 32,
 b_ 34 .add 31 33,
 f_ 35 1 3,
 l_ 36 35,
 f_ 37 3 3,
 l_ 38 37,
 b_ 39 .add 36 38,
 o_ 40 (.minMax false (.t 34) [(.t 39)]),
 o_ 41 (.callP 61 [(.t 13), (.t 18), (.t 29), (.t 40)]),
 ⟨none, none, false, .store 4 (.t 4) (.t 41), .none⟩])
 (.ret)))⟩
theorem c32 : zat Go.Proofs.Tryz.prog p32 32 = some a32 := by decide +kernel
def p30 : Plan := ⟨[], 2, [((1, 4), hG),
 ((1, 3), hM 0),
 ((1, 2), hG),
 ((1, 1), hM 1),
 ((1, 0), hM 0),
 ((0, 0), hB 0),
 ((0, 1), hB 1)],
 []⟩
def a30 : AFunc := ⟨2, 11, 2, [.tmp 4],
 .seq (.region false [o_ 2 (.boxL 0 (.t 0)),
 o_ 3 (.boxL 1 (.t 1)),
 o_ 4 (.mv (.c (.bool false)))])
 (.seq (.region true [⟨(some 5), none, false, .load true 4 (.t 2) .copy, (.loc 0)⟩,
 ⟨(some 6), none, false, .load true 4 (.t 3) .copy, (.loc 1)⟩,
 ⟨(some 7), none, false, .callP 32 [(.t 5), (.t 6)], .free⟩,
 ⟨(some 8), none, false, .load true 4 (.t 2) .copy, (.loc 0)⟩,
 ⟨(some 9), none, false, .callP 25 [(.t 8)], .free⟩,
 o_ 10 (.eq false (.plain [.int, .int, .int, .int]) (.t 7) (.t 9)),
 m_ 4 10])
 (.ret))⟩
theorem c30 : zat Go.Proofs.Tryz.prog p30 30 = some a30 := by decide +kernel
def p31 : Plan := ⟨[], 1, [((0, 0), hB 0),
 ((1, 1), hP)],
 []⟩
def a31 : AFunc := ⟨1, 10, 1, [.tmp 2],
 .seq (.region false [o_ 1 (.boxL 0 (.t 0)),
 i_ 2 0])
 (.seq (.region false [o_ 3 (.load true 4 (.t 1) .copy),
 o_ 4 (.callP 25 [(.t 3)]),
 ⟨none, none, false, .store 4 (.t 1) (.t 4), .none⟩])
 (.seq (.region false [f_ 5 2 1,
 l_ 6 5,
 f_ 7 3 1,
 l_ 8 7,
 b_ 9 .mul 6 8,
 m_ 2 9])
 (.ret)))⟩
theorem c31 : zat Go.Proofs.Tryz.prog p31 31 = some a31 := by decide +kernel
def p33 : Plan := ⟨[], 1, [((3, 2), hB 0),
 ((4, 6), hP)],
 [[5, 6, 7]]⟩
def a33 : AFunc := ⟨1, 20, 1, [.tmp 2],
 .seq (.region false [o_ 2 (.mv (.c (.bool false)))])
 (.seq (.seq (.region false [m_ 5 0,
 o_ 6 (.lenSl (.t 5)),
 i_ 7 0])
 (.block 0 (.loop [5, 6, 7] (.seq (.region false [b_ 8 .lss 7 6])
 (.seq (.cond (.t 8)
 (.skip)
 (.exit 0))
 (.seq (.block 1 (.seq (.region false [o_ 9 (.indexSl 7 (.t 5) (.t 7)),
 o_ 10 (.load true 7 (.t 9) .copy),
 o_ 4 (.allocL 0 [(.int .i64 0), (.int .i64 0), (.int .i64 0), (.int .i64 0), (.int .i64 0), (.int .i64 0), (.bool false)]),
 ⟨none, none, false, .store 7 (.t 4) (.t 10), .none⟩])
 (.seq (.region false [f_ 11 5 4,
 l_ 12 11,
 c_ 13 .eql 12 0,
 m_ 14 13,
 g_ 15 14 true (.fieldAddr 1 (.t 4)),
 g_ 16 14 true (.load true 4 (.t 15) .copy),
 g_ 17 14 true (.callP 29 [(.t 16)]),
 o_ 18 (.pick (.t 14) (.t 17) (.c (.bool false)))])
 (.cond (.t 18)
 (.seq (.region false [o_ 2 (.mv (.c (.bool false)))])
 (.ret))
 (.skip)))))
 (.region false [c_ 19 .add 7 1,
 m_ 7 19])))))))
 (.seq (.region false [o_ 2 (.mv (.c (.bool true)))])
 (.ret)))⟩
theorem c33 : zat Go.Proofs.Tryz.prog p33 33 = some a33 := by decide +kernel
abbrev a53 : AFunc := LayA.a53
abbrev v53 : List Nat := LayA.v53
abbrev a23 : AFunc := LayA.a23
def p64 : Plan := ⟨[], 0, [],
 []⟩
def a64 : AFunc := ⟨3, 16, 0, [.tmp 6],
 .seq (.region false [i_ 6 0])
 (.seq (.seq (.region false [m_ 7 0,
 m_ 8 1,
 b_ 9 .lss 7 8])
 (.cond (.t 9)
 (.seq (.region false [m_ 10 1,
 m_ 6 10])
 (.ret))
 (.skip)))
 (.seq (.seq (.region false [m_ 11 0,
 m_ 12 2,
 b_ 13 .gtr 11 12])
 (.cond (.t 13)
 (.seq (.region false [m_ 14 2,
 m_ 6 14])
 (.ret))
 (.skip)))
 (.seq (.region false [m_ 15 0,
 m_ 6 15])
 (.ret))))⟩
theorem c64 : zat Go.Proofs.Tryz.prog p64 64 = some a64 := by decide +kernel
def p39 : Plan := ⟨[], 2, [((0, 0), hB 0),
 ((0, 1), hB 1),
 ((1, 2), hP),
 ((2, 2), hP),
 ((3, 2), hP),
 ((4, 2), hP)],
 []⟩
def a39 : AFunc := ⟨1, 43, 2, [.cell 2 true 4],
 .seq (.region false [o_ 1 (.boxL 0 (.t 0)),
 o_ 2 (.allocL 1 [(.int .i64 0), (.int .i64 0), (.int .i64 0), (.int .i64 0)])])
 (.seq (.region false [f_ 7 0 1,
 l_ 8 7,
 o_ 9 (.callP 64 [(.t 8), (.c (.int .i64 (-5000))), (.c (.int .i64 5000))]),
 m_ 3 9])
 (.seq (.region false [f_ 10 1 1,
 l_ 11 10,
 o_ 12 (.callP 64 [(.t 11), (.c (.int .i64 (-5000))), (.c (.int .i64 5000))]),
 m_ 4 12])
 (.seq (.region false [f_ 13 2 1,
 l_ 14 13,
 o_ 15 (.callP 64 [(.t 14), (.c (.int .i64 0)), (.c (.int .i64 200))]),
 m_ 5 15])
 (.seq (.region false [f_ 16 3 1,
 l_ 17 16,
 o_ 18 (.callP 64 [(.t 17), (.c (.int .i64 0)), (.c (.int .i64 200))]),
 m_ 6 18])
 (.seq (.seq (.region false [m_ 19 3,
 m_ 20 5,
 b_ 21 .add 19 20,
 c_ 22 .gtr 21 5000])
 (.cond (.t 22)
 (.region false [m_ 23 3,
 o_ 24 (.bin .sub (.c (.int .i64 5000)) (.t 23)),
 m_ 5 24])
 (.skip)))
 (.seq (.seq (.region false [m_ 25 4,
 m_ 26 6,
 b_ 27 .add 25 26,
 c_ 28 .gtr 27 5000])
 (.cond (.t 28)
 (.region false [m_ 29 4,
 o_ 30 (.bin .sub (.c (.int .i64 5000)) (.t 29)),
 m_ 6 30])
 (.skip)))
 (.seq (.seq (.region false [m_ 31 5,
 c_ 32 .eql 31 0,
 m_ 33 32,
 g_ 34 33 false (.mv (.t 6)),
 g_ 35 33 false (.bin .eql (.t 34) (.c (.int .i64 0))),
 o_ 36 (.pick (.t 33) (.c (.bool true)) (.t 35))])
 (.cond (.t 36)
 (.seq (.region false [o_ 37 (.build [(.int .i64 0), (.int .i64 0), (.int .i64 0), (.int .i64 0)] []),
 ⟨none, none, false, .store 4 (.t 2) (.t 37), .none⟩])
 (.ret))
 (.skip)))
 (.seq (.region false [m_ 38 3,
 m_ 39 4,
 m_ 40 5,
 m_ 41 6,
 o_ 42 (.build [(.int .i64 0), (.int .i64 0), (.int .i64 0), (.int .i64 0)] [(0, 1, (.t 38)), (1, 1, (.t 39)), (2, 1, (.t 40)), (3, 1, (.t 41))]),
 ⟨none, none, false, .store 4 (.t 2) (.t 42), .none⟩])
 (.ret)))))))))⟩
theorem c39 : zat Go.Proofs.Tryz.prog p39 39 = some a39 := by decide +kernel
def p54 : Plan := ⟨[], 1, [((0, 0), hB 0)],
 []⟩
def a54 : AFunc := ⟨3, 35, 1, [.tmp 6],
 .seq (.region false [o_ 3 (.boxL 0 (.t 0)),
 o_ 6 (.mv (.c (.bool false)))])
 (.seq (.region false [m_ 7 1,
 f_ 8 0 3,
 l_ 9 8,
 b_ 10 .geq 7 9,
 m_ 11 10,
 g_ 12 11 true (.mv (.t 1)),
 g_ 13 11 true (.fieldAddr 0 (.t 3)),
 g_ 14 11 true (.load false 1 (.t 13) .copy),
 g_ 15 11 true (.fieldAddr 2 (.t 3)),
 g_ 16 11 true (.load false 1 (.t 15) .copy),
 g_ 17 11 true (.bin .add (.t 14) (.t 16)),
 g_ 18 11 true (.bin .lss (.t 12) (.t 17)),
 o_ 19 (.pick (.t 11) (.t 18) (.c (.bool false))),
 m_ 20 19,
 g_ 21 20 true (.mv (.t 2)),
 g_ 22 20 true (.fieldAddr 1 (.t 3)),
 g_ 23 20 true (.load false 1 (.t 22) .copy),
 g_ 24 20 true (.bin .geq (.t 21) (.t 23)),
 o_ 25 (.pick (.t 20) (.t 24) (.c (.bool false))),
 m_ 26 25,
 g_ 27 26 true (.mv (.t 2)),
 g_ 28 26 true (.fieldAddr 1 (.t 3)),
 g_ 29 26 true (.load false 1 (.t 28) .copy),
 g_ 30 26 true (.fieldAddr 3 (.t 3)),
 g_ 31 26 true (.load false 1 (.t 30) .copy),
 g_ 32 26 true (.bin .add (.t 29) (.t 31)),
 g_ 33 26 true (.bin .lss (.t 27) (.t 32)),
 o_ 34 (.pick (.t 26) (.t 33) (.c (.bool false))),
 m_ 6 34])
 (.ret))⟩
theorem c54 : zat Go.Proofs.Tryz.prog p54 54 = some a54 := by decide +kernel
def p24 : Plan := ⟨[], 0, [((5, 5), hP),
 ((5, 8), hP)],
 [[0, 1, 2, 7, 8]]⟩
def a24 : AFunc := ⟨3, 53, 0, [.tmp 6],
 .seq (.region false [i_ 6 0])
 (.seq (.region false [i_ 7 (-1)])
 (.seq (.seq (.region false [i_ 8 0])
 (.block 0 (.loop [0, 1, 2, 7, 8] (.seq (.seq (.region false [m_ 9 8,
 m_ 10 0,
 o_ 11 (.lenSl (.t 10)),
 b_ 12 .lss 9 11,
 m_ 13 12,
 g_ 14 13 true (.mv (.t 8)),
 g_ 15 13 true (.bin .lss (.t 14) (.c (.int .i64 24))),
 o_ 16 (.pick (.t 13) (.t 15) (.c (.bool false)))])
 (.cond (.t 16)
 (.skip)
 (.exit 0)))
 (.seq (.block 1 (.seq (.region true [m_ 19 0,
 m_ 20 8,
 o_ 21 (.indexSl 7 (.t 19) (.t 20)),
 f_ 22 1 21,
 o_ 23 (.load true 4 (.t 22) .copy),
 o_ 24 (.callP 39 [(.t 23)]),
 m_ 25 1,
 m_ 26 2,
 o_ 27 (.callP 54 [(.t 24), (.t 25), (.t 26)]),
 m_ 28 27,
 g_ 29 28 true (.mv (.t 7)),
 g_ 30 28 true (.bin .lss (.t 29) (.c (.int .i64 0))),
 g_ 31 28 true (.mv (.t 30)),
 g_ 32 31 false (.mv (.t 0)),
 g_ 33 31 false (.mv (.t 8)),
 g_ 34 31 false (.indexSl 7 (.t 32) (.t 33)),
 g_ 35 31 false (.fieldAddr 5 (.t 34)),
 g_ 36 31 false (.load false 1 (.t 35) .copy),
 g_ 37 31 false (.mv (.t 0)),
 g_ 38 31 false (.mv (.t 7)),
 g_ 39 31 false (.indexSl 7 (.t 37) (.t 38)),
 g_ 40 31 false (.fieldAddr 5 (.t 39)),
 g_ 41 31 false (.load false 1 (.t 40) .copy),
 g_ 42 31 false (.bin .geq (.t 36) (.t 41)),
 g_ 43 28 true (.pick (.t 31) (.c (.bool true)) (.t 42)),
 o_ 44 (.pick (.t 28) (.t 43) (.c (.bool false)))])
 (.cond (.t 44)
 (.region false [m_ 45 8,
 m_ 7 45])
 (.skip))))
 (.region false [m_ 17 8,
 c_ 18 .add 17 1,
 m_ 8 18]))))))
 (.seq (.seq (.region false [m_ 46 7,
 c_ 47 .lss 46 0])
 (.cond (.t 47)
 (.seq (.region false [i_ 6 (-1)])
 (.ret))
 (.skip)))
 (.seq (.region false [m_ 48 0,
 m_ 49 7,
 o_ 50 (.indexSl 7 (.t 48) (.t 49)),
 f_ 51 0 50,
 l_ 52 51,
 m_ 6 52])
 (.ret)))))⟩
theorem c24 : zat Go.Proofs.Tryz.prog p24 24 = some a24 := by decide +kernel
def p6 : Plan := ⟨[], 0, [((1, 0), hP),
 ((3, 3), hU 9),
 ((3, 7), hU 13)],
 []⟩
def a6 : AFunc := ⟨3, 18, 0, [.tmp 6],
 .seq (.region false [o_ 6 (.mv (.c (.bool false)))])
 (.seq (.seq (.region false [o_ 7 (.callP 11 []),
 o_ 8 (.un .not (.t 7))])
 (.cond (.t 8)
 (.seq (.region false [o_ 6 (.mv (.c (.bool false)))])
 (.ret))
 (.skip)))
 (.seq (.region false [m_ 9 0,
 m_ 10 1,
 m_ 11 2,
 o_ 12 (.callP 23 [(.u 9 .share), (.t 10), (.t 11)]),
 m_ 13 0,
 m_ 14 1,
 m_ 15 2,
 o_ 16 (.callP 24 [(.u 13 .share), (.t 14), (.t 15)]),
 b_ 17 .eql 12 16,
 m_ 6 17])
 (.ret)))⟩
theorem c6 : zat Go.Proofs.Tryz.prog p6 6 = some a6 := by decide +kernel
def p3 : Plan := ⟨[7], 2, [((0, 0), hB 0),
 ((0, 1), hB 1),
 ((1, 0), hP),
 ((3, 1), hS 13),
 ((4, 2), hS 17),
 ((4, 3), hT 19),
 ((5, 1), hS 20),
 ((6, 1), hS 23),
 ((6, 12), hK 7),
 ((7, 2), hS 39),
 ((7, 3), hS 41),
 ((8, 1), hS 42),
 ((8, 6), hS 47),
 ((8, 17), hK 7),
 ((8, 19), { lend := true, pure := true }),
 ((10, 0), hK 7),
 ((13, 0), hK 7),
 ((15, 2), hS 74),
 ((15, 4), { uses := [(76, .share), (77, .share)], pure := true })],
 [[2, 3, 7, 8, 65, 66]]⟩
def a3 : AFunc := ⟨2, 79, 2, [.tmp 4],
 .seq (.region false [o_ 2 (.boxL 0 (.t 0)),
 o_ 3 (.boxL 1 (.t 1)),
 o_ 4 (.mv (.c (.bool false)))])
 (.seq (.seq (.region false [o_ 10 (.callP 11 []),
 o_ 11 (.un .not (.t 10))])
 (.cond (.t 11)
 (.seq (.region false [o_ 4 (.mv (.c (.bool false)))])
 (.ret))
 (.skip)))
 (.seq (.region false [o_ 13 (.load true 6 (.t 2) .copy),
 o_ 14 (.callF 12 [(.u 13 .share)]),
 m_ 12 14,
 o_ 15 (.extract (.t 12) 0),
 o_ 16 (.extract (.t 12) 1),
 m_ 5 15,
 m_ 6 16])
 (.seq (.region false [o_ 17 (.load true 6 (.t 2) .copy),
 o_ 18 (.load true 4 (.t 3) .copy),
 o_ 19 (.callF 13 [(.u 17 .share), (.t 18)]),
 k_ 7 19])
 (.seq (.seq (.region false [o_ 20 (.load true 6 (.t 2) .copy),
 o_ 21 (.callF 14 [(.u 20 .share)]),
 o_ 22 (.un .not (.t 21))])
 (.cond (.t 22)
 (.seq (.region false [o_ 23 (.load true 6 (.t 2) .copy),
 o_ 24 (.callF 15 [(.u 23 .share)]),
 c_ 25 .eql 24 100,
 m_ 26 25,
 g_ 27 26 true (.mv (.t 5)),
 g_ 28 26 true (.bin .eql (.t 27) (.c (.int .i64 0))),
 o_ 29 (.pick (.t 26) (.t 28) (.c (.bool false))),
 m_ 30 29,
 g_ 31 30 true (.mv (.t 6)),
 g_ 32 30 true (.bin .eql (.t 31) (.c (.int .i64 0))),
 o_ 33 (.pick (.t 30) (.t 32) (.c (.bool false))),
 m_ 34 33,
 g_ 35 34 true (.mv (.u 7 .peek)),
 g_ 36 34 true (.lenSl (.t 35)),
 g_ 37 34 true (.bin .eql (.t 36) (.c (.int .i64 0))),
 o_ 38 (.pick (.t 34) (.t 37) (.c (.bool false))),
 m_ 4 38])
 (.ret))
 (.skip)))
 (.seq (.region false [o_ 39 (.load true 6 (.t 2) .copy),
 o_ 40 (.load true 4 (.t 3) .copy),
 o_ 41 (.callF 16 [(.u 39 .share), (.t 40)]),
 o_ 8 (.mv (.u 41 .share))])
 (.seq (.seq (.region false [o_ 42 (.load true 6 (.t 2) .copy),
 o_ 43 (.callF 15 [(.u 42 .share)]),
 c_ 44 .neq 43 0,
 m_ 45 44,
 g_ 46 45 false (.mv (.t 5)),
 g_ 47 45 false (.load true 6 (.t 2) .copy),
 g_ 48 45 false (.callF 17 [(.u 47 .share)]),
 g_ 49 45 false (.bin .neq (.t 46) (.t 48)),
 o_ 50 (.pick (.t 45) (.c (.bool true)) (.t 49)),
 m_ 51 50,
 g_ 52 51 false (.mv (.t 6)),
 g_ 53 51 false (.fieldAddr 5 (.t 2)),
 g_ 54 51 false (.load false 1 (.t 53) .copy),
 g_ 55 51 false (.lenSl (.t 54)),
 g_ 56 51 false (.bin .neq (.t 52) (.t 55)),
 o_ 57 (.pick (.t 51) (.c (.bool true)) (.t 56)),
 m_ 58 57,
 g_ 59 58 false (.mv (.u 7 .peek)),
 g_ 60 58 false (.mv (.t 8)),
 g_ 61 58 false (.callL 18 [(.t 59), (.t 60)]),
 g_ 62 58 false (.un .not (.t 61)),
 o_ 63 (.pick (.t 58) (.c (.bool true)) (.t 62))])
 (.cond (.t 63)
 (.seq (.region false [o_ 4 (.mv (.c (.bool false)))])
 (.ret))
 (.skip)))
 (.seq (.seq (.region false [o_ 64 (.mv (.u 7 .peek)),
 o_ 65 (.lenSl (.t 64)),
 i_ 66 0])
 (.block 0 (.loop [2, 3, 7, 8, 65, 66] (.seq (.region false [b_ 67 .lss 66 65])
 (.seq (.cond (.t 67)
 (.skip)
 (.exit 0))
 (.seq (.block 1 (.seq (.region false [m_ 68 66,
 m_ 9 68])
 (.region false [o_ 69 (.mv (.u 7 .peek)),
 m_ 70 9,
 o_ 71 (.indexSl 7 (.t 69) (.t 70)),
 f_ 72 0 71,
 ⟨none, none, false, .store 1 (.t 72) (.c (.int .i64 77)), .none⟩])))
 (.region false [c_ 73 .add 66 1,
 m_ 66 73])))))))
 (.seq (.region false [o_ 74 (.load true 6 (.t 2) .copy),
 o_ 75 (.load true 4 (.t 3) .copy),
 o_ 76 (.callF 13 [(.u 74 .share), (.t 75)]),
 m_ 77 8,
 o_ 78 (.callP 18 [(.u 76 .share), (.u 77 .share)]),
 m_ 4 78])
 (.ret)))))))))⟩
def v3 : List Nat := [0, 1, 2, 3, 4, 5, 6, 7, 8, 9, 11, 22, 63, 65, 66, 67]
def b3 : List Nat := [0, 1]
theorem c3 : zat Go.Proofs.Tryz.prog p3 3 = some a3 := by decide +kernel
def p14 : Plan := ⟨[], 1, [((1, 9), hF),
 ((1, 8), hM 0),
 ((1, 5), hM 0),
 ((1, 2), hF),
 ((1, 1), hM 0),
 ((0, 0), hB 0),
 ((1, 6), hS 8)],
 []⟩
def a14 : AFunc := ⟨1, 16, 1, [.tmp 2],
 .seq (.region false [o_ 1 (.boxL 0 (.t 0)),
 o_ 2 (.mv (.c (.bool false)))])
 (.seq (.region true [f_ 3 5 1,
 ⟨(some 4), none, false, .load false 1 (.t 3) .copy, (.loc 0)⟩,
 ⟨(some 5), none, false, .lenSl (.t 4), .free⟩,
 c_ 6 .leq 5 24,
 m_ 7 6,
 ⟨(some 8), (some (7, true)), false, .load true 6 (.t 1) .copy, (.loc 0)⟩,
 g_ 9 7 true (.callF 38 [(.u 8 .share), (.c (.int .i64 1))]),
 g_ 10 7 true (.fieldAddr 5 (.t 1)),
 ⟨(some 11), (some (7, true)), false, .load false 1 (.t 10) .copy, (.loc 0)⟩,
 ⟨(some 12), (some (7, true)), false, .lenSl (.t 11), .free⟩,
 g_ 13 7 true (.bin .add (.t 9) (.t 12)),
 g_ 14 7 true (.bin .leq (.t 13) (.c (.int .i64 24))),
 o_ 15 (.pick (.t 7) (.t 14) (.c (.bool false))),
 m_ 2 15])
 (.ret))⟩
theorem c14 : zat Go.Proofs.Tryz.prog p14 14 = some a14 := by decide +kernel
def p16 : Plan := ⟨[], 3, [((6, 12), hM 2),
 ((6, 10), { mark := .cool, pure := true }),
 ((6, 9), hM 1),
 ((6, 8), { mark := (.fa 1) }),
 ((6, 7), hM 1),
 ((6, 6), { mark := (.fa 1) }),
 ((6, 5), { mark := .cool, pure := true }),
 ((6, 4), hF),
 ((6, 3), { mark := .cool }),
 ((6, 2), { mark := .cool }),
 ((6, 1), hM 0),
 ((6, 0), { mark := (.fa 0) }),
 ((0, 0), hB 0),
 ((0, 1), hB 1),
 ((1, 1), hP),
 ((2, 2), hS 10),
 ((2, 3), hS 12),
 ((6, 11), hB 2),
 ((7, 5), hP),
 ((9, 3), hP),
 ((9, 6), hU 40),
 ((9, 7), hS 46),
 ((10, 1), hT 47)],
 [[2, 3, 5, 6]]⟩
def a16 : AFunc := ⟨2, 48, 3, [.tmp 4],
 .seq (.region false [o_ 2 (.boxL 0 (.t 0)),
 o_ 3 (.boxL 1 (.t 1)),
 o_ 4 (.mv (.c .nils))])
 (.seq (.region false [o_ 8 (.load true 4 (.t 3) .copy),
 o_ 9 (.callP 39 [(.t 8)]),
 ⟨none, none, false, .store 4 (.t 3) (.t 9), .none⟩])
 (.seq (.region false [o_ 10 (.load true 6 (.t 2) .copy),
 o_ 11 (.load true 4 (.t 3) .copy),
 o_ 12 (.callF 40 [(.c .nils), (.u 10 .share), (.t 11)]),
 o_ 5 (.mv (.u 12 .share))])
 (.seq (.seq (.region false [i_ 6 0])
 (.block 0 (.loop [2, 3, 5, 6] (.seq (.seq (.region false [m_ 13 6,
 f_ 14 5 2,
 l_ 15 14,
 o_ 16 (.lenSl (.t 15)),
 b_ 17 .lss 13 16])
 (.cond (.t 17)
 (.skip)
 (.exit 0)))
 (.seq (.block 1 (.seq (.region true [⟨(some 20), none, false, .fieldAddr 5 (.t 2), (.fa 0)⟩,
 ⟨(some 21), none, false, .load false 1 (.t 20) .copy, (.loc 0)⟩,
 ⟨(some 22), none, false, .mv (.t 6), .cool⟩,
 ⟨(some 23), none, false, .indexSl 4 (.t 21) (.t 22), .cool⟩,
 ⟨(some 24), none, false, .load true 4 (.t 23) .copy, .free⟩,
 ⟨(some 25), none, false, .callP 39 [(.t 24)], .cool⟩,
 ⟨(some 26), none, false, .fieldAddr 0 (.t 3), (.fa 1)⟩,
 ⟨(some 27), none, false, .load false 1 (.t 26) .copy, (.loc 1)⟩,
 ⟨(some 28), none, false, .fieldAddr 1 (.t 3), (.fa 1)⟩,
 ⟨(some 29), none, false, .load false 1 (.t 28) .copy, (.loc 1)⟩,
 ⟨(some 30), none, false, .callP 41 [(.t 25), (.t 27), (.t 29)], .cool⟩,
 o_ 7 (.allocL 2 [(.int .i64 0), (.int .i64 0), (.int .i64 0), (.int .i64 0)]),
 ⟨none, none, false, .store 4 (.t 7) (.t 30), (.loc 2)⟩])
 (.seq (.seq (.region false [f_ 31 5 2,
 l_ 32 31,
 m_ 33 6,
 o_ 34 (.indexSl 4 (.t 32) (.t 33)),
 o_ 35 (.load true 4 (.t 34) .copy),
 o_ 36 (.callP 39 [(.t 35)]),
 o_ 37 (.field false 1 2 (.t 36)),
 c_ 38 .eql 37 0])
 (.cond (.t 38)
 (.region false [o_ 39 (.build [(.int .i64 0), (.int .i64 0), (.int .i64 0), (.int .i64 0)] []),
 ⟨none, none, false, .store 4 (.t 7) (.t 39), .none⟩])
 (.skip)))
 (.region false [m_ 40 5,
 o_ 41 (.load true 4 (.t 7) .copy),
 o_ 42 (.load true 4 (.t 3) .copy),
 o_ 43 (.callP 43 [(.t 41), (.t 42)]),
 m_ 44 6,
 c_ 45 .add 44 1,
 o_ 46 (.callP 42 [(.u 40 .share), (.t 43), (.t 45), (.c (.bool false))]),
 o_ 5 (.mv (.u 46 .share))]))))
 (.region false [m_ 18 6,
 c_ 19 .add 18 1,
 m_ 6 19]))))))
 (.seq (.region false [m_ 47 5,
 o_ 4 (.mv (.u 47 .take))])
 (.ret)))))⟩
theorem c16 : zat Go.Proofs.Tryz.prog p16 16 = some a16 := by decide +kernel
def p17 : Plan := ⟨[], 1, [((0, 0), hB 0),
 ((1, 1), hS 3)],
 []⟩
def a17 : AFunc := ⟨1, 5, 1, [.tmp 2],
 .seq (.region false [o_ 1 (.boxL 0 (.t 0)),
 i_ 2 0])
 (.seq (.region false [o_ 3 (.load true 6 (.t 1) .copy),
 o_ 4 (.callF 38 [(.u 3 .share), (.c (.int .i64 1))]),
 m_ 2 4])
 (.ret))⟩
theorem c17 : zat Go.Proofs.Tryz.prog p17 17 = some a17 := by decide +kernel
def p18 : Plan := ⟨[], 0, [],
 [[0, 1, 5]]⟩
def a18 : AFunc := ⟨2, 26, 0, [.tmp 4],
 .seq (.region false [o_ 4 (.mv (.c (.bool false)))])
 (.seq (.seq (.region false [m_ 6 0,
 o_ 7 (.lenSl (.t 6)),
 m_ 8 1,
 o_ 9 (.lenSl (.t 8)),
 b_ 10 .neq 7 9])
 (.cond (.t 10)
 (.seq (.region false [o_ 4 (.mv (.c (.bool false)))])
 (.ret))
 (.skip)))
 (.seq (.seq (.region false [i_ 5 0])
 (.block 0 (.loop [0, 1, 5] (.seq (.seq (.region false [m_ 11 5,
 m_ 12 0,
 o_ 13 (.lenSl (.t 12)),
 b_ 14 .lss 11 13])
 (.cond (.t 14)
 (.skip)
 (.exit 0)))
 (.seq (.block 1 (.seq (.region true [m_ 17 0,
 m_ 18 5,
 o_ 19 (.indexSl 7 (.t 17) (.t 18)),
 o_ 20 (.load true 7 (.t 19) .copy),
 m_ 21 1,
 m_ 22 5,
 o_ 23 (.indexSl 7 (.t 21) (.t 22)),
 o_ 24 (.load true 7 (.t 23) .copy),
 o_ 25 (.eq true (.plain [.int, .int, .int, .int, .int, .int, .bool]) (.t 20) (.t 24))])
 (.cond (.t 25)
 (.seq (.region false [o_ 4 (.mv (.c (.bool false)))])
 (.ret))
 (.skip))))
 (.region false [m_ 15 5,
 c_ 16 .add 15 1,
 m_ 5 16]))))))
 (.seq (.region false [o_ 4 (.mv (.c (.bool true)))])
 (.ret))))⟩
theorem c18 : zat Go.Proofs.Tryz.prog p18 18 = some a18 := by decide +kernel
def p38 : Plan := ⟨[], 1, [((0, 0), hB 0),
 ((1, 5), hP),
 ((5, 10), hL),
 ((5, 16), hL),
 ((9, 2), hL),
 ((11, 5), hL),
 ((13, 2), hL),
 ((13, 8), hS 66)],
 [[1, 2, 5, 6]]⟩
def a38 : AFunc := ⟨2, 72, 1, [.tmp 4],
 .seq (.region false [o_ 2 (.boxL 0 (.t 0)),
 i_ 4 0])
 (.seq (.seq (.region false [m_ 7 1,
 c_ 8 .gtr 7 12,
 m_ 9 8,
 g_ 10 9 false (.fieldAddr 1 (.t 2)),
 g_ 11 9 false (.load true 2 (.t 10) .copy),
 g_ 12 9 false (.callP 63 [(.t 11)]),
 g_ 13 9 false (.un .not (.t 12)),
 o_ 14 (.pick (.t 9) (.c (.bool true)) (.t 13))])
 (.cond (.t 14)
 (.seq (.region false [i_ 4 25])
 (.ret))
 (.skip)))
 (.seq (.seq (.region false [f_ 15 0 2,
 l_ 16 15,
 c_ 17 .eql 16 1])
 (.cond (.t 17)
 (.seq (.region false [i_ 4 1])
 (.ret))
 (.skip)))
 (.seq (.seq (.region false [f_ 18 0 2,
 l_ 19 18,
 c_ 20 .lss 19 2,
 m_ 21 20,
 g_ 22 21 false (.fieldAddr 0 (.t 2)),
 g_ 23 21 false (.load false 1 (.t 22) .copy),
 g_ 24 21 false (.bin .gtr (.t 23) (.c (.int .i64 4))),
 o_ 25 (.pick (.t 21) (.c (.bool true)) (.t 24)),
 m_ 26 25,
 g_ 27 26 false (.fieldAddr 4 (.t 2)),
 g_ 28 26 false (.load false 1 (.t 27) .peek),
 g_ 29 26 false (.lenSl (.t 28)),
 g_ 30 26 false (.bin .lss (.t 29) (.c (.int .i64 1))),
 o_ 31 (.pick (.t 26) (.c (.bool true)) (.t 30)),
 m_ 32 31,
 g_ 33 32 false (.fieldAddr 4 (.t 2)),
 g_ 34 32 false (.load false 1 (.t 33) .peek),
 g_ 35 32 false (.lenSl (.t 34)),
 g_ 36 32 false (.bin .gtr (.t 35) (.c (.int .i64 16))),
 o_ 37 (.pick (.t 32) (.c (.bool true)) (.t 36))])
 (.cond (.t 37)
 (.seq (.region false [i_ 4 25])
 (.ret))
 (.skip)))
 (.seq (.region false [i_ 5 0])
 (.seq (.seq (.region false [i_ 6 0])
 (.block 0 (.loop [1, 2, 5, 6] (.seq (.seq (.region false [m_ 38 6,
 f_ 39 4 2,
 o_ 40 (.load false 1 (.t 39) .peek),
 o_ 41 (.lenSl (.t 40)),
 b_ 42 .lss 38 41,
 m_ 43 42,
 g_ 44 43 true (.mv (.t 5)),
 g_ 45 43 true (.bin .leq (.t 44) (.c (.int .i64 24))),
 o_ 46 (.pick (.t 43) (.t 45) (.c (.bool false)))])
 (.cond (.t 46)
 (.skip)
 (.exit 0)))
 (.seq (.block 1 (.seq (.seq (.region false [f_ 49 0 2,
 l_ 50 49,
 c_ 51 .eql 50 4,
 m_ 52 51,
 g_ 53 52 true (.fieldAddr 4 (.t 2)),
 g_ 54 52 true (.load false 1 (.t 53) .peek),
 g_ 55 52 true (.mv (.t 6)),
 g_ 56 52 true (.indexSl 6 (.t 54) (.t 55)),
 g_ 57 52 true (.fieldAddr 0 (.t 56)),
 g_ 58 52 true (.load false 1 (.t 57) .copy),
 g_ 59 52 true (.bin .neq (.t 58) (.c (.int .i64 1))),
 o_ 60 (.pick (.t 52) (.t 59) (.c (.bool false)))])
 (.cond (.t 60)
 (.seq (.region false [i_ 4 25])
 (.ret))
 (.skip)))
 (.region false [m_ 61 5,
 f_ 62 4 2,
 o_ 63 (.load false 1 (.t 62) .peek),
 m_ 64 6,
 o_ 65 (.indexSl 6 (.t 63) (.t 64)),
 o_ 66 (.load true 6 (.t 65) .copy),
 m_ 67 1,
 c_ 68 .add 67 1,
 o_ 69 (.callF 38 [(.u 66 .share), (.t 68)]),
 b_ 70 .add 61 69,
 m_ 5 70])))
 (.region false [m_ 47 6,
 c_ 48 .add 47 1,
 m_ 6 48]))))))
 (.seq (.region false [m_ 71 5,
 m_ 4 71])
 (.ret)))))))⟩
theorem c38 : zat Go.Proofs.Tryz.prog p38 38 = some a38 := by decide +kernel
def p40 : Plan := ⟨[], 2, [((0, 0), hB 0),
 ((0, 1), hB 1),
 ((2, 2), hU 20),
 ((2, 3), hS 22),
 ((3, 1), hL),
 ((9, 8), hU 38),
 ((9, 9), hS 46),
 ((11, 2), hU 58),
 ((11, 3), hS 60),
 ((12, 2), hU 61),
 ((12, 3), hS 63),
 ((13, 1), hT 64),
 ((14, 1), hT 65),
 ((18, 0), hT 9),
 ((18, 2), hL),
 ((18, 8), hT2 71 78),
 ((18, 9), hT 79),
 ((19, 0), hT 10),
 ((19, 2), hT2 80 81),
 ((19, 3), hT 82),
 ((23, 1), hT 9),
 ((23, 2), hU 92),
 ((23, 6), hS 94),
 ((25, 0), hT 10),
 ((25, 1), hS 98),
 ((26, 5), hU 100),
 ((26, 6), hS 104),
 ((30, 2), hL),
 ((30, 10), { uses := [(110, .share), (115, .share)] }),
 ((30, 11), hS 120),
 ((31, 1), hT 121)],
 [[0, 5, 7, 8], [0, 4, 5, 7, 9, 10, 11], [0, 4, 7, 15, 16]]⟩
def a40 : AFunc := ⟨3, 122, 2, [.tmp 6],
 .seq (.region false [o_ 4 (.boxL 0 (.t 1)),
 o_ 5 (.boxL 1 (.t 2)),
 o_ 6 (.mv (.c .nils))])
 (.seq (.seq (.region false [f_ 17 0 4,
 l_ 18 17,
 c_ 19 .eql 18 1])
 (.cond (.t 19)
 (.seq (.region false [m_ 20 0,
 o_ 21 (.load true 4 (.t 5) .copy),
 o_ 22 (.callP 42 [(.u 20 .share), (.t 21), (.c (.int .i64 0)), (.c (.bool false))]),
 o_ 6 (.mv (.u 22 .share))])
 (.ret))
 (.skip)))
 (.seq (.region false [f_ 23 4 4,
 o_ 24 (.load false 1 (.t 23) .peek),
 o_ 25 (.lenSl (.t 24)),
 m_ 7 25])
 (.seq (.seq (.region false [f_ 26 0 4,
 l_ 27 26,
 c_ 28 .eql 27 4])
 (.cond (.t 28)
 (.seq (.seq (.region false [i_ 8 0])
 (.block 0 (.loop [0, 5, 7, 8] (.seq (.seq (.region false [m_ 29 8,
 m_ 30 7,
 c_ 31 .sub 30 1,
 b_ 32 .lss 29 31])
 (.cond (.t 32)
 (.skip)
 (.exit 0)))
 (.seq (.block 1 (.seq (.region false [f_ 35 3 5,
 l_ 36 35,
 c_ 37 .gtr 36 1])
 (.cond (.t 37)
 (.seq (.region false [m_ 38 0,
 f_ 39 0 5,
 l_ 40 39,
 f_ 41 1 5,
 l_ 42 41,
 f_ 43 2 5,
 l_ 44 43,
 o_ 45 (.build [(.int .i64 0), (.int .i64 0), (.int .i64 0), (.int .i64 0)] [(0, 1, (.t 40)), (1, 1, (.t 42)), (2, 1, (.t 44)), (3, 1, (.c (.int .i64 1)))]),
 o_ 46 (.callP 42 [(.u 38 .share), (.t 45), (.c (.int .i64 0)), (.c (.bool true))]),
 o_ 0 (.mv (.u 46 .share))])
 (.region false [f_ 47 0 5,
 l_ 48 47,
 f_ 49 1 5,
 l_ 50 49,
 c_ 51 .add 50 1,
 f_ 52 2 5,
 l_ 53 52,
 f_ 54 3 5,
 l_ 55 54,
 c_ 56 .sub 55 1,
 o_ 57 (.build [(.int .i64 0), (.int .i64 0), (.int .i64 0), (.int .i64 0)] [(0, 1, (.t 48)), (1, 1, (.t 51)), (2, 1, (.t 53)), (3, 1, (.t 56))]),
 ⟨none, none, false, .store 4 (.t 5) (.t 57), .none⟩]))
 (.region false [m_ 58 0,
 o_ 59 (.build [(.int .i64 0), (.int .i64 0), (.int .i64 0), (.int .i64 0)] []),
 o_ 60 (.callP 42 [(.u 58 .share), (.t 59), (.c (.int .i64 0)), (.c (.bool true))]),
 o_ 0 (.mv (.u 60 .share))]))))
 (.region false [m_ 33 8,
 c_ 34 .add 33 1,
 m_ 8 34]))))))
 (.seq (.region false [m_ 61 0,
 o_ 62 (.load true 4 (.t 5) .copy),
 o_ 63 (.callP 42 [(.u 61 .share), (.t 62), (.c (.int .i64 0)), (.c (.bool false))]),
 o_ 6 (.mv (.u 63 .share))])
 (.ret)))
 (.skip)))
 (.seq (.region false [o_ 64 (.buildSlice 2 [(.int .i64 0), (.int .i64 0)] 0 []),
 o_ 9 (.mv (.u 64 .take))])
 (.seq (.region false [o_ 65 (.buildSlice 1 [(.int .i64 0)] 0 []),
 o_ 10 (.mv (.u 65 .take))])
 (.seq (.seq (.region false [i_ 11 0])
 (.block 2 (.loop [0, 4, 5, 7, 9, 10, 11] (.seq (.seq (.region false [m_ 66 11,
 m_ 67 7,
 b_ 68 .lss 66 67])
 (.cond (.t 68)
 (.skip)
 (.exit 2)))
 (.seq (.block 3 (.seq (.region false [o_ 71 (.mv (.u 9 .take)),
 f_ 72 4 4,
 o_ 73 (.load false 1 (.t 72) .peek),
 m_ 74 11,
 o_ 75 (.indexSl 6 (.t 73) (.t 74)),
 f_ 76 1 75,
 o_ 77 (.load true 2 (.t 76) .copy),
 o_ 78 (.buildSlice 2 [(.int .i64 0), (.int .i64 0)] 1 [(0, (.t 77))]),
 o_ 79 (.append 2 (.u 71 .take) (.u 78 .take)),
 o_ 9 (.mv (.u 79 .take))])
 (.region false [o_ 80 (.mv (.u 10 .take)),
 o_ 81 (.buildSlice 1 [(.int .i64 0)] 1 [(0, (.c (.int .i64 1)))]),
 o_ 82 (.append 1 (.u 80 .take) (.u 81 .take)),
 o_ 10 (.mv (.u 82 .take))])))
 (.region false [m_ 69 11,
 c_ 70 .add 69 1,
 m_ 11 70]))))))
 (.seq (.region false [f_ 83 2 5,
 l_ 84 83,
 m_ 12 84])
 (.seq (.seq (.region false [f_ 85 0 4,
 l_ 86 85,
 c_ 87 .eql 86 3])
 (.cond (.t 87)
 (.region false [f_ 88 3 5,
 l_ 89 88,
 m_ 12 89])
 (.skip)))
 (.seq (.region false [m_ 91 12,
 o_ 92 (.mv (.u 9 .take)),
 o_ 93 (.callP 65 [(.t 91), (.u 92 .share)]),
 m_ 90 93,
 o_ 94 (.extract (.t 90) 0),
 o_ 95 (.extract (.t 90) 1),
 o_ 13 (.mv (.u 94 .share)),
 m_ 14 95])
 (.seq (.seq (.region false [m_ 96 14,
 c_ 97 .neq 96 0])
 (.cond (.t 97)
 (.region false [o_ 98 (.mv (.u 10 .take)),
 o_ 13 (.mv (.u 98 .share))])
 (.skip)))
 (.seq (.region false [o_ 99 (.load true 4 (.t 5) .copy),
 m_ 100 13,
 f_ 101 0 4,
 l_ 102 101,
 c_ 103 .eql 102 3,
 o_ 104 (.callP 66 [(.t 99), (.u 100 .share), (.t 103)]),
 o_ 15 (.mv (.u 104 .share))])
 (.seq (.seq (.region false [i_ 16 0])
 (.block 4 (.loop [0, 4, 7, 15, 16] (.seq (.seq (.region false [m_ 105 16,
 m_ 106 7,
 b_ 107 .lss 105 106])
 (.cond (.t 107)
 (.skip)
 (.exit 4)))
 (.seq (.block 5 (.region true [m_ 110 0,
 f_ 111 4 4,
 o_ 112 (.load false 1 (.t 111) .peek),
 m_ 113 16,
 o_ 114 (.indexSl 6 (.t 112) (.t 113)),
 o_ 115 (.load true 6 (.t 114) .copy),
 m_ 116 15,
 m_ 117 16,
 o_ 118 (.indexSl 4 (.t 116) (.t 117)),
 o_ 119 (.load true 4 (.t 118) .copy),
 o_ 120 (.callF 40 [(.u 110 .share), (.u 115 .share), (.t 119)]),
 o_ 0 (.mv (.u 120 .share))]))
 (.region false [m_ 108 16,
 c_ 109 .add 108 1,
 m_ 16 109]))))))
 (.seq (.region false [m_ 121 0,
 o_ 6 (.mv (.u 121 .take))])
 (.ret))))))))))))))⟩
theorem c40 : zat Go.Proofs.Tryz.prog p40 40 = some a40 := by decide +kernel
def p41 : Plan := ⟨[], 2, [((1, 14), hM 1),
 ((1, 13), hG),
 ((1, 12), hF),
 ((1, 11), hM 0),
 ((1, 9), hM 0),
 ((1, 7), hG),
 ((1, 5), hM 0),
 ((1, 3), hG),
 ((1, 1), hM 0),
 ((0, 0), hB 0),
 ((0, 1), hB 1)],
 []⟩
def a41 : AFunc := ⟨3, 21, 2, [.cell 6 true 4],
 .seq (.region false [o_ 3 (.boxL 0 (.t 0)),
 o_ 6 (.allocL 1 [(.int .i64 0), (.int .i64 0), (.int .i64 0), (.int .i64 0)])])
 (.seq (.region true [f_ 7 0 3,
 ⟨(some 8), none, false, .load false 1 (.t 7) .copy, (.loc 0)⟩,
 m_ 9 1,
 ⟨(some 10), none, false, .callP 67 [(.t 8), (.t 9)], .free⟩,
 f_ 11 1 3,
 ⟨(some 12), none, false, .load false 1 (.t 11) .copy, (.loc 0)⟩,
 m_ 13 2,
 ⟨(some 14), none, false, .callP 67 [(.t 12), (.t 13)], .free⟩,
 f_ 15 2 3,
 ⟨(some 16), none, false, .load false 1 (.t 15) .copy, (.loc 0)⟩,
 f_ 17 3 3,
 ⟨(some 18), none, false, .load false 1 (.t 17) .copy, (.loc 0)⟩,
 ⟨(some 19), none, false, .build [(.int .i64 0), (.int .i64 0), (.int .i64 0), (.int .i64 0)] [(0, 1, (.t 10)), (1, 1, (.t 14)), (2, 1, (.t 16)), (3, 1, (.t 18))], .free⟩,
 ⟨(some 20), none, false, .callP 39 [(.t 19)], .free⟩,
 ⟨none, none, false, .store 4 (.t 6) (.t 20), (.loc 1)⟩])
 (.ret))⟩
theorem c41 : zat Go.Proofs.Tryz.prog p41 41 = some a41 := by decide +kernel
def p42 : Plan := ⟨[], 1, [((0, 0), hB 0),
 ((1, 1), hT 11),
 ((5, 0), hT 9),
 ((5, 6), hT2 18 23),
 ((5, 7), hT 24),
 ((6, 0), hT 9),
 ((6, 8), hT2 25 32),
 ((6, 9), hT 33)],
 [[0, 2, 3, 5, 9, 10]]⟩
def a42 : AFunc := ⟨4, 34, 1, [.tmp 8],
 .seq (.region false [o_ 5 (.boxL 0 (.t 1)),
 o_ 8 (.mv (.c .nils))])
 (.seq (.region false [o_ 11 (.buildSlice 7 [(.int .i64 0), (.int .i64 0), (.int .i64 0), (.int .i64 0), (.int .i64 0), (.int .i64 0), (.bool false)] 0 []),
 o_ 9 (.mv (.u 11 .take))])
 (.seq (.seq (.region false [i_ 10 0])
 (.block 0 (.loop [0, 2, 3, 5, 9, 10] (.seq (.seq (.region false [m_ 12 10,
 m_ 13 0,
 o_ 14 (.lenSl (.t 13)),
 b_ 15 .lss 12 14])
 (.cond (.t 15)
 (.skip)
 (.exit 0)))
 (.seq (.block 1 (.region false [o_ 18 (.mv (.u 9 .take)),
 m_ 19 0,
 m_ 20 10,
 o_ 21 (.indexSl 7 (.t 19) (.t 20)),
 o_ 22 (.load true 7 (.t 21) .copy),
 o_ 23 (.buildSlice 7 [(.int .i64 0), (.int .i64 0), (.int .i64 0), (.int .i64 0), (.int .i64 0), (.int .i64 0), (.bool false)] 1 [(0, (.t 22))]),
 o_ 24 (.append 7 (.u 18 .take) (.u 23 .take)),
 o_ 9 (.mv (.u 24 .take))]))
 (.region false [m_ 16 10,
 c_ 17 .add 16 1,
 m_ 10 17]))))))
 (.seq (.region false [o_ 25 (.mv (.u 9 .take)),
 m_ 26 0,
 o_ 27 (.lenSl (.t 26)),
 o_ 28 (.load true 4 (.t 5) .copy),
 m_ 29 2,
 m_ 30 3,
 o_ 31 (.build [(.int .i64 0), (.int .i64 0), (.int .i64 0), (.int .i64 0), (.int .i64 0), (.int .i64 0), (.bool false)] [(0, 1, (.t 27)), (1, 4, (.t 28)), (5, 1, (.t 29)), (6, 1, (.t 30))]),
 o_ 32 (.buildSlice 7 [(.int .i64 0), (.int .i64 0), (.int .i64 0), (.int .i64 0), (.int .i64 0), (.int .i64 0), (.bool false)] 1 [(0, (.t 31))]),
 o_ 33 (.append 7 (.u 25 .take) (.u 32 .take)),
 o_ 8 (.mv (.u 33 .take))])
 (.ret))))⟩
theorem c42 : zat Go.Proofs.Tryz.prog p42 42 = some a42 := by decide +kernel
def p43 : Plan := ⟨[], 3, [((0, 0), hB 0),
 ((0, 1), hB 1),
 ((0, 2), hB 2),
 ((3, 4), hP),
 ((4, 4), hP)],
 [[2, 3, 4], [2, 3, 4], [2, 3, 4], [2, 3, 4]]⟩
def a43 : AFunc := ⟨2, 75, 3, [.cell 4 true 4],
 .seq (.region false [o_ 2 (.boxL 0 (.t 0)),
 o_ 3 (.boxL 1 (.t 1)),
 o_ 4 (.allocL 2 [(.int .i64 0), (.int .i64 0), (.int .i64 0), (.int .i64 0)])])
 (.seq (.seq (.region false [f_ 5 2 2,
 l_ 6 5,
 c_ 7 .eql 6 0,
 m_ 8 7,
 g_ 9 8 false (.fieldAddr 2 (.t 3)),
 g_ 10 8 false (.load false 1 (.t 9) .copy),
 g_ 11 8 false (.bin .eql (.t 10) (.c (.int .i64 0))),
 o_ 12 (.pick (.t 8) (.c (.bool true)) (.t 11))])
 (.cond (.t 12)
 (.seq (.region false [o_ 13 (.build [(.int .i64 0), (.int .i64 0), (.int .i64 0), (.int .i64 0)] []),
 ⟨none, none, false, .store 4 (.t 4) (.t 13), .none⟩])
 (.ret))
 (.skip)))
 (.seq (.region false [f_ 14 2 2,
 l_ 15 14,
 f_ 16 2 3,
 l_ 17 16,
 o_ 18 (.callP 68 [(.t 15), (.t 17)]),
 f_ 19 2 2,
 s_ 19 18])
 (.seq (.region false [f_ 20 3 2,
 l_ 21 20,
 f_ 22 3 3,
 l_ 23 22,
 o_ 24 (.callP 68 [(.t 21), (.t 23)]),
 f_ 25 3 2,
 s_ 25 24])
 (.seq (.block 0 (.loop [2, 3, 4] (.seq (.seq (.region false [f_ 26 0 2,
 l_ 27 26,
 f_ 28 2 2,
 l_ 29 28,
 b_ 30 .add 27 29,
 f_ 31 0 3,
 l_ 32 31,
 f_ 33 2 3,
 l_ 34 33,
 b_ 35 .add 32 34,
 b_ 36 .gtr 30 35])
 (.cond (.t 36)
 (.skip)
 (.exit 0)))
 (.block 1 (.region false [f_ 37 0 2,
 l_ 38 37,
 c_ 39 .sub 38 1,
 f_ 40 0 2,
 s_ 40 39])))))
 (.seq (.block 2 (.loop [2, 3, 4] (.seq (.seq (.region false [f_ 41 0 2,
 l_ 42 41,
 f_ 43 0 3,
 l_ 44 43,
 b_ 45 .lss 42 44])
 (.cond (.t 45)
 (.skip)
 (.exit 2)))
 (.block 3 (.region false [f_ 46 0 2,
 l_ 47 46,
 c_ 48 .add 47 1,
 f_ 49 0 2,
 s_ 49 48])))))
 (.seq (.block 4 (.loop [2, 3, 4] (.seq (.seq (.region false [f_ 50 1 2,
 l_ 51 50,
 f_ 52 3 2,
 l_ 53 52,
 b_ 54 .add 51 53,
 f_ 55 1 3,
 l_ 56 55,
 f_ 57 3 3,
 l_ 58 57,
 b_ 59 .add 56 58,
 b_ 60 .gtr 54 59])
 (.cond (.t 60)
 (.skip)
 (.exit 4)))
 (.block 5 (.region false [f_ 61 1 2,
 l_ 62 61,
 c_ 63 .sub 62 1,
 f_ 64 1 2,
 s_ 64 63])))))
 (.seq (.block 6 (.loop [2, 3, 4] (.seq (.seq (.region false [f_ 65 1 2,
 l_ 66 65,
 f_ 67 1 3,
 l_ 68 67,
 b_ 69 .lss 66 68])
 (.cond (.t 69)
 (.skip)
 (.exit 6)))
 (.block 7 (.region false [f_ 70 1 2,
 l_ 71 70,
 c_ 72 .add 71 1,
 f_ 73 1 2,
 s_ 73 72])))))
 (.seq (.region false [o_ 74 (.load true 4 (.t 2) .copy),
 ⟨none, none, false, .store 4 (.t 4) (.t 74), .none⟩])
 (.ret)))))))))⟩
theorem c43 : zat Go.Proofs.Tryz.prog p43 43 = some a43 := by decide +kernel
def p63 : Plan := ⟨[], 1, [((0, 0), hB 0)],
 []⟩
def a63 : AFunc := ⟨1, 36, 1, [.tmp 2],
 .seq (.region false [o_ 1 (.boxL 0 (.t 0)),
 o_ 2 (.mv (.c (.bool false)))])
 (.seq (.region false [f_ 3 0 1,
 l_ 4 3,
 c_ 5 .eql 4 0,
 m_ 6 5,
 g_ 7 6 false (.fieldAddr 0 (.t 1)),
 g_ 8 6 false (.load false 1 (.t 7) .copy),
 g_ 9 6 false (.bin .eql (.t 8) (.c (.int .i64 1))),
 g_ 10 6 false (.mv (.t 9)),
 g_ 11 10 true (.fieldAddr 1 (.t 1)),
 g_ 12 10 true (.load false 1 (.t 11) .copy),
 g_ 13 10 true (.bin .geq (.t 12) (.c (.int .i64 1))),
 g_ 14 6 false (.pick (.t 10) (.t 13) (.c (.bool false))),
 g_ 15 6 false (.mv (.t 14)),
 g_ 16 15 true (.fieldAddr 1 (.t 1)),
 g_ 17 15 true (.load false 1 (.t 16) .copy),
 g_ 18 15 true (.bin .leq (.t 17) (.c (.int .i64 200))),
 g_ 19 6 false (.pick (.t 15) (.t 18) (.c (.bool false))),
 o_ 20 (.pick (.t 6) (.c (.bool true)) (.t 19)),
 m_ 21 20,
 g_ 22 21 false (.fieldAddr 0 (.t 1)),
 g_ 23 21 false (.load false 1 (.t 22) .copy),
 g_ 24 21 false (.bin .eql (.t 23) (.c (.int .i64 2))),
 g_ 25 21 false (.mv (.t 24)),
 g_ 26 25 true (.fieldAddr 1 (.t 1)),
 g_ 27 25 true (.load false 1 (.t 26) .copy),
 g_ 28 25 true (.bin .geq (.t 27) (.c (.int .i64 1))),
 g_ 29 21 false (.pick (.t 25) (.t 28) (.c (.bool false))),
 g_ 30 21 false (.mv (.t 29)),
 g_ 31 30 true (.fieldAddr 1 (.t 1)),
 g_ 32 30 true (.load false 1 (.t 31) .copy),
 g_ 33 30 true (.bin .leq (.t 32) (.c (.int .i64 100))),
 g_ 34 21 false (.pick (.t 30) (.t 33) (.c (.bool false))),
 o_ 35 (.pick (.t 21) (.c (.bool true)) (.t 34)),
 m_ 2 35])
 (.ret))⟩
theorem c63 : zat Go.Proofs.Tryz.prog p63 63 = some a63 := by decide +kernel
def p65 : Plan := ⟨[8], 0, [((6, 4), hP),
 ((12, 1), hT 40),
 ((13, 1), hT 41),
 ((23, 0), hT 8),
 ((23, 3), hT2 89 91),
 ((23, 4), hT 92),
 ((24, 0), hT 7),
 ((24, 3), hT2 93 95),
 ((24, 4), hT 96),
 ((25, 0), { mode := .share }),
 ((25, 1), hU 97),
 ((32, 2), hU 121),
 ((32, 3), hT 123),
 ((34, 1), hU 124),
 ((36, 0), hK 8),
 ((37, 4), hU 133),
 ((37, 5), hS 137),
 ((38, 1), hK 8),
 ((38, 3), hK 8),
 ((38, 8), hU 138),
 ((38, 9), hS 146),
 ((39, 1), hS 147)],
 [[0, 1, 6], [0, 1, 7, 8, 9], [0, 1, 7, 8], [0, 1, 7, 8, 11, 12], [0, 7, 8, 13]]⟩
def a65 : AFunc := ⟨2, 148, 0, [.tmp 4, .tmp 5],
 .seq (.region false [o_ 4 (.mv (.c .nils)),
 i_ 5 0])
 (.seq (.seq (.region false [m_ 14 1,
 o_ 15 (.lenSl (.t 14)),
 c_ 16 .eql 15 0,
 m_ 17 16,
 g_ 18 17 false (.mv (.t 0)),
 g_ 19 17 false (.bin .gtr (.t 18) (.c (.int .i64 200))),
 o_ 20 (.pick (.t 17) (.c (.bool true)) (.t 19))])
 (.cond (.t 20)
 (.seq (.region false [o_ 4 (.mv (.c .nils)),
 i_ 5 1])
 (.ret))
 (.skip)))
 (.seq (.seq (.region false [i_ 6 0])
 (.block 0 (.loop [0, 1, 6] (.seq (.seq (.region false [m_ 21 6,
 m_ 22 1,
 o_ 23 (.lenSl (.t 22)),
 b_ 24 .lss 21 23])
 (.cond (.t 24)
 (.skip)
 (.exit 0)))
 (.seq (.block 1 (.seq (.region false [m_ 27 1,
 m_ 28 6,
 o_ 29 (.indexSl 2 (.t 27) (.t 28)),
 o_ 30 (.load true 2 (.t 29) .copy),
 o_ 31 (.callP 63 [(.t 30)]),
 o_ 32 (.un .not (.t 31))])
 (.cond (.t 32)
 (.seq (.region false [o_ 4 (.mv (.c .nils)),
 i_ 5 1])
 (.ret))
 (.skip))))
 (.region false [m_ 25 6,
 c_ 26 .add 25 1,
 m_ 6 26]))))))
 (.seq (.seq (.region false [m_ 33 1,
 o_ 34 (.lenSl (.t 33)),
 c_ 35 .gtr 34 16])
 (.cond (.t 35)
 (.seq (.region false [o_ 4 (.mv (.c .nils)),
 i_ 5 3])
 (.ret))
 (.skip)))
 (.seq (.seq (.region false [m_ 36 0,
 m_ 37 1,
 o_ 38 (.lenSl (.t 37)),
 b_ 39 .lss 36 38])
 (.cond (.t 39)
 (.seq (.region false [o_ 4 (.mv (.c .nils)),
 i_ 5 90])
 (.ret))
 (.skip)))
 (.seq (.region false [o_ 40 (.buildSlice 1 [(.int .i64 0)] 0 []),
 o_ 7 (.mv (.u 40 .take))])
 (.seq (.region false [o_ 41 (.buildSlice 1 [(.int .i64 0)] 0 []),
 k_ 8 41])
 (.seq (.seq (.region false [i_ 9 0])
 (.block 2 (.loop [0, 1, 7, 8, 9] (.seq (.seq (.region false [m_ 42 9,
 m_ 43 1,
 o_ 44 (.lenSl (.t 43)),
 b_ 45 .lss 42 44])
 (.cond (.t 45)
 (.skip)
 (.exit 2)))
 (.seq (.block 3 (.seq (.region false [i_ 10 1])
 (.seq (.seq (.region false [m_ 48 1,
 m_ 49 9,
 o_ 50 (.indexSl 2 (.t 48) (.t 49)),
 f_ 51 0 50,
 l_ 52 51,
 c_ 53 .eql 52 1])
 (.cond (.t 53)
 (.region false [m_ 54 1,
 m_ 55 9,
 o_ 56 (.indexSl 2 (.t 54) (.t 55)),
 f_ 57 1 56,
 l_ 58 57,
 m_ 10 58])
 (.skip)))
 (.seq (.seq (.region false [m_ 59 1,
 m_ 60 9,
 o_ 61 (.indexSl 2 (.t 59) (.t 60)),
 f_ 62 0 61,
 l_ 63 62,
 c_ 64 .eql 63 2,
 m_ 65 64,
 g_ 66 65 true (.mv (.t 0)),
 g_ 67 65 true (.mv (.t 1)),
 g_ 68 65 true (.mv (.t 9)),
 g_ 69 65 true (.indexSl 2 (.t 67) (.t 68)),
 g_ 70 65 true (.fieldAddr 1 (.t 69)),
 g_ 71 65 true (.load false 1 (.t 70) .copy),
 g_ 72 65 true (.bin .mul (.t 66) (.t 71)),
 g_ 73 65 true (.bin .geq (.t 72) (.c (.int .i64 100))),
 o_ 74 (.pick (.t 65) (.t 73) (.c (.bool false)))])
 (.cond (.t 74)
 (.region false [m_ 75 0,
 m_ 76 1,
 m_ 77 9,
 o_ 78 (.indexSl 2 (.t 76) (.t 77)),
 f_ 79 1 78,
 l_ 80 79,
 b_ 81 .mul 75 80,
 c_ 82 .quo 81 100,
 m_ 10 82])
 (.skip)))
 (.seq (.seq (.region false [m_ 83 1,
 m_ 84 9,
 o_ 85 (.indexSl 2 (.t 83) (.t 84)),
 f_ 86 0 85,
 l_ 87 86,
 c_ 88 .eql 87 0])
 (.cond (.t 88)
 (.region false [o_ 89 (.mv (.u 8 .take)),
 m_ 90 9,
 o_ 91 (.buildSlice 1 [(.int .i64 0)] 1 [(0, (.t 90))]),
 o_ 92 (.append 1 (.u 89 .take) (.u 91 .take)),
 k_ 8 92])
 (.skip)))
 (.region false [o_ 93 (.mv (.u 7 .take)),
 m_ 94 10,
 o_ 95 (.buildSlice 1 [(.int .i64 0)] 1 [(0, (.t 94))]),
 o_ 96 (.append 1 (.u 93 .take) (.u 95 .take)),
 o_ 7 (.mv (.u 96 .take))]))))))
 (.region false [m_ 46 9,
 c_ 47 .add 46 1,
 m_ 9 47]))))))
 (.seq (.block 4 (.loop [0, 1, 7, 8] (.seq (.seq (.region false [o_ 97 (.mvK 7),
 o_ 98 (.callP 82 [(.u 97 .share)]),
 m_ 99 0,
 b_ 100 .gtr 98 99])
 (.cond (.t 100)
 (.skip)
 (.exit 4)))
 (.block 5 (.seq (.region false [i_ 11 0])
 (.seq (.seq (.region false [i_ 12 0])
 (.block 6 (.loop [0, 1, 7, 8, 11, 12] (.seq (.seq (.region false [m_ 101 12,
 m_ 102 7,
 o_ 103 (.lenSl (.t 102)),
 b_ 104 .lss 101 103])
 (.cond (.t 104)
 (.skip)
 (.exit 6)))
 (.seq (.block 7 (.seq (.region false [m_ 107 7,
 m_ 108 12,
 o_ 109 (.indexSl 1 (.t 107) (.t 108)),
 l_ 110 109,
 c_ 111 .gtr 110 1,
 m_ 112 111,
 g_ 113 112 true (.mv (.t 1)),
 g_ 114 112 true (.mv (.t 12)),
 g_ 115 112 true (.indexSl 2 (.t 113) (.t 114)),
 g_ 116 112 true (.fieldAddr 0 (.t 115)),
 g_ 117 112 true (.load false 1 (.t 116) .copy),
 g_ 118 112 true (.bin .neq (.t 117) (.c (.int .i64 0))),
 o_ 119 (.pick (.t 112) (.t 118) (.c (.bool false)))])
 (.cond (.t 119)
 (.region false [m_ 120 12,
 m_ 11 120])
 (.skip))))
 (.region false [m_ 105 12,
 c_ 106 .add 105 1,
 m_ 12 106]))))))
 (.region false [m_ 121 7,
 m_ 122 11,
 o_ 123 (.callP 83 [(.u 121 .share), (.t 122), (.c (.int .i64 (-1)))]),
 o_ 7 (.mv (.u 123 .take))])))))))
 (.seq (.seq (.region false [i_ 13 0])
 (.block 8 (.loop [0, 7, 8, 13] (.seq (.seq (.region false [m_ 124 7,
 o_ 125 (.callP 82 [(.u 124 .share)]),
 m_ 126 0,
 b_ 127 .lss 125 126])
 (.cond (.t 127)
 (.skip)
 (.exit 8)))
 (.seq (.block 9 (.seq (.region false [o_ 130 (.mv (.u 8 .peek)),
 o_ 131 (.lenSl (.t 130)),
 c_ 132 .eql 131 0])
 (.cond (.t 132)
 (.region false [m_ 133 7,
 m_ 134 7,
 o_ 135 (.lenSl (.t 134)),
 c_ 136 .sub 135 1,
 o_ 137 (.callP 83 [(.u 133 .share), (.t 136), (.c (.int .i64 1))]),
 o_ 7 (.mv (.u 137 .share))])
 (.region false [m_ 138 7,
 o_ 139 (.mv (.u 8 .peek)),
 m_ 140 13,
 o_ 141 (.mv (.u 8 .peek)),
 o_ 142 (.lenSl (.t 141)),
 b_ 143 .rem 140 142,
 o_ 144 (.indexSl 1 (.t 139) (.t 143)),
 l_ 145 144,
 o_ 146 (.callP 83 [(.u 138 .share), (.t 145), (.c (.int .i64 1))]),
 o_ 7 (.mv (.u 146 .share))]))))
 (.region false [m_ 128 13,
 c_ 129 .add 128 1,
 m_ 13 129]))))))
 (.seq (.region false [m_ 147 7,
 o_ 4 (.mv (.u 147 .share)),
 i_ 5 0])
 (.ret)))))))))))⟩
theorem c65 : zat Go.Proofs.Tryz.prog p65 65 = some a65 := by decide +kernel
def p66 : Plan := ⟨[], 1, [((0, 0), hB 0),
 ((1, 1), hT 10),
 ((5, 4), hP),
 ((7, 3), hP),
 ((8, 0), hT 7),
 ((8, 9), hP),
 ((8, 11), hT2 31 41),
 ((8, 12), hT 42),
 ((10, 3), hP),
 ((11, 0), hT 7),
 ((11, 9), hP),
 ((11, 11), hT2 60 70),
 ((11, 12), hT 71),
 ((13, 0), hT 7),
 ((13, 1), hT 85)],
 [[1, 2, 3, 7, 8]]⟩
def a66 : AFunc := ⟨3, 86, 1, [.tmp 6],
 .seq (.region false [o_ 3 (.boxL 0 (.t 0)),
 o_ 6 (.mv (.c .nils))])
 (.seq (.region false [o_ 10 (.buildSlice 4 [(.int .i64 0), (.int .i64 0), (.int .i64 0), (.int .i64 0)] 0 []),
 o_ 7 (.mv (.u 10 .take))])
 (.seq (.seq (.region false [i_ 8 0])
 (.block 0 (.loop [1, 2, 3, 7, 8] (.seq (.seq (.region false [m_ 11 8,
 m_ 12 1,
 o_ 13 (.lenSl (.t 12)),
 b_ 14 .lss 11 13,
 m_ 15 14,
 g_ 16 15 true (.mv (.t 8)),
 g_ 17 15 true (.bin .lss (.t 16) (.c (.int .i64 16))),
 o_ 18 (.pick (.t 15) (.t 17) (.c (.bool false)))])
 (.cond (.t 18)
 (.skip)
 (.exit 0)))
 (.seq (.block 1 (.seq (.region false [m_ 21 1,
 m_ 22 8,
 o_ 23 (.indexSl 1 (.t 21) (.t 22)),
 l_ 24 23,
 o_ 25 (.callP 84 [(.t 24), (.c (.int .i64 0))]),
 m_ 9 25])
 (.seq (.region false [m_ 26 2])
 (.cond (.t 26)
 (.seq (.region false [m_ 27 9,
 f_ 28 3 3,
 l_ 29 28,
 o_ 30 (.callP 68 [(.t 27), (.t 29)]),
 m_ 9 30])
 (.seq (.region false [o_ 31 (.mv (.u 7 .take)),
 f_ 32 0 3,
 l_ 33 32,
 f_ 34 1 3,
 l_ 35 34,
 f_ 36 2 3,
 l_ 37 36,
 m_ 38 9,
 o_ 39 (.build [(.int .i64 0), (.int .i64 0), (.int .i64 0), (.int .i64 0)] [(0, 1, (.t 33)), (1, 1, (.t 35)), (2, 1, (.t 37)), (3, 1, (.t 38))]),
 o_ 40 (.callP 39 [(.t 39)]),
 o_ 41 (.buildSlice 4 [(.int .i64 0), (.int .i64 0), (.int .i64 0), (.int .i64 0)] 1 [(0, (.t 40))]),
 o_ 42 (.append 4 (.u 31 .take) (.u 41 .take)),
 o_ 7 (.mv (.u 42 .take))])
 (.region false [f_ 43 0 3,
 l_ 44 43,
 f_ 45 1 3,
 l_ 46 45,
 m_ 47 9,
 b_ 48 .add 46 47,
 f_ 49 2 3,
 l_ 50 49,
 f_ 51 3 3,
 l_ 52 51,
 m_ 53 9,
 b_ 54 .sub 52 53,
 o_ 55 (.build [(.int .i64 0), (.int .i64 0), (.int .i64 0), (.int .i64 0)] [(0, 1, (.t 44)), (1, 1, (.t 48)), (2, 1, (.t 50)), (3, 1, (.t 54))]),
 ⟨none, none, false, .store 4 (.t 3) (.t 55), .none⟩])))
 (.seq (.region false [m_ 56 9,
 f_ 57 2 3,
 l_ 58 57,
 o_ 59 (.callP 68 [(.t 56), (.t 58)]),
 m_ 9 59])
 (.seq (.region false [o_ 60 (.mv (.u 7 .take)),
 f_ 61 0 3,
 l_ 62 61,
 f_ 63 1 3,
 l_ 64 63,
 m_ 65 9,
 f_ 66 3 3,
 l_ 67 66,
 o_ 68 (.build [(.int .i64 0), (.int .i64 0), (.int .i64 0), (.int .i64 0)] [(0, 1, (.t 62)), (1, 1, (.t 64)), (2, 1, (.t 65)), (3, 1, (.t 67))]),
 o_ 69 (.callP 39 [(.t 68)]),
 o_ 70 (.buildSlice 4 [(.int .i64 0), (.int .i64 0), (.int .i64 0), (.int .i64 0)] 1 [(0, (.t 69))]),
 o_ 71 (.append 4 (.u 60 .take) (.u 70 .take)),
 o_ 7 (.mv (.u 71 .take))])
 (.region false [f_ 72 0 3,
 l_ 73 72,
 m_ 74 9,
 b_ 75 .add 73 74,
 f_ 76 1 3,
 l_ 77 76,
 f_ 78 2 3,
 l_ 79 78,
 m_ 80 9,
 b_ 81 .sub 79 80,
 f_ 82 3 3,
 l_ 83 82,
 o_ 84 (.build [(.int .i64 0), (.int .i64 0), (.int .i64 0), (.int .i64 0)] [(0, 1, (.t 75)), (1, 1, (.t 77)), (2, 1, (.t 81)), (3, 1, (.t 83))]),
 ⟨none, none, false, .store 4 (.t 3) (.t 84), .none⟩])))))))
 (.region false [m_ 19 8,
 c_ 20 .add 19 1,
 m_ 8 20]))))))
 (.seq (.region false [o_ 85 (.mv (.u 7 .take)),
 o_ 6 (.mv (.u 85 .take))])
 (.ret))))⟩
theorem c66 : zat Go.Proofs.Tryz.prog p66 66 = some a66 := by decide +kernel
def p67 : Plan := ⟨[], 0, [],
 []⟩
def a67 : AFunc := ⟨2, 24, 0, [.tmp 4],
 .seq (.region false [i_ 4 0])
 (.seq (.seq (.region false [m_ 5 1,
 c_ 6 .gtr 5 0,
 m_ 7 6,
 g_ 8 7 true (.mv (.t 0)),
 g_ 9 7 true (.mv (.t 1)),
 g_ 10 7 true (.bin .sub (.c (.int .i64 9223372036854775807)) (.t 9)),
 g_ 11 7 true (.bin .gtr (.t 8) (.t 10)),
 o_ 12 (.pick (.t 7) (.t 11) (.c (.bool false)))])
 (.cond (.t 12)
 (.seq (.region false [i_ 4 9223372036854775807])
 (.ret))
 (.skip)))
 (.seq (.seq (.region false [m_ 13 1,
 c_ 14 .lss 13 0,
 m_ 15 14,
 g_ 16 15 true (.mv (.t 0)),
 g_ 17 15 true (.mv (.t 1)),
 g_ 18 15 true (.bin .sub (.c (.int .i64 (-9223372036854775808))) (.t 17)),
 g_ 19 15 true (.bin .lss (.t 16) (.t 18)),
 o_ 20 (.pick (.t 15) (.t 19) (.c (.bool false)))])
 (.cond (.t 20)
 (.seq (.region false [i_ 4 (-9223372036854775808)])
 (.ret))
 (.skip)))
 (.seq (.region false [m_ 21 0,
 m_ 22 1,
 b_ 23 .add 21 22,
 m_ 4 23])
 (.ret))))⟩
theorem c67 : zat Go.Proofs.Tryz.prog p67 67 = some a67 := by decide +kernel
def p68 : Plan := ⟨[], 0, [],
 []⟩
def a68 : AFunc := ⟨2, 10, 0, [.tmp 4],
 .seq (.region false [i_ 4 0])
 (.seq (.seq (.region false [m_ 5 0,
 m_ 6 1,
 b_ 7 .lss 5 6])
 (.cond (.t 7)
 (.seq (.region false [m_ 8 0,
 m_ 4 8])
 (.ret))
 (.skip)))
 (.seq (.region false [m_ 9 1,
 m_ 4 9])
 (.ret)))⟩
theorem c68 : zat Go.Proofs.Tryz.prog p68 68 = some a68 := by decide +kernel
def p82 : Plan := ⟨[], 0, [],
 [[0, 3, 4]]⟩
def a82 : AFunc := ⟨1, 18, 0, [.tmp 2],
 .seq (.region false [i_ 2 0])
 (.seq (.region false [i_ 3 0])
 (.seq (.seq (.region false [i_ 4 0])
 (.block 0 (.loop [0, 3, 4] (.seq (.seq (.region false [m_ 5 4,
 m_ 6 0,
 o_ 7 (.lenSl (.t 6)),
 b_ 8 .lss 5 7])
 (.cond (.t 8)
 (.skip)
 (.exit 0)))
 (.seq (.block 1 (.region false [m_ 11 3,
 m_ 12 0,
 m_ 13 4,
 o_ 14 (.indexSl 1 (.t 12) (.t 13)),
 l_ 15 14,
 b_ 16 .add 11 15,
 m_ 3 16]))
 (.region false [m_ 9 4,
 c_ 10 .add 9 1,
 m_ 4 10]))))))
 (.seq (.region false [m_ 17 3,
 m_ 2 17])
 (.ret))))⟩
theorem c82 : zat Go.Proofs.Tryz.prog p82 82 = some a82 := by decide +kernel
def p83 : Plan := ⟨[], 0, [((1, 1), hT 9),
 ((6, 0), hT 7),
 ((6, 8), hT2 19 26),
 ((6, 9), hT 27),
 ((7, 0), hT 7),
 ((7, 6), hT2 28 33),
 ((7, 7), hT 34),
 ((8, 0), hT 7),
 ((8, 1), hT 35)],
 [[0, 1, 2, 7, 8]]⟩
def a83 : AFunc := ⟨3, 36, 0, [.tmp 6],
 .seq (.region false [o_ 6 (.mv (.c .nils))])
 (.seq (.region false [o_ 9 (.buildSlice 1 [(.int .i64 0)] 0 []),
 o_ 7 (.mv (.u 9 .take))])
 (.seq (.seq (.region false [i_ 8 0])
 (.block 0 (.loop [0, 1, 2, 7, 8] (.seq (.seq (.region false [m_ 10 8,
 m_ 11 0,
 o_ 12 (.lenSl (.t 11)),
 b_ 13 .lss 10 12])
 (.cond (.t 13)
 (.skip)
 (.exit 0)))
 (.seq (.block 1 (.seq (.region false [m_ 16 8,
 m_ 17 1,
 b_ 18 .eql 16 17])
 (.cond (.t 18)
 (.region false [o_ 19 (.mv (.u 7 .take)),
 m_ 20 0,
 m_ 21 8,
 o_ 22 (.indexSl 1 (.t 20) (.t 21)),
 l_ 23 22,
 m_ 24 2,
 b_ 25 .add 23 24,
 o_ 26 (.buildSlice 1 [(.int .i64 0)] 1 [(0, (.t 25))]),
 o_ 27 (.append 1 (.u 19 .take) (.u 26 .take)),
 o_ 7 (.mv (.u 27 .take))])
 (.region false [o_ 28 (.mv (.u 7 .take)),
 m_ 29 0,
 m_ 30 8,
 o_ 31 (.indexSl 1 (.t 29) (.t 30)),
 l_ 32 31,
 o_ 33 (.buildSlice 1 [(.int .i64 0)] 1 [(0, (.t 32))]),
 o_ 34 (.append 1 (.u 28 .take) (.u 33 .take)),
 o_ 7 (.mv (.u 34 .take))]))))
 (.region false [m_ 14 8,
 c_ 15 .add 14 1,
 m_ 8 15]))))))
 (.seq (.region false [o_ 35 (.mv (.u 7 .take)),
 o_ 6 (.mv (.u 35 .take))])
 (.ret))))⟩
theorem c83 : zat Go.Proofs.Tryz.prog p83 83 = some a83 := by decide +kernel
def p84 : Plan := ⟨[], 0, [],
 []⟩
def a84 : AFunc := ⟨2, 10, 0, [.tmp 4],
 .seq (.region false [i_ 4 0])
 (.seq (.seq (.region false [m_ 5 0,
 m_ 6 1,
 b_ 7 .gtr 5 6])
 (.cond (.t 7)
 (.seq (.region false [m_ 8 0,
 m_ 4 8])
 (.ret))
 (.skip)))
 (.seq (.region false [m_ 9 1,
 m_ 4 9])
 (.ret)))⟩
theorem c84 : zat Go.Proofs.Tryz.prog p84 84 = some a84 := by decide +kernel
def p4 : Plan := ⟨[], 3, [((0, 0), hB 0),
 ((1, 0), hP),
 ((3, 1), hS 10),
 ((3, 5), hB 1),
 ((3, 6), hT 12),
 ((4, 1), hS 15),
 ((4, 5), hB 2),
 ((4, 6), hT 17),
 ((6, 9), hL),
 ((7, 3), hA),
 ((7, 4), hA),
 ((7, 5), { uses := [(43, .share), (44, .share)] }),
 ((7, 8), hA),
 ((7, 9), hS 48)],
 []⟩
def a4 : AFunc := ⟨1, 52, 3, [.tmp 2],
 .seq (.region false [o_ 1 (.boxL 0 (.t 0)),
 o_ 2 (.mv (.c (.bool false)))])
 (.seq (.seq (.region false [o_ 7 (.callP 11 []),
 o_ 8 (.un .not (.t 7))])
 (.cond (.t 8)
 (.seq (.region false [o_ 2 (.mv (.c (.bool false)))])
 (.ret))
 (.skip)))
 (.seq (.region false [o_ 10 (.load true 4 (.t 1) .copy),
 o_ 11 (.callF 19 [(.u 10 .share)]),
 m_ 9 11,
 o_ 12 (.extract (.t 9) 0),
 o_ 13 (.extract (.t 9) 1),
 o_ 3 (.allocL 1 [(.int .i64 0), (.int .i64 0), (.int .i64 0), (.str []), .nils, .nils]),
 ⟨none, none, false, .store 6 (.t 3) (.u 12 .take), .none⟩,
 m_ 4 13])
 (.seq (.region false [o_ 15 (.load true 4 (.t 1) .copy),
 o_ 16 (.callF 20 [(.u 15 .share)]),
 m_ 14 16,
 o_ 17 (.extract (.t 14) 0),
 o_ 18 (.extract (.t 14) 1),
 o_ 5 (.allocL 2 [(.int .i64 0), (.int .i64 0), (.int .i64 0), (.str []), .nils, .nils]),
 ⟨none, none, false, .store 6 (.t 5) (.u 17 .take), .none⟩,
 m_ 6 18])
 (.seq (.seq (.region false [m_ 19 6,
 o_ 20 (.un .not (.t 19))])
 (.cond (.t 20)
 (.seq (.region false [m_ 21 4,
 c_ 22 .eql 21 100,
 m_ 23 22,
 g_ 24 23 true (.fieldAddr 0 (.t 3)),
 g_ 25 23 true (.load false 1 (.t 24) .copy),
 g_ 26 23 true (.bin .eql (.t 25) (.c (.int .i64 0))),
 o_ 27 (.pick (.t 23) (.t 26) (.c (.bool false))),
 m_ 28 27,
 g_ 29 28 true (.fieldAddr 4 (.t 3)),
 g_ 30 28 true (.load false 1 (.t 29) .peek),
 g_ 31 28 true (.lenSl (.t 30)),
 g_ 32 28 true (.bin .eql (.t 31) (.c (.int .i64 0))),
 o_ 33 (.pick (.t 28) (.t 32) (.c (.bool false))),
 m_ 34 33,
 g_ 35 34 true (.fieldAddr 5 (.t 3)),
 g_ 36 34 true (.load false 1 (.t 35) .copy),
 g_ 37 34 true (.lenSl (.t 36)),
 g_ 38 34 true (.bin .eql (.t 37) (.c (.int .i64 0))),
 o_ 39 (.pick (.t 34) (.t 38) (.c (.bool false))),
 m_ 2 39])
 (.ret))
 (.skip)))
 (.seq (.region false [m_ 40 4,
 c_ 41 .eql 40 0,
 m_ 42 41,
 g_ 43 42 true (.load true 6 (.t 3) .take),
 g_ 44 42 true (.load true 6 (.t 5) .take),
 g_ 45 42 true (.callF 21 [(.u 43 .share), (.u 44 .share)]),
 o_ 46 (.pick (.t 42) (.t 45) (.c (.bool false))),
 m_ 47 46,
 g_ 48 47 true (.load true 6 (.t 3) .take),
 g_ 49 47 true (.callF 15 [(.u 48 .share)]),
 g_ 50 47 true (.bin .eql (.t 49) (.c (.int .i64 0))),
 o_ 51 (.pick (.t 47) (.t 50) (.c (.bool false))),
 m_ 2 51])
 (.ret))))))⟩
def v4 : List Nat := [0, 1, 2, 3, 4, 5, 6, 8, 20]
def b4 : List Nat := [0, 1, 2]
theorem c4 : zat Go.Proofs.Tryz.prog p4 4 = some a4 := by decide +kernel
abbrev a19 : AFunc := LayA.a19
def p20 : Plan := ⟨[4, 5], 5, [((23, 3), { uses := [(80, .take)], mark := (.loc 1) }),
 ((23, 1), hM 4),
 ((23, 0), hM 4),
 ((11, 11), hF),
 ((11, 10), hG),
 ((11, 9), hF),
 ((11, 7), hM 2),
 ((11, 5), hM 2),
 ((11, 3), hM 2),
 ((11, 1), hM 2),
 ((0, 0), hB 0),
 ((0, 1), hB 1),
 ((2, 1), hS 15),
 ((3, 1), hT 16),
 ((4, 1), hT 17),
 ((9, 5), hB 2),
 ((9, 6), hT 29),
 ((11, 0), hT 5),
 ((11, 2), hS 34),
 ((11, 4), hS 36),
 ((11, 6), hS 38),
 ((11, 8), hS 40),
 ((11, 12), hT2 33 44),
 ((11, 13), hT 45),
 ((12, 0), hA),
 ((12, 2), hS 47),
 ((12, 6), hB 3),
 ((12, 7), hT 50),
 ((14, 0), hT 4),
 ((14, 1), hA),
 ((14, 2), hS 54),
 ((14, 3), hT2 53 55),
 ((14, 4), hT 56),
 ((15, 0), hK 4),
 ((15, 4), hK 5),
 ((16, 1), hS 65),
 ((17, 0), hK 4),
 ((18, 1), hS 69),
 ((19, 0), hK 4),
 ((19, 3), hB 4),
 ((19, 4), hT 72),
 ((20, 0), hK 4),
 ((21, 0), hT 4),
 ((21, 1), hS 76),
 ((21, 2), hT 77),
 ((22, 0), hT 5),
 ((22, 2), hS 78),
 ((23, 2), hS 81)],
 [[1, 2, 4, 5, 6, 7]]⟩
def a20 : AFunc := ⟨1, 83, 5, [.cell 2 true 6, .tmp 3],
 .seq (.region false [o_ 1 (.boxL 0 (.t 0)),
 o_ 2 (.allocL 1 [(.int .i64 0), (.int .i64 0), (.int .i64 0), (.str []), .nils, .nils]),
 o_ 3 (.mv (.c (.bool false)))])
 (.seq (.seq (.region false [f_ 12 0 1,
 l_ 13 12,
 o_ 14 (.bin .neq (.t 13) (.c (.str [108, 97, 121, 111, 117, 116])))])
 (.cond (.t 14)
 (.seq (.region false [o_ 15 (.build [(.int .i64 0), (.int .i64 0), (.int .i64 0), (.str []), .nils, .nils] []),
 ⟨none, none, false, .store 6 (.t 2) (.u 15 .share), .none⟩,
 o_ 3 (.mv (.c (.bool false)))])
 (.ret))
 (.skip)))
 (.seq (.region false [o_ 16 (.buildSlice 6 [(.int .i64 0), (.int .i64 0), (.int .i64 0), (.str []), .nils, .nils] 0 []),
 k_ 4 16])
 (.seq (.region false [o_ 17 (.buildSlice 4 [(.int .i64 0), (.int .i64 0), (.int .i64 0), (.int .i64 0)] 0 []),
 k_ 5 17])
 (.seq (.region false [i_ 6 0])
 (.seq (.seq (.region false [i_ 7 0])
 (.block 0 (.loop [1, 2, 4, 5, 6, 7] (.seq (.seq (.region false [m_ 18 7,
 f_ 19 3 1,
 l_ 20 19,
 o_ 21 (.lenSl (.t 20)),
 b_ 22 .lss 18 21])
 (.cond (.t 22)
 (.skip)
 (.exit 0)))
 (.seq (.block 1 (.seq (.region false [f_ 25 3 1,
 l_ 26 25,
 m_ 27 7,
 o_ 28 (.indexSl 4 (.t 26) (.t 27)),
 o_ 29 (.load true 4 (.t 28) .copy),
 o_ 8 (.allocL 2 [(.str []), .nils, .nils, .nils]),
 ⟨none, none, false, .store 4 (.t 8) (.u 29 .take), .none⟩])
 (.seq (.seq (.region false [f_ 30 0 8,
 l_ 31 30,
 o_ 32 (.bin .eql (.t 31) (.c (.str [102, 108, 111, 97, 116])))])
 (.cond (.t 32)
 (.seq (.region true [o_ 33 (.mv (.u 5 .take)),
 ⟨(some 34), none, false, .load true 4 (.t 8) .copy, (.loc 2)⟩,
 o_ 35 (.callF 46 [(.u 34 .share), (.c (.str [120]))]),
 ⟨(some 36), none, false, .load true 4 (.t 8) .copy, (.loc 2)⟩,
 o_ 37 (.callF 46 [(.u 36 .share), (.c (.str [121]))]),
 ⟨(some 38), none, false, .load true 4 (.t 8) .copy, (.loc 2)⟩,
 o_ 39 (.callF 46 [(.u 38 .share), (.c (.str [119]))]),
 ⟨(some 40), none, false, .load true 4 (.t 8) .copy, (.loc 2)⟩,
 o_ 41 (.callF 46 [(.u 40 .share), (.c (.str [104]))]),
 ⟨(some 42), none, false, .build [(.int .i64 0), (.int .i64 0), (.int .i64 0), (.int .i64 0)] [(0, 1, (.t 35)), (1, 1, (.t 37)), (2, 1, (.t 39)), (3, 1, (.t 41))], .free⟩,
 ⟨(some 43), none, false, .callP 39 [(.t 42)], .free⟩,
 ⟨(some 44), none, false, .buildSlice 4 [(.int .i64 0), (.int .i64 0), (.int .i64 0), (.int .i64 0)] 1 [(0, (.t 43))], .free⟩,
 o_ 45 (.append 4 (.u 33 .take) (.u 44 .take)),
 k_ 5 45])
 (.exit 1))
 (.skip)))
 (.seq (.region false [o_ 47 (.load true 4 (.t 8) .take),
 m_ 48 6,
 o_ 49 (.callF 47 [(.u 47 .share), (.c (.int .i64 1)), (.t 48)]),
 m_ 46 49,
 o_ 50 (.extract (.t 46) 0),
 o_ 51 (.extract (.t 46) 1),
 o_ 9 (.allocL 3 [(.int .i64 0), (.int .i64 0), (.int .i64 0), (.str []), .nils, .nils]),
 ⟨none, none, false, .store 6 (.t 9) (.u 50 .take), .none⟩,
 m_ 10 51])
 (.seq (.region false [m_ 52 10,
 m_ 6 52])
 (.seq (.region false [o_ 53 (.mv (.u 4 .take)),
 o_ 54 (.load true 6 (.t 9) .take),
 o_ 55 (.buildSlice 6 [(.int .i64 0), (.int .i64 0), (.int .i64 0), (.str []), .nils, .nils] 1 [(0, (.u 54 .share))]),
 o_ 56 (.append 6 (.u 53 .take) (.u 55 .take)),
 k_ 4 56])
 (.seq (.region false [o_ 57 (.mv (.u 4 .peek)),
 o_ 58 (.lenSl (.t 57)),
 c_ 59 .gtr 58 16,
 m_ 60 59,
 g_ 61 60 false (.mv (.u 5 .peek)),
 g_ 62 60 false (.lenSl (.t 61)),
 g_ 63 60 false (.bin .gtr (.t 62) (.c (.int .i64 24))),
 o_ 64 (.pick (.t 60) (.c (.bool true)) (.t 63))])
 (.cond (.t 64)
 (.seq (.region false [o_ 65 (.build [(.int .i64 0), (.int .i64 0), (.int .i64 0), (.str []), .nils, .nils] []),
 ⟨none, none, false, .store 6 (.t 2) (.u 65 .share), .none⟩,
 o_ 3 (.mv (.c (.bool false)))])
 (.ret))
 (.skip)))))))))
 (.region false [m_ 23 7,
 c_ 24 .add 23 1,
 m_ 7 24]))))))
 (.seq (.seq (.region false [o_ 66 (.mv (.u 4 .peek)),
 o_ 67 (.lenSl (.t 66)),
 c_ 68 .eql 67 0])
 (.cond (.t 68)
 (.seq (.region false [o_ 69 (.build [(.int .i64 0), (.int .i64 0), (.int .i64 0), (.str []), .nils, .nils] []),
 ⟨none, none, false, .store 6 (.t 2) (.u 69 .share), .none⟩,
 o_ 3 (.mv (.c (.bool false)))])
 (.ret))
 (.skip)))
 (.seq (.region false [o_ 70 (.mv (.u 4 .peek)),
 o_ 71 (.indexSl 6 (.t 70) (.c (.int .i64 0))),
 o_ 72 (.load true 6 (.t 71) .copy),
 o_ 11 (.allocL 4 [(.int .i64 0), (.int .i64 0), (.int .i64 0), (.str []), .nils, .nils]),
 ⟨none, none, false, .store 6 (.t 11) (.u 72 .take), .none⟩])
 (.seq (.seq (.region false [o_ 73 (.mv (.u 4 .peek)),
 o_ 74 (.lenSl (.t 73)),
 c_ 75 .gtr 74 1])
 (.cond (.t 75)
 (.region false [o_ 76 (.mv (.u 4 .take)),
 o_ 77 (.build [(.int .i64 0), (.int .i64 0), (.int .i64 0), (.str []), .nils, .nils] [(0, 1, (.c (.int .i64 3))), (4, 1, (.u 76 .share))]),
 ⟨none, none, false, .store 6 (.t 11) (.u 77 .take), .none⟩])
 (.skip)))
 (.seq (.region false [o_ 78 (.mv (.u 5 .take)),
 f_ 79 5 11,
 ⟨none, none, false, .store 1 (.t 79) (.u 78 .share), .none⟩])
 (.seq (.region true [⟨(some 80), none, false, .load true 6 (.t 11) .copy, (.loc 4)⟩,
 ⟨(some 81), none, false, .load true 6 (.t 11) .copy, (.loc 4)⟩,
 o_ 82 (.callF 14 [(.u 81 .share)]),
 ⟨none, none, false, .store 6 (.t 2) (.u 80 .take), (.loc 1)⟩,
 m_ 3 82])
 (.ret)))))))))))⟩
def v20 : List Nat := [0, 1, 2, 3, 4, 5, 6, 7, 8, 9, 10, 11, 14, 22, 32, 64, 68, 75]
theorem c20 : zat Go.Proofs.Tryz.prog p20 20 = some a20 := by decide +kernel
def p21 : Plan := ⟨[], 2, [((0, 0), hB 0),
 ((0, 1), hB 1),
 ((1, 4), { uses := [(6, .share), (8, .share)], pure := true }),
 ((1, 8), { uses := [(11, .share), (12, .share)] })],
 []⟩
def a21 : AFunc := ⟨2, 15, 2, [.tmp 4],
 .seq (.region false [o_ 2 (.boxL 0 (.t 0)),
 o_ 3 (.boxL 1 (.t 1)),
 o_ 4 (.mv (.c (.bool false)))])
 (.seq (.region false [f_ 5 5 2,
 l_ 6 5,
 f_ 7 5 3,
 l_ 8 7,
 o_ 9 (.callP 48 [(.u 6 .share), (.u 8 .share)]),
 m_ 10 9,
 g_ 11 10 true (.load true 6 (.t 2) .copy),
 g_ 12 10 true (.load true 6 (.t 3) .copy),
 g_ 13 10 true (.callF 49 [(.u 11 .share), (.u 12 .share)]),
 o_ 14 (.pick (.t 10) (.t 13) (.c (.bool false))),
 m_ 4 14])
 (.ret))⟩
def v21 : List Nat := [0, 1, 2, 3, 4]
theorem c21 : zat Go.Proofs.Tryz.prog p21 21 = some a21 := by decide +kernel
abbrev a44 : AFunc := LayA.a44
abbrev a45 : AFunc := LayA.a45
def p46 : Plan := ⟨[], 2, [((0, 0), hB 0),
 ((1, 2), hS 8),
 ((1, 6), hB 1)],
 []⟩
def a46 : AFunc := ⟨2, 21, 2, [.tmp 4],
 .seq (.region false [o_ 2 (.boxL 0 (.t 0)),
 i_ 4 0])
 (.seq (.region false [o_ 8 (.load true 4 (.t 2) .copy),
 m_ 9 1,
 o_ 10 (.callF 72 [(.u 8 .share), (.t 9)]),
 m_ 7 10,
 o_ 11 (.extract (.t 7) 0),
 o_ 12 (.extract (.t 7) 1),
 o_ 5 (.allocL 1 [(.int .i64 0), (.str []), (.int .i64 0), (.bool false)]),
 ⟨none, none, false, .store 4 (.t 5) (.t 11), .none⟩,
 m_ 6 12])
 (.seq (.seq (.region false [m_ 13 6,
 m_ 14 13,
 g_ 15 14 true (.fieldAddr 0 (.t 5)),
 g_ 16 14 true (.load false 1 (.t 15) .copy),
 g_ 17 14 true (.bin .eql (.t 16) (.c (.int .i64 2))),
 o_ 18 (.pick (.t 14) (.t 17) (.c (.bool false)))])
 (.cond (.t 18)
 (.seq (.region false [f_ 19 2 5,
 l_ 20 19,
 m_ 4 20])
 (.ret))
 (.skip)))
 (.seq (.region false [i_ 4 0])
 (.ret))))⟩
def v46 : List Nat := [0, 1, 2, 4, 5, 6, 18]
theorem c46 : zat Go.Proofs.Tryz.prog p46 46 = some a46 := by decide +kernel
def p47 : Plan := ⟨[], 4, [((0, 0), hB 0),
 ((0, 1), hB 1),
 ((1, 1), hS 12),
 ((1, 3), hB 2),
 ((1, 4), hT 14),
 ((4, 2), hS 23),
 ((8, 1), hL),
 ((8, 6), hL),
 ((9, 1), hL),
 ((10, 0), hA),
 ((10, 2), hS 48),
 ((20, 8), hS 75),
 ((20, 12), hB 3),
 ((20, 13), hS 80),
 ((23, 2), hS 86),
 ((24, 1), hA),
 ((24, 3), hS 90),
 ((24, 4), hT2 89 91),
 ((24, 6), hT 92),
 ((25, 0), hA),
 ((25, 2), hS 94)],
 [[1, 2, 3, 6, 8, 9]]⟩
def a47 : AFunc := ⟨3, 96, 4, [.cell 6 true 6, .tmp 7],
 .seq (.region false [o_ 3 (.boxL 0 (.t 0)),
 o_ 6 (.allocL 1 [(.int .i64 0), (.int .i64 0), (.int .i64 0), (.str []), .nils, .nils]),
 i_ 7 0])
 (.seq (.region false [o_ 12 (.load true 4 (.t 3) .copy),
 o_ 13 (.callF 73 [(.u 12 .share)]),
 o_ 14 (.build [(.int .i64 0), (.int .i64 0), (.int .i64 0), (.str []), .nils, .nils] [(1, 2, (.t 13))]),
 o_ 8 (.allocL 2 [(.int .i64 0), (.int .i64 0), (.int .i64 0), (.str []), .nils, .nils]),
 ⟨none, none, false, .store 6 (.t 8) (.u 14 .take), .none⟩])
 (.seq (.region false [m_ 15 2,
 c_ 16 .add 15 1,
 m_ 2 16])
 (.seq (.seq (.region false [m_ 17 1,
 c_ 18 .gtr 17 12,
 m_ 19 18,
 g_ 20 19 false (.mv (.t 2)),
 g_ 21 19 false (.bin .gtr (.t 20) (.c (.int .i64 288))),
 o_ 22 (.pick (.t 19) (.c (.bool true)) (.t 21))])
 (.cond (.t 22)
 (.seq (.region false [o_ 23 (.build [(.int .i64 0), (.int .i64 0), (.int .i64 0), (.str []), .nils, .nils] []),
 m_ 24 2,
 ⟨none, none, false, .store 6 (.t 6) (.u 23 .share), .none⟩,
 m_ 7 24])
 (.ret))
 (.skip)))
 (.seq (.seq (.region false [f_ 25 0 3,
 l_ 26 25])
 (.block 0 (.seq (.region false [o_ 28 (.bin .eql (.t 26) (.c (.str [112, 97, 110, 101]))),
 m_ 27 28])
 (.cond (.t 27)
 (.seq (.region false [f_ 29 0 8,
 ⟨none, none, false, .store 1 (.t 29) (.c (.int .i64 1)), .none⟩])
 (.seq (.seq (.region false [f_ 30 1 3,
 o_ 31 (.load false 1 (.t 30) .peek),
 o_ 32 (.lenSl (.t 31)),
 c_ 33 .gtr 32 0,
 m_ 34 33,
 g_ 35 34 true (.fieldAddr 1 (.t 3)),
 g_ 36 34 true (.load false 1 (.t 35) .peek),
 g_ 37 34 true (.indexSl 4 (.t 36) (.c (.int .i64 0))),
 g_ 38 34 true (.fieldAddr 0 (.t 37)),
 g_ 39 34 true (.load false 1 (.t 38) .copy),
 g_ 40 34 true (.bin .eql (.t 39) (.c (.int .i64 1))),
 o_ 41 (.pick (.t 34) (.t 40) (.c (.bool false)))])
 (.cond (.t 41)
 (.region false [f_ 42 1 3,
 o_ 43 (.load false 1 (.t 42) .peek),
 o_ 44 (.indexSl 4 (.t 43) (.c (.int .i64 0))),
 f_ 45 1 44,
 l_ 46 45,
 f_ 47 3 8,
 s_ 47 46])
 (.skip)))
 (.seq (.region false [o_ 48 (.load true 6 (.t 8) .take),
 m_ 49 2,
 ⟨none, none, false, .store 6 (.t 6) (.u 48 .share), .none⟩,
 m_ 7 49])
 (.ret))))
 (.seq (.region false [o_ 51 (.bin .eql (.t 26) (.c (.str [99, 111, 108, 115]))),
 m_ 50 51])
 (.cond (.t 50)
 (.region false [f_ 52 0 8,
 ⟨none, none, false, .store 1 (.t 52) (.c (.int .i64 2)), .none⟩])
 (.seq (.region false [o_ 54 (.bin .eql (.t 26) (.c (.str [114, 111, 119, 115]))),
 m_ 53 54])
 (.cond (.t 53)
 (.region false [f_ 55 0 8,
 ⟨none, none, false, .store 1 (.t 55) (.c (.int .i64 3)), .none⟩])
 (.seq (.region false [o_ 57 (.bin .eql (.t 26) (.c (.str [115, 116, 97, 99, 107]))),
 m_ 56 57])
 (.cond (.t 56)
 (.region false [f_ 58 0 8,
 ⟨none, none, false, .store 1 (.t 58) (.c (.int .i64 4)), .none⟩])
 (.skip)))))))))))
 (.seq (.seq (.region false [i_ 9 0])
 (.block 1 (.loop [1, 2, 3, 6, 8, 9] (.seq (.seq (.region false [m_ 59 9,
 f_ 60 3 3,
 l_ 61 60,
 o_ 62 (.lenSl (.t 61)),
 b_ 63 .lss 59 62,
 m_ 64 63,
 g_ 65 64 true (.mv (.t 9)),
 g_ 66 64 true (.bin .leq (.t 65) (.c (.int .i64 16))),
 o_ 67 (.pick (.t 64) (.t 66) (.c (.bool false)))])
 (.cond (.t 67)
 (.skip)
 (.exit 1)))
 (.seq (.block 2 (.seq (.region false [f_ 71 3 3,
 l_ 72 71,
 m_ 73 9,
 o_ 74 (.indexSl 4 (.t 72) (.t 73)),
 o_ 75 (.load true 4 (.t 74) .copy),
 m_ 76 1,
 c_ 77 .add 76 1,
 m_ 78 2,
 o_ 79 (.callF 47 [(.u 75 .share), (.t 77), (.t 78)]),
 m_ 70 79,
 o_ 80 (.extract (.t 70) 0),
 o_ 81 (.extract (.t 70) 1),
 o_ 10 (.allocL 3 [(.int .i64 0), (.int .i64 0), (.int .i64 0), (.str []), .nils, .nils]),
 ⟨none, none, false, .store 6 (.t 10) (.u 80 .share), .none⟩,
 m_ 11 81])
 (.seq (.region false [m_ 82 11,
 m_ 2 82])
 (.seq (.seq (.region false [f_ 83 0 10,
 l_ 84 83,
 c_ 85 .eql 84 0])
 (.cond (.t 85)
 (.seq (.region false [o_ 86 (.build [(.int .i64 0), (.int .i64 0), (.int .i64 0), (.str []), .nils, .nils] []),
 m_ 87 2,
 ⟨none, none, false, .store 6 (.t 6) (.u 86 .share), .none⟩,
 m_ 7 87])
 (.ret))
 (.skip)))
 (.region false [f_ 88 4 8,
 o_ 89 (.load false 1 (.t 88) .take),
 o_ 90 (.load true 6 (.t 10) .copy),
 o_ 91 (.buildSlice 6 [(.int .i64 0), (.int .i64 0), (.int .i64 0), (.str []), .nils, .nils] 1 [(0, (.u 90 .share))]),
 o_ 92 (.append 6 (.u 89 .take) (.u 91 .take)),
 f_ 93 4 8,
 ⟨none, none, false, .store 1 (.t 93) (.u 92 .take), .none⟩])))))
 (.region false [m_ 68 9,
 c_ 69 .add 68 1,
 m_ 9 69]))))))
 (.seq (.region false [o_ 94 (.load true 6 (.t 8) .take),
 m_ 95 2,
 ⟨none, none, false, .store 6 (.t 6) (.u 94 .share), .none⟩,
 m_ 7 95])
 (.ret)))))))⟩
theorem c47 : zat Go.Proofs.Tryz.prog p47 47 = some a47 := by decide +kernel
def p48 : Plan := ⟨[], 0, [],
 [[0, 1, 5]]⟩
def a48 : AFunc := ⟨2, 26, 0, [.tmp 4],
 .seq (.region false [o_ 4 (.mv (.c (.bool false)))])
 (.seq (.seq (.region false [m_ 6 0,
 o_ 7 (.lenSl (.t 6)),
 m_ 8 1,
 o_ 9 (.lenSl (.t 8)),
 b_ 10 .neq 7 9])
 (.cond (.t 10)
 (.seq (.region false [o_ 4 (.mv (.c (.bool false)))])
 (.ret))
 (.skip)))
 (.seq (.seq (.region false [i_ 5 0])
 (.block 0 (.loop [0, 1, 5] (.seq (.seq (.region false [m_ 11 5,
 m_ 12 0,
 o_ 13 (.lenSl (.t 12)),
 b_ 14 .lss 11 13])
 (.cond (.t 14)
 (.skip)
 (.exit 0)))
 (.seq (.block 1 (.seq (.region true [m_ 17 0,
 m_ 18 5,
 o_ 19 (.indexSl 4 (.t 17) (.t 18)),
 o_ 20 (.load true 4 (.t 19) .copy),
 m_ 21 1,
 m_ 22 5,
 o_ 23 (.indexSl 4 (.t 21) (.t 22)),
 o_ 24 (.load true 4 (.t 23) .copy),
 o_ 25 (.eq true (.plain [.int, .int, .int, .int]) (.t 20) (.t 24))])
 (.cond (.t 25)
 (.seq (.region false [o_ 4 (.mv (.c (.bool false)))])
 (.ret))
 (.skip))))
 (.region false [m_ 15 5,
 c_ 16 .add 15 1,
 m_ 5 16]))))))
 (.seq (.region false [o_ 4 (.mv (.c (.bool true)))])
 (.ret))))⟩
theorem c48 : zat Go.Proofs.Tryz.prog p48 48 = some a48 := by decide +kernel
def p49 : Plan := ⟨[], 2, [((0, 0), hB 0),
 ((0, 1), hB 1),
 ((1, 30), hL),
 ((1, 33), hL),
 ((4, 2), hL),
 ((6, 1), hL),
 ((6, 6), hL),
 ((6, 10), { uses := [(60, .share), (65, .share)] })],
 [[2, 3, 5]]⟩
def a49 : AFunc := ⟨2, 68, 2, [.tmp 4],
 .seq (.region false [o_ 2 (.boxL 0 (.t 0)),
 o_ 3 (.boxL 1 (.t 1)),
 o_ 4 (.mv (.c (.bool false)))])
 (.seq (.seq (.region false [f_ 6 0 2,
 l_ 7 6,
 f_ 8 0 3,
 l_ 9 8,
 b_ 10 .neq 7 9,
 m_ 11 10,
 g_ 12 11 false (.fieldAddr 1 (.t 2)),
 g_ 13 11 false (.load true 2 (.t 12) .copy),
 g_ 14 11 false (.fieldAddr 1 (.t 3)),
 g_ 15 11 false (.load true 2 (.t 14) .copy),
 g_ 16 11 false (.eq true (.plain [.int, .int]) (.t 13) (.t 15)),
 o_ 17 (.pick (.t 11) (.c (.bool true)) (.t 16)),
 m_ 18 17,
 g_ 19 18 false (.fieldAddr 0 (.t 2)),
 g_ 20 18 false (.load false 1 (.t 19) .copy),
 g_ 21 18 false (.bin .eql (.t 20) (.c (.int .i64 1))),
 g_ 22 18 false (.mv (.t 21)),
 g_ 23 22 true (.fieldAddr 3 (.t 2)),
 g_ 24 22 true (.load false 1 (.t 23) .copy),
 g_ 25 22 true (.fieldAddr 3 (.t 3)),
 g_ 26 22 true (.load false 1 (.t 25) .copy),
 g_ 27 22 true (.bin .neq (.t 24) (.t 26)),
 g_ 28 18 false (.pick (.t 22) (.t 27) (.c (.bool false))),
 o_ 29 (.pick (.t 18) (.c (.bool true)) (.t 28)),
 m_ 30 29,
 g_ 31 30 false (.fieldAddr 0 (.t 2)),
 g_ 32 30 false (.load false 1 (.t 31) .copy),
 g_ 33 30 false (.bin .neq (.t 32) (.c (.int .i64 1))),
 g_ 34 30 false (.mv (.t 33)),
 g_ 35 34 true (.fieldAddr 4 (.t 2)),
 g_ 36 34 true (.load false 1 (.t 35) .peek),
 g_ 37 34 true (.lenSl (.t 36)),
 g_ 38 34 true (.fieldAddr 4 (.t 3)),
 g_ 39 34 true (.load false 1 (.t 38) .peek),
 g_ 40 34 true (.lenSl (.t 39)),
 g_ 41 34 true (.bin .neq (.t 37) (.t 40)),
 g_ 42 30 false (.pick (.t 34) (.t 41) (.c (.bool false))),
 o_ 43 (.pick (.t 30) (.c (.bool true)) (.t 42))])
 (.cond (.t 43)
 (.seq (.region false [o_ 4 (.mv (.c (.bool false)))])
 (.ret))
 (.skip)))
 (.seq (.seq (.region false [i_ 5 0])
 (.block 0 (.loop [2, 3, 5] (.seq (.seq (.region false [m_ 44 5,
 f_ 45 4 2,
 o_ 46 (.load false 1 (.t 45) .peek),
 o_ 47 (.lenSl (.t 46)),
 b_ 48 .lss 44 47,
 m_ 49 48,
 g_ 50 49 true (.fieldAddr 0 (.t 2)),
 g_ 51 49 true (.load false 1 (.t 50) .copy),
 g_ 52 49 true (.bin .neq (.t 51) (.c (.int .i64 1))),
 o_ 53 (.pick (.t 49) (.t 52) (.c (.bool false)))])
 (.cond (.t 53)
 (.skip)
 (.exit 0)))
 (.seq (.block 1 (.seq (.region true [f_ 56 4 2,
 o_ 57 (.load false 1 (.t 56) .peek),
 m_ 58 5,
 o_ 59 (.indexSl 6 (.t 57) (.t 58)),
 o_ 60 (.load true 6 (.t 59) .copy),
 f_ 61 4 3,
 o_ 62 (.load false 1 (.t 61) .peek),
 m_ 63 5,
 o_ 64 (.indexSl 6 (.t 62) (.t 63)),
 o_ 65 (.load true 6 (.t 64) .copy),
 o_ 66 (.callF 49 [(.u 60 .share), (.u 65 .share)]),
 o_ 67 (.un .not (.t 66))])
 (.cond (.t 67)
 (.seq (.region false [o_ 4 (.mv (.c (.bool false)))])
 (.ret))
 (.skip))))
 (.region false [m_ 54 5,
 c_ 55 .add 54 1,
 m_ 5 55]))))))
 (.seq (.region false [o_ 4 (.mv (.c (.bool true)))])
 (.ret))))⟩
theorem c49 : zat Go.Proofs.Tryz.prog p49 49 = some a49 := by decide +kernel
abbrev a69 : AFunc := LayA.a69
abbrev a70 : AFunc := LayA.a70
abbrev a71 : AFunc := LayA.a71
def p72 : Plan := ⟨[], 2, [((0, 0), hB 0),
 ((0, 1), hB 1),
 ((2, 2), hL),
 ((4, 1), hL),
 ((5, 1), hL)],
 [[1, 2, 4, 6]]⟩
def a72 : AFunc := ⟨2, 29, 2, [.cell 4 true 4, .tmp 5],
 .seq (.region false [o_ 2 (.boxL 0 (.t 0)),
 o_ 4 (.allocL 1 [(.int .i64 0), (.str []), (.int .i64 0), (.bool false)]),
 o_ 5 (.mv (.c (.bool false)))])
 (.seq (.seq (.region false [i_ 6 0])
 (.block 0 (.loop [1, 2, 4, 6] (.seq (.seq (.region false [m_ 7 6,
 f_ 8 2 2,
 o_ 9 (.load false 1 (.t 8) .peek),
 o_ 10 (.lenSl (.t 9)),
 b_ 11 .lss 7 10])
 (.cond (.t 11)
 (.skip)
 (.exit 0)))
 (.seq (.block 1 (.seq (.region false [f_ 14 2 2,
 o_ 15 (.load false 1 (.t 14) .peek),
 m_ 16 6,
 o_ 17 (.indexSl 5 (.t 15) (.t 16)),
 f_ 18 0 17,
 l_ 19 18,
 m_ 20 1,
 b_ 21 .eql 19 20])
 (.cond (.t 21)
 (.seq (.region false [f_ 22 2 2,
 o_ 23 (.load false 1 (.t 22) .peek),
 m_ 24 6,
 o_ 25 (.indexSl 5 (.t 23) (.t 24)),
 f_ 26 1 25,
 o_ 27 (.load true 4 (.t 26) .copy),
 ⟨none, none, false, .store 4 (.t 4) (.t 27), .none⟩,
 o_ 5 (.mv (.c (.bool true)))])
 (.ret))
 (.skip))))
 (.region false [m_ 12 6,
 c_ 13 .add 12 1,
 m_ 6 13]))))))
 (.seq (.region false [o_ 28 (.build [(.int .i64 0), (.str []), (.int .i64 0), (.bool false)] []),
 ⟨none, none, false, .store 4 (.t 4) (.t 28), .none⟩,
 o_ 5 (.mv (.c (.bool false)))])
 (.ret)))⟩
theorem c72 : zat Go.Proofs.Tryz.prog p72 72 = some a72 := by decide +kernel
def p73 : Plan := ⟨[], 3, [((0, 0), hB 0),
 ((0, 1), hB 1),
 ((1, 1), hS 9),
 ((1, 5), hB 2)],
 [[2, 3, 5, 6, 7]]⟩
def a73 : AFunc := ⟨1, 77, 3, [.cell 2 true 2],
 .seq (.region false [o_ 1 (.boxL 0 (.t 0)),
 o_ 2 (.allocL 1 [(.int .i64 0), (.int .i64 0)])])
 (.seq (.region false [o_ 9 (.load true 4 (.t 1) .copy),
 o_ 10 (.callF 72 [(.u 9 .share), (.c (.str [115, 105, 122, 101]))]),
 m_ 8 10,
 o_ 11 (.extract (.t 8) 0),
 o_ 12 (.extract (.t 8) 1),
 o_ 3 (.allocL 2 [(.int .i64 0), (.str []), (.int .i64 0), (.bool false)]),
 ⟨none, none, false, .store 4 (.t 3) (.t 11), .none⟩,
 m_ 4 12])
 (.seq (.seq (.region false [m_ 13 4,
 m_ 14 13,
 g_ 15 14 true (.fieldAddr 0 (.t 3)),
 g_ 16 14 true (.load false 1 (.t 15) .copy),
 g_ 17 14 true (.bin .eql (.t 16) (.c (.int .i64 2))),
 o_ 18 (.pick (.t 14) (.t 17) (.c (.bool false)))])
 (.cond (.t 18)
 (.seq (.region false [f_ 19 2 3,
 l_ 20 19,
 o_ 21 (.build [(.int .i64 0), (.int .i64 0)] [(0, 1, (.c (.int .i64 1))), (1, 1, (.t 20))]),
 ⟨none, none, false, .store 2 (.t 2) (.t 21), .none⟩])
 (.ret))
 (.skip)))
 (.seq (.region false [f_ 22 1 3,
 l_ 23 22,
 o_ 24 (.lenStr (.t 23)),
 c_ 25 .sub 24 1,
 m_ 5 25])
 (.seq (.seq (.region false [m_ 26 4,
 m_ 27 26,
 g_ 28 27 true (.fieldAddr 0 (.t 3)),
 g_ 29 27 true (.load false 1 (.t 28) .copy),
 g_ 30 27 true (.bin .eql (.t 29) (.c (.int .i64 1))),
 o_ 31 (.pick (.t 27) (.t 30) (.c (.bool false))),
 m_ 32 31,
 g_ 33 32 true (.mv (.t 5)),
 g_ 34 32 true (.bin .geq (.t 33) (.c (.int .i64 1))),
 o_ 35 (.pick (.t 32) (.t 34) (.c (.bool false))),
 m_ 36 35,
 g_ 37 36 true (.mv (.t 5)),
 g_ 38 36 true (.bin .leq (.t 37) (.c (.int .i64 3))),
 o_ 39 (.pick (.t 36) (.t 38) (.c (.bool false))),
 m_ 40 39,
 g_ 41 40 true (.fieldAddr 1 (.t 3)),
 g_ 42 40 true (.load false 1 (.t 41) .copy),
 g_ 43 40 true (.mv (.t 5)),
 g_ 44 40 true (.indexStr (.t 42) (.t 43)),
 g_ 45 40 true (.bin .eql (.t 44) (.c (.int .u8 37))),
 o_ 46 (.pick (.t 40) (.t 45) (.c (.bool false)))])
 (.cond (.t 46)
 (.seq (.region false [i_ 6 0])
 (.seq (.seq (.region false [i_ 7 0])
 (.block 0 (.loop [2, 3, 5, 6, 7] (.seq (.seq (.region false [m_ 47 7,
 m_ 48 5,
 b_ 49 .lss 47 48])
 (.cond (.t 49)
 (.skip)
 (.exit 0)))
 (.seq (.block 1 (.seq (.seq (.region false [f_ 52 1 3,
 l_ 53 52,
 m_ 54 7,
 o_ 55 (.indexStr (.t 53) (.t 54)),
 o_ 56 (.bin .lss (.t 55) (.c (.int .u8 48))),
 m_ 57 56,
 g_ 58 57 false (.fieldAddr 1 (.t 3)),
 g_ 59 57 false (.load false 1 (.t 58) .copy),
 g_ 60 57 false (.mv (.t 7)),
 g_ 61 57 false (.indexStr (.t 59) (.t 60)),
 g_ 62 57 false (.bin .gtr (.t 61) (.c (.int .u8 57))),
 o_ 63 (.pick (.t 57) (.c (.bool true)) (.t 62))])
 (.cond (.t 63)
 (.seq (.region false [o_ 64 (.build [(.int .i64 0), (.int .i64 0)] []),
 ⟨none, none, false, .store 2 (.t 2) (.t 64), .none⟩])
 (.ret))
 (.skip)))
 (.region false [m_ 65 6,
 c_ 66 .mul 65 10,
 f_ 67 1 3,
 l_ 68 67,
 m_ 69 7,
 o_ 70 (.indexStr (.t 68) (.t 69)),
 o_ 71 (.bin .sub (.t 70) (.c (.int .u8 48))),
 o_ 72 (.conv .i64 (.t 71)),
 b_ 73 .add 66 72,
 m_ 6 73])))
 (.region false [m_ 50 7,
 c_ 51 .add 50 1,
 m_ 7 51]))))))
 (.seq (.region false [m_ 74 6,
 o_ 75 (.build [(.int .i64 0), (.int .i64 0)] [(0, 1, (.c (.int .i64 2))), (1, 1, (.t 74))]),
 ⟨none, none, false, .store 2 (.t 2) (.t 75), .none⟩])
 (.ret))))
 (.skip)))
 (.seq (.region false [o_ 76 (.build [(.int .i64 0), (.int .i64 0)] []),
 ⟨none, none, false, .store 2 (.t 2) (.t 76), .none⟩])
 (.ret))))))⟩
theorem c73 : zat Go.Proofs.Tryz.prog p73 73 = some a73 := by decide +kernel
abbrev a85 : AFunc := LayA.a85
abbrev v85 : List Nat := LayA.v85
abbrev a86 : AFunc := LayA.a86
abbrev a104 : AFunc := LayA.a104
abbrev a105 : AFunc := LayA.a105
def zng : List (Nat × AFunc) := [(58, a58), (34, a34), (15, a15), (55, a55), (25, a25), (60, a60), (28, a28), (36, a36), (57, a57), (80, a80), (56, a56), (59, a59), (27, a27), (81, a81), (35, a35), (62, a62), (37, a37), (13, a13), (26, a26), (7, a7), (8, a8), (9, a9), (10, a10), (12, a12), (29, a29), (61, a61), (32, a32), (30, a30), (31, a31), (33, a33), (53, a53), (23, a23), (64, a64), (39, a39), (54, a54), (24, a24), (6, a6), (3, a3), (14, a14), (16, a16), (17, a17), (18, a18), (38, a38), (40, a40), (41, a41), (42, a42), (43, a43), (63, a63), (65, a65), (66, a66), (67, a67), (68, a68), (82, a82), (83, a83), (84, a84), (4, a4), (19, a19), (20, a20), (21, a21), (44, a44), (45, a45), (46, a46), (47, a47), (48, a48), (49, a49), (69, a69), (70, a70), (71, a71), (72, a72), (73, a73), (85, a85), (86, a86), (104, a104), (105, a105)]
def ET : Table := zkM zng lyX
theorem ziC : zna Go.Proofs.Tryz.prog zng := ⟨zae LayA.c58, zae LayA.c34, zae LayA.c15, zae LayA.c55, zae LayA.c25, zae LayA.c60, zae LayA.c28, zae LayA.c36, zae LayA.c57, zae LayA.c80, zae LayA.c56, zae LayA.c59, zae LayA.c27, zae LayA.c81, zae LayA.c35, zae LayA.c62, zae LayA.c37, zae LayA.c13, zae LayA.c26, zae c7, zae c8, zae c9, zae c10, zae LayA.c12, zae c29, zae LayA.c61, zae c32, zae c30, zae c31, zae c33, zae LayA.c53, zae LayA.c23, zae c64, zae c39, zae c54, zae c24, zae c6, zae c3, zae c14, zae c16, zae c17, zae c18, zae c38, zae c40, zae c41, zae c42, zae c43, zae c63, zae c65, zae c66, zae c67, zae c68, zae c82, zae c83, zae c84, zae c4, zae LayA.c19, zae c20, zae c21, zae LayA.c44, zae LayA.c45, zae c46, zae c47, zae c48, zae c49, zae LayA.c69, zae LayA.c70, zae LayA.c71, zae c72, zae c73, zae LayA.c85, zae LayA.c86, zae LayA.c104, zae LayA.c105, trivial⟩
end Go.Proofs.YtakdnfneikbjjaaGreatDoor.Am.Lay10

set_option linter.all false
namespace Go.Proofs.LyUint
open Go.RowKit Go.Shelf
theorem mixed : Tryz.prog.follows .mixedOrders = true := by kernel_rfl
def Told (n : Lib.NumEnd Nat) (e : Ending) : Prop := match n with
 | .ok v => e = .returned (.tuple #[.int .u64 v, .nilIface])
 | .range => ∃ t x, e = .returned (.tuple #[.int .u64 65535, .iface t x])
 | _ => ∃ t x, e = .returned (.tuple #[.int .u64 0, .iface t x])
set_option maxHeartbeats 4000000 in
set_option maxRecDepth 100000 in
theorem calls (s : ByteArray) (hlim : s.size ≤ 281474976710656) (w : World) (ev er : Value) (hv : w.cell? ⟨1, 0, none⟩ = some ev) (hev : ev = .nilIface ∨ ∃ te pe, ev = .iface te pe) (hr : w.cell? ⟨2, 0, none⟩ = some er) (her : er = .nilIface ∨ ∃ te pe, er = .iface te pe) :
  Calls Tryz.prog 87 #[.string s, .int .i64 10, .int .i64 16] w fun e w' => Told (Lib.parseUintB 16 s.data.toList) e ∧ Below w.heap.size w w' := by
 have L := Tryz.laysC174
 have e106 : ∀ args w, (callFunc 106 args).run Tryz.prog w = .ok (.enter 106 args) w := enters_of Tryz.func106 (by kernel_rfl) rfl
 have e107 : ∀ args w, (callFunc 107 args).run Tryz.prog w = .ok (.enter 107 args) w := enters_of Tryz.func107 (by kernel_rfl) rfl
 have hG : 1 < w.heap.size := Lib.lt_of_cell hv
 have hG2 : 2 < w.heap.size := Lib.lt_of_cell hr
 have hI : Calls Tryz.prog 106 #[.string s, .int .i64 10, .int .i64 16] w fun e w' => e = .returned (Lib.uintTupleM 160 65535 (Lib.parseUintB 16 s.data.toList)) ∧ (w' = w ∨ w' = Lib.bytesWorld w 5 s) := Any.internal_strconv_ParseUint_10_at16 { L with } s (by omega) w
 have hb : ∀ W1, (W1 = w ∨ W1 = Lib.bytesWorld w 5 s) → Below w.heap.size w W1 := fun W1 h => by
  rcases h with rfl | rfl
  ·exact Below.refl _ _
  ·exact Lib.bytesWorld_below _ _ _
 cases hp : Lib.parseUintB 16 s.data.toList with
 | ok v =>
  rw [hp] at hI
  have hI : Calls Tryz.prog 106 #[.string s, .int .i64 10, .int .i64 16] w fun e w' => e = .returned (.tuple #[.int .u64 v, .nilIface]) ∧ (w' = w ∨ w' = Lib.bytesWorld w 5 s) := hI
  clear hp
  go_enter Tryz.func87, Tryz.ntmps87
  go_wp2_with (go_at_fn 106; refine hI.mono ?_; rintro e W1 ⟨rfl, hW⟩)
  go_wp2
  go_ret2
  exact ⟨rfl, hb _ hW⟩
 | range =>
  rw [hp] at hI
  have hI : Calls Tryz.prog 106 #[.string s, .int .i64 10, .int .i64 16] w fun e w' => e = .returned (.tuple #[.int .u64 65535, .iface 160 (.int .i64 1)]) ∧ (w' = w ∨ w' = Lib.bytesWorld w 5 s) := hI
  clear hp
  have hT : ∀ W, W.cell? ⟨2, 0, none⟩ = some er → Calls Tryz.prog 107 #[.string ⟨#[80, 97, 114, 115, 101, 85, 105, 110, 116]⟩, .string s, .int .i64 10, .int .i64 16, .iface 160 (.int .i64 1)] W fun e w' => ∃ N, e = .returned (.iface 164 (.pointer (some ⟨N, 0, none⟩))) ∧ W.heap.size ≤ N ∧ w'.heap[N]? = some (.cells #[.string ⟨#[80, 97, 114, 115, 101, 85, 105, 110, 116]⟩, .string s, er] 172 (0, 0)) ∧ Below W.heap.size W w' := fun W hW => Any.strconv_toError_range { L with } ⟨#[80, 97, 114, 115, 101, 85, 105, 110, 116]⟩ s 10 16 er W hlim hW her
  go_enter Tryz.func87, Tryz.ntmps87
  go_wp2_with (go_at_fn 106; refine hI.mono ?_)
  rintro e W1 ⟨rfl, hW⟩
  have hb1 := hb W1 hW
  have hv1 : W1.cell? ⟨2, 0, none⟩ = some er := (hb1.cell (show (⟨2, 0, none⟩ : Addr).block < w.heap.size from hG2)).trans hr
  clear hW
  go_wp2_with (go_at_fn 107; refine (hT _ ?_).mono ?_)
  ·exact hv1
  rintro e W2 ⟨N, rfl, h1, h2, h3⟩
  go_wp2
  go_ret2
  exact ⟨⟨_, _, rfl⟩, hb1.trans (h3.mono hb1.size)⟩
 | _ =>
  rw [hp] at hI
  have hI : Calls Tryz.prog 106 #[.string s, .int .i64 10, .int .i64 16] w fun e w' => e = .returned (.tuple #[.int .u64 0, .iface 160 (.int .i64 2)]) ∧ (w' = w ∨ w' = Lib.bytesWorld w 5 s) := hI
  clear hp
  have hT : ∀ W, W.cell? ⟨1, 0, none⟩ = some ev → Calls Tryz.prog 107 #[.string ⟨#[80, 97, 114, 115, 101, 85, 105, 110, 116]⟩, .string s, .int .i64 10, .int .i64 16, .iface 160 (.int .i64 2)] W fun e w' => ∃ N, e = .returned (.iface 164 (.pointer (some ⟨N, 0, none⟩))) ∧ W.heap.size ≤ N ∧ w'.heap[N]? = some (.cells #[.string ⟨#[80, 97, 114, 115, 101, 85, 105, 110, 116]⟩, .string s, ev] 172 (0, 0)) ∧ Below W.heap.size W w' := fun W hW => Any.strconv_toError_syntax { L with } ⟨#[80, 97, 114, 115, 101, 85, 105, 110, 116]⟩ s 10 16 ev W hlim hW hev
  go_enter Tryz.func87, Tryz.ntmps87
  go_wp2_with (go_at_fn 106; refine hI.mono ?_)
  rintro e W1 ⟨rfl, hW⟩
  have hb1 := hb W1 hW
  have hv1 : W1.cell? ⟨1, 0, none⟩ = some ev := (hb1.cell (show (⟨1, 0, none⟩ : Addr).block < w.heap.size from hG)).trans hv
  clear hW
  go_wp2_with (go_at_fn 107; refine (hT _ ?_).mono ?_)
  ·exact hv1
  rintro e W2 ⟨N, rfl, h1, h2, h3⟩
  go_wp2
  go_ret2
  exact ⟨⟨_, _, rfl⟩, hb1.trans (h3.mono hb1.size)⟩
end Go.Proofs.LyUint

set_option linter.all false
namespace Go.Proofs.YtakdnfneikbjjaaGreatDoor.Am.LayA
theorem zkO {s : List UInt8} {n : Int} (hn : Lib.parseIntB 64 s = .ok n) (hl : s.length ≤ 1000) (m : List (List V)) : zc7 Go.Proofs.Tryz.prog 97 [.str s, .int .i64 10, .int .i64 64] m (.tuple [.int .i64 n, .nili]) m := by
 intro g w fr vs hsz hok _ hS
 obtain ⟨v0, v1, v2, rfl⟩ : ∃ v0 v1 v2, vs = #[v0, v1, v2] := by
  have : vs.size = 3 := hsz
  refine ⟨vs[0], vs[1], vs[2], ?_⟩
  apply Array.ext
  ·simpa using this
  ·intro i h1 h2
   have : i = 0 ∨ i = 1 ∨ i = 2 := by omega
   rcases this with rfl | rfl | rfl <;> rfl
 have hS : SR g w 0 fr (fun _ => false) ⟨fun _ => .undef, fun _ => [], m⟩ #[] [(.str s, v0), (.int .i64 10, v1), (.int .i64 64, v2)] := hS
 obtain ⟨b0, rfl, h0⟩ := R3.str (hS.pend _ (.head _))
 have h1 := R3.int (hS.pend _ (.tail _ (.head _)))
 have h2 := R3.int (hS.pend _ (.tail _ (.tail _ (.head _))))
 simp only at h1 h2
 subst h1
 subst h2
 subst h0
 have hb : b0.size ≤ 9223372036854775806 := by
  have : b0.data.toList.length = b0.size := by simp
  omega
 refine (Go.Proofs.Any.strconv_ParseInt_10_at64_ok Go.Proofs.Tryz.laysC174 b0 hb n hn w).mono ?_
 rintro e w' ⟨rfl, hw⟩
 have hB : RowKit.Below w.heap.size w w' := by
  rcases hw with rfl | ⟨t, rfl⟩
  ·exact RowKit.Below.refl _ _
  ·exact Lib.bytesWorld_below _ _ _
 have h5 : ∀ c, c < w.heap.size → Same w w' c := fun c hc => hB.block c hc
 have hD := (hS.world hB.size h5).drop.drop.drop
 refine ⟨_, g, rfl, hD.add (x := .tuple [.int .i64 n, .nili]) ⟨#[.int .i64 n, .nilIface], rfl, rfl, fun k hk => ?_⟩ rfl (fun d hd => by cases hd), ⟨hB.os, hB.tape, hB.output, hB.size, fun c hc => ⟨hc, h5 c (hS.pers_lt hc)⟩, fun c hc => h5 c (hS.fr_lt hc), fun _ _ => rfl⟩, Nat.le_refl _, fun x => by simp [V.root?], fun j o => by simp⟩
 have hk : k = 0 ∨ k = 1 := by simp only [List.length_cons, List.length_nil] at hk; omega
 rcases hk with rfl | rfl
 ·exact ⟨.inl rfl, RB.int _ _⟩
 ·exact ⟨.inl rfl, RB.nili⟩
theorem zou : Good Go.Proofs.Tryz.prog lyA := by
 intro f args m r m' h
 unfold lyA at h
 split at h
 ·split at h
  ·split at h
   ·simp only [yaa, yac] at h
    obtain ⟨rfl, rfl⟩ := h
    exact ⟨⟨_, Go.Proofs.Tryz.func97, rfl, rfl⟩, zkO (by assumption) (by assumption) m⟩
   ·cases h
  ·cases h
 ·cases h
theorem ET0_ok : TableOK Go.Proofs.Tryz.prog ET0 := zic ziC zou
set_option maxRecDepth 100000 in
theorem alive_true : ziB (evF ET0 60 60 11 [] []) = true := by decide +kernel
end Go.Proofs.YtakdnfneikbjjaaGreatDoor.Am.LayA
namespace Go.Proofs.YtakdnfneikbjjaaGreatDoor.Am.Lay10
open Go.Proofs.LyUint
theorem zls {g : G} {w : World} (hL : Laid Go.Proofs.Tryz.prog g w) {n : Nat} (hn : (n, 1, [[V.erri]]) ∈ Lay.tab Go.Proofs.Tryz.prog) : ∃ ev, w.cell? ⟨n, 0, none⟩ = some ev ∧ (ev = .nilIface ∨ ∃ te pe, ev = .iface te pe) := by
 obtain ⟨_, hE⟩ := hL.1 _ hn
 obtain ⟨v, hv, hr⟩ := hE.2 0 0 (by simp) (by simp)
 refine ⟨v, hv, .inr ?_⟩
 cases hr
 exact ⟨_, _, rfl⟩
theorem zmh {s : List UInt8} (hl : s.length ≤ 281474976710656) (m : List (List V)) : zc7 Go.Proofs.Tryz.prog 87 [.str s, .int .i64 10, .int .i64 16] m (uRes (Lib.parseUintB 16 s)) m := by
 intro g w fr vs hsz hok hL hS
 obtain ⟨v0, v1, v2, rfl⟩ : ∃ v0 v1 v2, vs = #[v0, v1, v2] := by
  have : vs.size = 3 := hsz
  refine ⟨vs[0], vs[1], vs[2], ?_⟩
  apply Array.ext
  ·simpa using this
  ·intro i h1 h2
   have : i = 0 ∨ i = 1 ∨ i = 2 := by omega
   rcases this with rfl | rfl | rfl <;> rfl
 have hS : SR g w 0 fr (fun _ => false) ⟨fun _ => .undef, fun _ => [], m⟩ #[] [(.str s, v0), (.int .i64 10, v1), (.int .i64 16, v2)] := hS
 obtain ⟨b0, rfl, h0⟩ := R3.str (hS.pend _ (.head _))
 have h1 := R3.int (hS.pend _ (.tail _ (.head _)))
 have h2 := R3.int (hS.pend _ (.tail _ (.tail _ (.head _))))
 simp only at h1 h2
 subst h1
 subst h2
 subst h0
 have hb : b0.size ≤ 281474976710656 := by
  have : b0.data.toList.length = b0.size := by simp
  omega
 obtain ⟨ev, hv, hev⟩ := zls hL (n := 1) (.head _)
 obtain ⟨er, hr, her⟩ := zls hL (n := 2) (.tail _ (.head _))
 refine (calls b0 hb w ev er hv hev hr her).mono ?_
 rintro e w' ⟨hT, hB⟩
 have h5 : ∀ c, c < w.heap.size → Same w w' c := fun c hc => hB.block c hc
 have hD := (hS.world hB.size h5).drop.drop.drop
 have key : ∀ (n : Int) (x : V) (v : Value), RB g.pers w' x v → (x = .nili ∨ x = .erri) → e = .returned (.tuple #[.int .u64 n, v]) → uRes (Lib.parseUintB 16 b0.data.toList) = .tuple [.int .u64 n, x] →
   ∃ v g', e = .returned v ∧ SR g' w' 0 fr (fun _ => false) ⟨fun _ => .undef, fun _ => [], m⟩ #[] [(uRes (Lib.parseUintB 16 b0.data.toList), v)] ∧ Ext fr m.length g w g' w' ∧ m.length ≤ m.length ∧ (∀ x, (uRes (Lib.parseUintB 16 b0.data.toList)).root? ≠ some x) ∧ ∀ j o, uRes (Lib.parseUintB 16 b0.data.toList) ≠ .loc j o := by
  rintro n x v hx hc rfl hu
  rw [hu]
  refine ⟨_, g, rfl, hD.add (x := .tuple [.int .u64 n, x]) ⟨#[.int .u64 n, v], rfl, rfl, fun k hk2 => ?_⟩ ?_ (fun d hd => by cases hd), ⟨hB.os, hB.tape, hB.output, hB.size, fun c hc => ⟨hc, h5 c (hS.pers_lt hc)⟩, fun c hc => h5 c (hS.fr_lt hc), fun _ _ => rfl⟩, Nat.le_refl _, fun x => by simp [V.root?], fun j o => by simp⟩
  ·have hk2 : k = 0 ∨ k = 1 := by simp only [List.length_cons, List.length_nil] at hk2; omega
   rcases hk2 with rfl | rfl
   ·exact ⟨.inl rfl, RB.int _ _⟩
   ·rcases hc with rfl | rfl
    ·exact ⟨.inl rfl, hx⟩
    ·exact ⟨.inl rfl, hx⟩
  ·rcases hc with rfl | rfl <;> rfl
 cases hp : Lib.parseUintB 16 b0.data.toList with
 | ok v =>
  rw [hp] at hT key
  exact key v .nili _ .nili (.inl rfl) hT rfl
 | range =>
  rw [hp] at hT key
  obtain ⟨t, x, hT⟩ := hT
  exact key 65535 .erri _ (.erri t x) (.inr rfl) hT rfl
 | _ =>
  rw [hp] at hT key
  obtain ⟨t, x, hT⟩ := hT
  exact key 0 .erri _ (.erri t x) (.inr rfl) hT rfl
theorem zpi : Good Go.Proofs.Tryz.prog lyX := by
 intro f args m r m' h
 unfold lyX at h
 split at h
 ·simp only [yaa, yac] at h
  obtain ⟨rfl, rfl⟩ := h
  obtain ⟨h1, h2⟩ := zi8 LayA.ET0_ok (zot LayA.alive_true)
  exact ⟨h1, h2.anyMem m⟩
 ·split at h
  ·simp only [yaa, yac] at h
   obtain ⟨rfl, rfl⟩ := h
   exact ⟨⟨_, Go.Proofs.Tryz.func87, rfl, rfl⟩, zmh (by assumption) m⟩
  ·cases h
 ·cases h
theorem zpT : TableOK Go.Proofs.Tryz.prog ET := zic ziC zpi
end Go.Proofs.YtakdnfneikbjjaaGreatDoor.Am.Lay10

namespace Go.Proofs.YtakdnfneikbjjaaGreatDoor.Am
inductive Fits (P : Program) : TypeId → List V → Prop
 | bool {t : TypeId} (b : Bool) (h : P.underlying t = some .bool) : Fits P t [.bool b]
 | int {t : TypeId} {k : IntKind} (n : Int) (h : P.underlying t = some (.int k)) (hn : (Lit.int k n).wf = true) : Fits P t [.int k n]
 | str {t : TypeId} (s : List UInt8) (h : P.underlying t = some .string) (hs : s.length ≤ maxLen) : Fits P t [.str s]
 | nils {t e : TypeId} (h : P.underlying t = some (.slice e)) : Fits P t [.nils]
 | slice {t e : TypeId} (xs : List (List V)) (h : P.underlying t = some (.slice e)) (hl : xs.length ≤ maxLen) (hx : ∀ i, i < xs.length → Fits P e (xs.getD i [])) : Fits P t [.slice false (P.cellsOf e) xs]
 | struct {t : TypeId} {fs : Array Field} (cs : List V) (h : P.underlying t = some (.struct fs)) (hl : cs.length = P.cellsOf t) (hf : ∀ f ∈ fs.toList, Fits P f.type ((cs.drop f.offset).take (P.cellsOf f.type))) : Fits P t cs
 | array {t e : TypeId} {n : Nat} (cs : List V) (h : P.underlying t = some (.array n e)) (hl : cs.length = P.cellsOf t) (hf : ∀ i, i < n → Fits P e ((cs.drop (i * P.cellsOf e)).take (P.cellsOf e))) : Fits P t cs
def zjH (P : Program) : Nat → List Field → Nat → Bool
 | n, [], m => n == m
 | n, f :: fs, m => f.offset == n && zjH P (n + P.cellsOf f.type) fs m
section
variable {P : Program} {H : Type} {enc : TypeId × Value → H} {W : World}
def zcW (W : World) : Nat → Prop := fun c => c < W.heap.size
theorem zmi {a : Addr} {v : Value} (h : W.cell? a = some v) : a.block < W.heap.size ∧ a.spot = none := by
 unfold World.cell? at h
 cases hb : W.heap[a.block]? with
 | none => rw [hb] at h; cases h
 | some o =>
  rw [hb] at h
  refine ⟨(yan.1 hb).1, ?_⟩
  cases o with
  | cells c _ _ =>
   simp only at h
   split at h
   ·cases h
   ·rename_i hs; simpa using hs
  | _ => cases h
def zpj (P : Program) (W : World) (t : TypeId) (cs : List Value) : Prop :=
 ∃ vs : List V, vs.length = cs.length ∧ Fits P t vs ∧ ∀ k, k < cs.length → RB (zcW W) W (vs.getD k .undef) (cs.getD k undef)
def RBs (W : World) (vs : List V) (cs : List Value) : Prop := vs.length = cs.length ∧ ∀ k, k < cs.length → RB (zcW W) W (vs.getD k .undef) (cs.getD k undef)
theorem RBs.append {vs us : List V} {cs ds : List Value} (h : RBs W vs cs) (k : RBs W us ds) : RBs W (vs ++ us) (cs ++ ds) := by
 refine ⟨by simp [h.1, k.1], fun i hi => ?_⟩
 simp only [yad]
 have h1 := h.1
 by_cases hlt : i < cs.length
 ·have := h.2 i hlt
  simp only [yad] at this
  rw [yaq (by omega), yaq hlt]; exact this
 ·rw [yar] at hi
  have := k.2 (i - cs.length) (by omega)
  simp only [yad] at this
  rw [List.getElem?_append_right (by omega), List.getElem?_append_right (by omega), h1]; exact this
theorem zfz {t : TypeId} {cs : List Value} : zpj P W t cs ↔ ∃ vs, Fits P t vs ∧ RBs W vs cs :=
 ⟨fun ⟨vs, a, b, c⟩ => ⟨vs, b, a, c⟩, fun ⟨vs, b, a, c⟩ => ⟨vs, a, b, c⟩⟩
theorem zjI {cs : List Value} : ∀ {fs : List Field} {n m : Nat}, zjH P n fs m = true → m ≤ cs.length → (∀ f ∈ fs, zpj P W f.type ((cs.drop f.offset).take (P.cellsOf f.type))) →
  n ≤ m ∧ ∃ vs, RBs W vs ((cs.drop n).take (m - n)) ∧ ∀ f ∈ fs, n ≤ f.offset ∧ Fits P f.type ((vs.drop (f.offset - n)).take (P.cellsOf f.type))
 | [], n, m, ht, hm, _ => by
  have : n = m := by simpa [zjH] using ht
  subst this
  exact ⟨Nat.le_refl _, [], ⟨by simp, fun k hk => absurd hk (by simp)⟩, fun f hf => by cases hf⟩
 | f :: fs, n, m, ht, hm, hr => by
  simp only [zjH, yae, beq_iff_eq] at ht
  obtain ⟨h0, ht⟩ := ht
  obtain ⟨hle, vs, hvs, hfs⟩ := zjI ht hm fun g hg => hr g (.tail _ hg)
  obtain ⟨us, hfit, hus⟩ := zfz.1 (hr f (.head _))
  rw [h0] at hus
  have hul : us.length = P.cellsOf f.type := by rw [hus.1]; simp; omega
  have hsplit : (cs.drop n).take (m - n) = (cs.drop n).take (P.cellsOf f.type) ++ (cs.drop (n + P.cellsOf f.type)).take (m - (n + P.cellsOf f.type)) := by
   rw [← List.drop_drop, ← List.take_add]
   congr 1
   omega
  refine ⟨by omega, us ++ vs, by rw [hsplit]; exact hus.append hvs, fun g hg => ?_⟩
  cases hg with
  | head =>
   refine ⟨by omega, ?_⟩
   rw [h0, Nat.sub_self, List.drop_zero, List.take_append_of_le_length (by omega), List.take_of_length_le (by omega)]
   exact hfit
  | tail _ hg =>
   obtain ⟨h1, h2⟩ := hfs g hg
   refine ⟨by omega, ?_⟩
   rw [List.drop_append, List.drop_eq_nil_of_le (by omega), List.nil_append, hul]
   rw [show g.offset - n - P.cellsOf f.type = g.offset - (n + P.cellsOf f.type) from by omega]
   exact h2
theorem zkP {α : Type} {n : Nat} {p : Nat → α → Prop} (h : ∀ i, i < n → ∃ x, p i x) : ∃ l : List α, l.length = n ∧ ∀ i x, l[i]? = some x → p i x := by
 induction n with
 | zero => exact ⟨[], rfl, fun i x hx => by simp at hx⟩
 | succ n ih =>
  obtain ⟨l, hl, hp⟩ := ih fun i hi => h i (by omega)
  obtain ⟨x, hx⟩ := h n (by omega)
  refine ⟨l ++ [x], by simp [hl], fun i y hy => ?_⟩
  by_cases hi : i < l.length
  ·rw [yaq hi] at hy; exact hp i y hy
  ·rw [List.getElem?_append_right (by omega)] at hy
   have : i - l.length = 0 := by
    rcases Nat.eq_zero_or_pos (i - l.length) with h0 | h0
    ·exact h0
    ·rw [List.getElem?_eq_none (by simp; omega)] at hy; cases hy
   rw [this] at hy
   simp only [List.getElem?_cons_zero, yaa] at hy
   subst hy
   have : i = n := by omega
   subst this; exact hx
end
end Go.Proofs.YtakdnfneikbjjaaGreatDoor.Am

namespace Go.Proofs.YtakdnfneikbjjaaGreatDoor.Am
section
variable {P : Program} {W : World}
inductive ArgOK (W : World) : V → Value → Prop
 | leaf {x : V} {v : Value} (h : RB (zcW W) W x v) : ArgOK W x v
 | agg (cs : List V) (arr : Array Value) (hs : arr.size = cs.length) (h : ∀ k, k < cs.length → RB (zcW W) W (cs.getD k .undef) (arr.getD k undef)) : ArgOK W (.agg cs) (.agg arr)
def g0 (W : World) : G := ⟨id, id, fun _ => False, zcW W⟩
theorem RB.toR1 {x : V} {v : Value} (h : RB (zcW W) W x v) : R1 (g0 W) W 0 x v := by
 cases h with
 | func f => exact ⟨#[], rfl, rfl, fun k hk => absurd hk (by simp)⟩
 | bool b => exact RB.bool b
 | int k n => exact RB.int k n
 | str b => exact RB.str b
 | nilp => exact RB.nilp
 | nils => exact RB.nils
 | nilf => exact RB.nilf
 | nili => exact RB.nili
 | erri t x => exact RB.erri t x
 | slice sz xs a cap vs hs hp hc hz hv hr => exact RB.slice sz xs a cap vs hs hp hc hz hv hr
theorem RB.ok0 {x : V} {v : Value} (h : RB (zcW W) W x v) : x.ok0 = true := by
 cases h <;> rfl
theorem RB.cnt {x : V} {v : Value} (h : RB (zcW W) W x v) (c : Nat) : cnt0 c x v = 0 := by
 cases h <;> rfl
theorem ArgOK.r3 {x : V} {v : Value} (h : ArgOK W x v) (τ : Nat → Value) : R3 (g0 W) W 0 τ x v := by
 cases h with
 | leaf h =>
  have h1 := h.toR1
  cases h <;> exact h1
 | agg cs arr hs h => exact ⟨arr, rfl, hs, fun k hk => ⟨.inl (h k hk).ok0, (h k hk).toR1⟩⟩
theorem ArgOK.okArg {x : V} {v : Value} (h : ArgOK W x v) : x.okArg = true := by
 cases h with
 | leaf h => cases h <;> rfl
 | agg cs arr hs h =>
  simp only [V.okArg, yam]
  intro y hy
  obtain ⟨k, hk, rfl⟩ := List.getElem_of_mem hy
  have := (h k hk).ok0
  rwa [yad, yai hk] at this
theorem ArgOK.cnt {x : V} {v : Value} (h : ArgOK W x v) (c : Nat) : cnt2 c x v = 0 := by
 cases h with
 | leaf h =>
  have h1 := h.cnt c
  cases h <;> exact h1
 | agg cs arr hs h => exact zcG fun k hk => (h k hk).cnt c
theorem zpU {args : List V} {vs : Array Value} (hl : args.length = vs.toList.length) (ha : ∀ k, k < args.length → ArgOK W (args.getD k .undef) (vs.toList.getD k undef)) :
  SR (g0 W) W 0 (fun _ => 0) (fun _ => false) ⟨fun _ => .undef, fun _ => [], []⟩ #[] (args.zip vs.toList) := by
 have hmem : ∀ p ∈ args.zip vs.toList, ArgOK W p.1 p.2 := fun p hp => by
  obtain ⟨k, hk, rfl⟩ := List.getElem_of_mem hp
  have hk' : k < args.length := by simp at hk; omega
  have h1 := ha k hk'
  simp only [List.getElem_zip]
  rw [yad, yai hk', yad, yai (by omega)] at h1
  exact h1
 have hcP : ∀ c, cntP c (args.zip vs.toList) = 0 := fun c => by
  rw [zgv hl]; exact zcG fun k hk => (ha k hk).cnt c
 have hT : ∀ c, zal (g0 W) W 0 (fun _ => 0) ⟨fun _ => .undef, fun _ => [], []⟩ #[] (args.zip vs.toList) c = za0 (g0 W) c := fun c => by
  have e1 : cntT c (fun _ => V.undef) #[] = 0 := rfl
  have e2 : cntB (g0 W) W c 0 (fun _ => []) = 0 := rfl
  have e3 : cntM (g0 W) W c [] = 0 := rfl
  unfold zal
  simp only [e1, e2, e3, hcP]
  omega
 refine ⟨fun s => trivial, fun s _ => rfl, fun s d hd => (by cases hd), fun p hp => (hmem p hp).r3 _, fun p hp d hd => ?_, fun j => by simp [g0], fun j hj => absurd rfl hj, fun b hb => absurd hb (by simp), fun c => ?_, fun c hc => ?_⟩
 ·obtain ⟨b, o, e⟩ := zdP (hmem p hp).okArg hd; cases e
 ·rw [hT]; unfold za0; split <;> omega
 ·rw [hT]; unfold za0
  rw [if_neg]
  show ¬ (c < W.heap.size)
  omega
theorem znh [Lay P] {T : Table} (hLd : Laid P (g0 W) W) (hT : TableOK P T) {f : Nat} {args : List V} {m' : List (List V)} {vs : Array Value} {b : Bool} (hret : RF T f args [] = some (.bool b, m')) (hl : args.length = vs.toList.length)
  (ha : ∀ k, k < args.length → ArgOK W (args.getD k .undef) (vs.toList.getD k undef)) : Calls P f vs W fun e W' => e = .returned (.bool b) ∧ RowKit.Below W.heap.size W W' := by
 obtain ⟨_, hcall⟩ := zi8 hT (zlp.1 hret)
 have hok : args.all V.okArg = true := yam.2 fun y hy => by
  obtain ⟨k, hk, rfl⟩ := List.getElem_of_mem hy
  have := (ha k hk).okArg
  rwa [yad, yai hk] at this
 refine (hcall (g0 W) W (fun _ => 0) vs (by simpa using hl.symm) hok hLd (zpU hl ha)).mono fun e W' ⟨v, g', he, hS, hE, _⟩ => ?_
 have hv : v = .bool b := R3.bool (hS.pend _ (.head _))
 exact ⟨by rw [he, hv], hE.os, hE.tape, hE.output, hE.size, fun k hk => (hE.pers k hk).2⟩
def zhI (P : Program) (t : TypeId) (x : V) : Prop :=
 match P.underlying t with
 | some (.struct _) | some (.array _ _) => ∃ cs, x = .agg cs ∧ Fits P t cs
 | _ => Fits P t [x]
section
variable {H : Type} {enc : TypeId × Value → H}
theorem zjJ (hl : laidOutB P = true) {W' : World} {sp : Nat → Bool} : ∀ {ts : List TypeId} {vs : List Value} {ds : List (DataW H)} {ps : List MemPlace}, (ts.all fun t => P.readableRec t && decide (t < P.types.size)) = true →
  DataW.TrodAll enc P W 0 (fun _ => true) true ts vs ds ps → (∀ p ∈ ps, W.sameAt W' p) → (∀ p ∈ ps, sp p.block = true) → DataW.TrodAll enc P W' 0 sp true ts vs ds ps
 | [], vs, ds, ps, _, h, _, _ => by
  obtain ⟨rfl, rfl, rfl⟩ := ChangeShapes.trodAll_nil h
  exact rfl
 | t :: ts, vs, ds, ps, hr, h, hs, hsp => by
  obtain ⟨v, vs', dd, ds', p, q, rfl, rfl, rfl, h0, r0⟩ := ChangeShapes.trodAll_cons h
  simp only [List.all_cons, yae, yat] at hr
  exact trodAll_cons_mk (WideElems.Trod_stays hl hr.1.1 hr.1.2 h0 (fun x hx => hs x (List.mem_append_left _ hx)) (fun x hx => hsp x (List.mem_append_left _ hx)))
   (zjJ hl hr.2 r0 (fun x hx => hs x (List.mem_append_right _ hx)) (fun x hx => hsp x (List.mem_append_right _ hx)))
theorem zff : ∀ {ts : List TypeId} {vs : List Value} {ds : List (DataW H)} {ps : List MemPlace}, DataW.TrodAll enc P W 0 (fun _ => true) true ts vs ds ps → ds.length = ts.length
 | [], vs, ds, ps, h => by obtain ⟨rfl, rfl, rfl⟩ := ChangeShapes.trodAll_nil h; rfl
 | t :: ts, vs, ds, ps, h => by
  obtain ⟨v, vs', dd, ds', p, q, rfl, rfl, rfl, h0, r0⟩ := ChangeShapes.trodAll_cons h
  simp [zff r0]
open ChangeShapes in
theorem ziD {f : Func} {s : ChangeSpec} {apart fresh handsOn again : Bool} {W W' : World} {args : Array Value} {v : Value} {ds gs : List (DataW H)} {before pa pv : List MemPlace}
  (hW : DataW.Whole enc P f.params.toList s.vars apart W args.toList ds gs before)
  (hres : ∀ (b : Nat) (sp : Nat → Bool) (hd : Bool), DataW.TrodAll enc P W' b sp hd f.resultTypes.toList (v.resultList f.resultTypes.size) (s.fn H (ds ++ gs)).results [])
  (hargs : ∀ sp : Nat → Bool, (∀ p ∈ before, sp p.block = true) → DataW.TrodAll enc P W' 0 sp true f.params.toList args.toList (s.fn H (ds ++ gs)).args pa)
  (hvars : ∀ sp : Nat → Bool, (∀ p ∈ before, sp p.block = true) → DataW.TrodVars enc P W' sp s.vars (s.fn H (ds ++ gs)).vars pv)
  (hps : before = pa ++ pv) (hb : RowKit.Below W.heap.size W W')
  (hok : ∀ (j : Nat) (t : TypeId) (r : Value), f.resultTypes[j]? = some t → (v.resultList f.resultTypes.size)[j]? = some r → Value.okWide P W' .any 0 t r) :
  s.post enc P f apart fresh handsOn again W args v W' := by
 have hlt : ∀ p ∈ before, p.block < W.heap.size := fun p hp => hW.lt p hp
 have hold : ∀ p ∈ before, (fun b => decide (b < W.heap.size)) p.block = true := fun p hp => by simpa using hlt p hp
 refine ⟨ds, gs, before, [], pa, pv, hW, hres _ _ _, hargs _ hold, hvars _ hold, World.keptBut_mono (fun p hp => ⟨hp, ?_⟩) (hb.frame (· ∈ before)), fun _ => ?_⟩
 ·rw [hps, yak] at hp
  exact Or.inr hp
 ·obtain ⟨_, _, _, _, _, hz, hn⟩ := hW
  refine ⟨hok, _, _, ([] ++ pa) ++ pv, ⟨[] ++ pa, pv, trodAll_append (hargs _ (fun _ _ => rfl)) (hres _ _ _), hvars _ (fun _ _ => rfl), rfl, ?_, ?_⟩, ?_⟩
  ·intro b off hp
   have hp' : MemPlace.cell b off ∈ before := by rw [hps]; simpa using hp
   rw [hb.frozen (p := ⟨b, off, none⟩) (hlt _ hp')]
   exact hz b off hp'
  ·intro ha
   have := hn ha
   rw [hps] at this
   simpa using this
  ·intro p hp _
   rw [hps]
   simpa using hp
end
end
end Go.Proofs.YtakdnfneikbjjaaGreatDoor.Am

set_option linter.all false
namespace Go.Proofs.YtakdnfneikbjjaaGreatDoor.Am.Lay10
open Go.Proofs
theorem gl1 : Tryz.prog.globalNamed "strconv.ErrSyntax" = some 1 := by kernel_rfl
theorem gl2 : Tryz.prog.globalNamed "strconv.ErrRange" = some 2 := by kernel_rfl
noncomputable def gtE : TypeId := ((Tryz.prog.globals[1]?).map (·.type)).getD 0
theorem gt1 : (Tryz.prog.globals[1]?).map (·.type) = some gtE := by kernel_rfl
theorem gt2 : (Tryz.prog.globals[2]?).map (·.type) = some gtE := by kernel_rfl
noncomputable def msE : Array (String × TypeId) := match Tryz.prog.underlying gtE with | some (.interface ms) => ms | _ => #[]
theorem utE : Tryz.prog.underlying gtE = some (.interface msE) := by kernel_rfl
theorem zlt {l : List (String × DataW Unit)} {W : World} {n : String} {d : DataW Unit} {g : Nat} {t : TypeId} (h : laidMetH Tryz.prog l W)
  (hf : (l.filter fun x => x.2.handleName?.isNone).filter (fun x => x.1 == n) = [(n, d)]) (hg : Tryz.prog.globalNamed n = some g) (hty : (Tryz.prog.globals[g]?).map (·.type) = some t) :
  ∃ (cs : Array Value) (fuel : Nat) (p : List MemPlace), (∀ i, W.cell? ⟨g, i, none⟩ = cs[i]?) ∧ g < W.heap.size ∧ DataW.trod (fun _ => ()) Tryz.prog W 0 (fun _ => true) false fuel t cs.toList = some (d, p) := by
 have h2 := (laidMetH_iff.1 h).1.filter (fun x => x.1 == n)
 rw [hf] at h2
 obtain ⟨ps, ⟨g', t', cs, fuel, p, q, hg', ht', hvar, hd, _, _⟩, _⟩ := h2
 obtain rfl := Option.some.inj (hg.symm.trans hg')
 obtain rfl := Option.some.inj (hty.symm.trans ht')
 refine ⟨cs, fuel, p, fun i => World.var?_cell hg hvar i, ?_, hd⟩
 unfold World.var? at hvar
 rw [hg] at hvar
 simp only [Option.bind_some] at hvar
 cases hh : W.heap[g]? with
 | none => rw [hh] at hvar; cases hvar
 | some o => exact (yan.1 hh).1
theorem zlu {W : World} {cs : Array Value} {fuel g : Nat} {p : List MemPlace} {n : String} {d : DataW Unit} (he : ∀ i, W.cell? ⟨g, i, none⟩ = cs[i]?) (h : DataW.trod (fun _ => ()) Tryz.prog W 0 (fun _ => true) false fuel gtE cs.toList = some (.iface n d, p)) : zdl (g0 W).pers W ⟨g, 0, none⟩ 1 [[V.erri]] := by
 obtain ⟨_, u, v, hcs, _, _⟩ := iface_of_trod utE h
 refine ⟨fun i hi => ?_, fun i k hi hk => ?_⟩
 ·have : i = 0 := by simpa using hi
  subst this; rfl
 ·have : i = 0 := by simpa using hi
  subst this
  have hk : k = 0 := by omega
  subst hk
  refine ⟨.iface u v, ?_, .erri u v⟩
  show W.cell? ⟨g, 0, none⟩ = _
  rw [he]
  have := congrArg (·[0]?) hcs
  simpa using this
theorem zpk {l : List (String × DataW Unit)} {W : World} {d1 d2 : DataW Unit} {n1 n2 : String} (h : laidMetH Tryz.prog l W)
  (h1 : (l.filter fun x => x.2.handleName?.isNone).filter (fun x => x.1 == "strconv.ErrSyntax") = [("strconv.ErrSyntax", .iface n1 d1)])
  (h2 : (l.filter fun x => x.2.handleName?.isNone).filter (fun x => x.1 == "strconv.ErrRange") = [("strconv.ErrRange", .iface n2 d2)]) : Laid Tryz.prog (g0 W) W := by
 obtain ⟨cs1, f1, p1, e1, s1, t1⟩ := zlt h h1 gl1 gt1
 obtain ⟨cs2, f2, p2, e2, s2, t2⟩ := zlt h h2 gl2 gt2
 refine ⟨fun t ht => ?_, fun t ht => ?_⟩
 ·have ht : t ∈ [(1, 1, [[V.erri]]), (2, 1, [[V.erri]])] := ht
  rcases List.mem_cons.1 ht with rfl | ht
  ·exact ⟨s1, zlu e1 t1⟩
  ·obtain rfl := yao.1 ht
   exact ⟨s2, zlu e2 t2⟩
 ·have ht : t ∈ ([] : List (Nat × String × IntKind × List Int)) := ht
  cases ht
theorem zni {l : List (String × DataW Unit)} {W : World} (h : laidMetH Tryz.prog l W)
  (h1 : (l.filter fun x => x.2.handleName?.isNone).filter (fun x => x.1 == "strconv.ErrSyntax") = [("strconv.ErrSyntax", YtakdnfneikbjjaaGreatDoor.Rows.laid_strconv_ErrSyntax)])
  (h2 : (l.filter fun x => x.2.handleName?.isNone).filter (fun x => x.1 == "strconv.ErrRange") = [("strconv.ErrRange", YtakdnfneikbjjaaGreatDoor.Rows.laid_strconv_ErrRange)]) : Laid Tryz.prog (g0 W) W := zpk h h1 h2
end Go.Proofs.YtakdnfneikbjjaaGreatDoor.Am.Lay10

namespace Go.Proofs.YtakdnfneikbjjaaGreatDoor.Am.T
open Go.Proofs.YtakdnfneikbjjaaGreatDoor.Am
inductive TV where
 | undef
 | bool (b : Bool)
 | int (k : IntKind) (n : Int)
 | str (s : List Int)
 | nilp
 | ptr (b off : Nat)
 | loc (j off : Nat)
 | ro (cells : List TV) (off : Nat)
 | el (r : Root) (sz i k : Nat)
 | place (r : Root)
 | nils
 | sl (own : Bool) (sz : Nat) (xs : List (List TV))
 | agg (cells : List TV)
 | tuple (vs : List TV)
 | func (f : Nat) (captured : List TV)
 | nilf
 | nili
 | err (b : Bool)
 deriving Inhabited
inductive Pw {α β : Type} (R : α → β → Prop) : List α → List β → Prop
 | nil : Pw R [] []
 | cons {a b l l'} (h : R a b) (t : Pw R l l') : Pw R (a :: l) (b :: l')
def zc0 (b : UInt8) : Int := b.toNat
inductive Den0 : TV → V → Prop
 | undef (v : V) : Den0 .undef v
 | bool (b : Bool) : Den0 (.bool b) (.bool b)
 | int (k : IntKind) (n : Int) : Den0 (.int k n) (.int k n)
 | str (s : List UInt8) : Den0 (.str (s.map zc0)) (.str s)
 | nilp : Den0 .nilp .nilp
 | nils : Den0 .nils .nils
 | sl (own : Bool) (sz : Nat) {xs ys} (h : Pw (Pw Den0) xs ys) : Den0 (.sl own sz xs) (.slice own sz ys)
 | sln (own : Bool) (sz : Nat) : Den0 (.sl own sz []) .nils
 | func (f : Nat) : Den0 (.func f []) (.func f [])
 | nilf : Den0 .nilf .nilf
 | nili : Den0 .nili .nili
 | erri : Den0 (.err true) .erri
 | errn : Den0 (.err false) .nili
inductive RootR (ρ : List Nat) : Root → Root → Prop
 | mem {i b : Nat} (o : Nat) (h : ρ[i]? = some b) : RootR ρ (.mem i o) (.mem b o)
 | loc (j o : Nat) : RootR ρ (.loc j o) (.loc j o)
 | tmp (s : Nat) : RootR ρ (.tmp s) (.tmp s)
inductive Den (ρ : List Nat) : TV → V → Prop
 | base {t v} (h : Den0 t v) : Den ρ t v
 | ptr {i b : Nat} (o : Nat) (h : ρ[i]? = some b) : Den ρ (.ptr i o) (.ptr b o)
 | loc (j o : Nat) : Den ρ (.loc j o) (.loc j o)
 | ro {cs cs'} (o : Nat) (h : Pw (Den ρ) cs cs') : Den ρ (.ro cs o) (.ro cs' o)
 | el {r r'} (sz i k : Nat) (h : RootR ρ r r') : Den ρ (.el r sz i k) (.el r' sz i k)
 | place {r r'} (h : RootR ρ r r') : Den ρ (.place r) (.place r')
 | agg {cs cs'} (h : Pw (Den ρ) cs cs') : Den ρ (.agg cs) (.agg cs')
 | tuple {cs cs'} (h : Pw (Den ρ) cs cs') : Den ρ (.tuple cs) (.tuple cs')
 | func (f : Nat) {cs cs'} (h : Pw (Den ρ) cs cs') : Den ρ (.func f cs) (.func f cs')
section pw
variable {α β γ : Type} {R : α → β → Prop}
theorem Pw.length {l : List α} {l' : List β} (h : Pw R l l') : l.length = l'.length := by
 induction h with
 | nil => rfl
 | cons _ _ ih => simp [ih]
theorem Pw.get {l : List α} {l' : List β} (h : Pw R l l') : ∀ {i : Nat} {x : α}, l[i]? = some x → ∃ y, l'[i]? = some y ∧ R x y := by
 induction h with
 | nil => intro i x hx; simp at hx
 | cons hr _ ih =>
  intro i x hx
  cases i with
  | zero => simp only [List.getElem?_cons_zero, yaa] at hx; subst hx; exact ⟨_, rfl, hr⟩
  | succ i => simp only [List.getElem?_cons_succ] at hx; exact ih hx
theorem Pw.append {l m : List α} {l' m' : List β} (h : Pw R l l') (g : Pw R m m') : Pw R (l ++ m) (l' ++ m') := by
 induction h with
 | nil => exact g
 | cons hr _ ih => exact .cons hr ih
theorem Pw.drop {l : List α} {l' : List β} (h : Pw R l l') : ∀ n, Pw R (l.drop n) (l'.drop n) := by
 induction h with
 | nil => intro n; simpa using Pw.nil
 | cons hr t ih =>
  intro n
  cases n with
  | zero => exact .cons hr t
  | succ n => exact ih n
theorem Pw.take {l : List α} {l' : List β} (h : Pw R l l') : ∀ n, Pw R (l.take n) (l'.take n) := by
 induction h with
 | nil => intro n; simpa using Pw.nil
 | cons hr t ih =>
  intro n
  cases n with
  | zero => exact .nil
  | succ n => exact .cons hr (ih n)
theorem Pw.set {l : List α} {l' : List β} (h : Pw R l l') {x : α} {y : β} (hxy : R x y) : ∀ n, Pw R (l.set n x) (l'.set n y) := by
 induction h with
 | nil => intro n; simpa using Pw.nil
 | cons hr t ih =>
  intro n
  cases n with
  | zero => exact .cons hxy t
  | succ n => exact .cons hr (ih n)
theorem Pw.mono {R' : α → β → Prop} (hm : ∀ x y, R x y → R' x y) {l : List α} {l' : List β} (h : Pw R l l') : Pw R' l l' := by
 induction h with
 | nil => exact .nil
 | cons hr _ ih => exact .cons (hm _ _ hr) ih
theorem Pw.maps {α' β' : Type} {R' : α' → β' → Prop} {f : α → α'} {g : β → β'} (hm : ∀ x y, R x y → R' (f x) (g y)) {l : List α} {l' : List β} (h : Pw R l l') : Pw R' (l.map f) (l'.map g) := by
 induction h with
 | nil => exact .nil
 | cons hr _ ih => exact .cons (hm _ _ hr) ih
theorem Pw.replicate {x : α} {y : β} (h : R x y) : ∀ n, Pw R (List.replicate n x) (List.replicate n y)
 | 0 => .nil
 | n + 1 => .cons h (Pw.replicate h n)
theorem Pw.all {p : α → Bool} {q : β → Bool} (hm : ∀ x y, R x y → p x = true → q y = true) {l : List α} {l' : List β} (h : Pw R l l') (ha : l.all p = true) : l'.all q = true := by
 induction h with
 | nil => rfl
 | cons hr _ ih =>
  simp only [List.all_cons, yae] at ha ⊢
  exact ⟨hm _ _ hr ha.1, ih ha.2⟩
theorem Pw.any {p : α → Bool} {q : β → Bool} (hm : ∀ x y, R x y → p x = false → q y = false) {l : List α} {l' : List β} (h : Pw R l l') (ha : l.any p = false) : l'.any q = false := by
 induction h with
 | nil => rfl
 | cons hr _ ih =>
  simp only [List.any_cons, Bool.or_eq_false_iff] at ha ⊢
  exact ⟨hm _ _ hr ha.1, ih ha.2⟩
end pw
theorem Den.mono {ρ : List Nat} (e : List Nat) {t : TV} {v : V} (h : Den ρ t v) : Den (ρ ++ e) t v := by
 have key : ∀ {i b : Nat}, ρ[i]? = some b → (ρ ++ e)[i]? = some b := fun {i b} h => by
  rw [yaq (zax h)]; exact h
 have rt : ∀ {r r'}, RootR ρ r r' → RootR (ρ ++ e) r r' := fun h => by
  cases h with
  | mem o h => exact .mem o (key h)
  | loc j o => exact .loc j o
  | tmp s => exact .tmp s
 refine Den.rec (motive_1 := fun t v _ => Den (ρ ++ e) t v) (motive_2 := fun l l' _ => Pw (Den (ρ ++ e)) l l') ?_ ?_ ?_ ?_ ?_ ?_ ?_ ?_ ?_ ?_ ?_ h
 ·intro t v h; exact .base h
 ·intro i b o h; exact .ptr o (key h)
 ·intro j o; exact .loc j o
 ·intro cs cs' o _ h; exact .ro o h
 ·intro r r' sz i k h; exact .el sz i k (rt h)
 ·intro r r' h; exact .place (rt h)
 ·intro cs cs' _ h; exact .agg h
 ·intro cs cs' _ h; exact .tuple h
 ·intro f cs cs' _ h; exact .func f h
 ·exact .nil
 ·intro a b l l' _ _ h1 h2; exact .cons h1 h2
section tv
def TV.cells : TV → List TV
 | .agg cs => cs
 | v => [v]
def TV.own0 : TV → Bool
 | .sl true _ _ => true
 | .undef => true
 | _ => false
def TV.own1 : TV → Bool
 | .agg cs => cs.any TV.own0
 | v => v.own0
def TV.hasOwn : TV → Bool
 | .tuple vs => vs.any TV.own1
 | v => v.own1
def TV.share0 : TV → TV
 | .sl _ sz xs => .sl false sz xs
 | v => v
def TV.share : TV → TV
 | .agg cs => .agg (cs.map TV.share0)
 | v => v.share0
def TV.good : TV → Bool
 | .bool _ | .int _ _ | .str _ | .nilp | .nils | .sl false _ _ | .nilf | .nili | .err _ => true
 | .func _ cs => cs.isEmpty
 | _ => false
def TV.left : TV → TV
 | .sl true _ _ => .undef
 | v => v
def TV.low0 : TV → Bool
 | .bool _ | .int _ _ | .str _ | .nilp | .nils | .sl _ _ _ | .nilf | .nili | .err _ => true
 | .func _ cs => cs.isEmpty
 | _ => false
def TV.low1 : TV → Bool
 | .agg cs => cs.all TV.low0
 | v => v.low0
def TV.low2 : TV → Bool
 | .tuple vs => vs.all TV.low1
 | v => v.low1
def zhb : TV → Bool
 | .ptr _ _ => true
 | _ => false
def TV.ok0 : TV → Bool
 | .bool _ | .int _ _ | .str _ | .nilp | .ptr _ _ | .nils | .sl _ _ _ | .nilf | .nili | .err _ => true
 | .func _ cs => cs.all zhb
 | _ => false
def TV.ok1 : TV → Bool
 | .agg cs => cs.all TV.ok0
 | v => v.ok0
def TV.okArg : TV → Bool
 | .agg cs => cs.all TV.ok0
 | .place (.mem _ _) | .el (.mem _ _) _ _ _ => true
 | v => v.ok0
def zkQ (lean : Bool) : TV → Bool
 | .place (.tmp _) | .el (.tmp _) _ _ _ => false
 | .place _ | .el _ _ _ _ => !lean
 | .undef => false
 | _ => true
def zkd : TV → TV
 | .place (.mem _ _) | .place (.loc _ _) | .el (.mem _ _) _ _ _ | .el (.loc _ _) _ _ _ => .undef
 | v => v
def killLocV : TV → TV
 | .place (.loc _ _) | .el (.loc _ _) _ _ _ => .undef
 | v => v
def killAtV (off n : Nat) : TV → TV
 | .place (.mem b o) => bif Nat.ble off o && Nat.ble (o + 1) (off + n) then .undef else .place (.mem b o)
 | .el (.mem b o) z i k => bif Nat.ble off o && Nat.ble (o + 1) (off + n) then .undef else .el (.mem b o) z i k
 | v => v
def killMV : TV → TV
 | .place (.mem _ _) | .el (.mem _ _) _ _ _ => .undef
 | v => v
def killTV (d : Nat) : TV → TV
 | .place (.tmp s) => bif Nat.beq s d then .undef else .place (.tmp s)
 | .el (.tmp s) z i k => bif Nat.beq s d then .undef else .el (.tmp s) z i k
 | v => v
def killLV (j : Nat) : TV → TV
 | .loc j' o => bif Nat.beq j' j then .undef else .loc j' o
 | .place (.loc j' o) => bif Nat.beq j' j then .undef else .place (.loc j' o)
 | .el (.loc j' o) z i k => bif Nat.beq j' j then .undef else .el (.loc j' o) z i k
 | v => v
def zfY (d : Option Nat) : TV → Bool
 | .place (.tmp s) => d == some s
 | .el (.tmp s) _ _ _ => d == some s
 | _ => false
variable {ρ : List Nat} {t : TV} {v : V}
theorem Den.undef' (v : V) : Den ρ .undef v := .base (.undef v)
theorem Den.cells (h : Den ρ t v) (ho : t.ok1 = true) : Pw (Den ρ) t.cells v.cells := by
 cases h with
 | agg h => exact h
 | base h0 =>
  have hh := Den.base (ρ := ρ) h0
  cases h0 with
  | undef v => cases ho
  | _ => exact .cons hh .nil
 | ptr o h => exact .cons (.ptr o h) .nil
 | loc j o => exact .cons (.loc j o) .nil
 | ro o h => exact .cons (.ro o h) .nil
 | el sz i k h => exact .cons (.el sz i k h) .nil
 | place h => exact .cons (.place h) .nil
 | tuple h => exact .cons (.tuple h) .nil
 | func f h => exact .cons (.func f h) .nil
theorem Den.own0 (h : Den ρ t v) (ho : t.own0 = false) : v.own0 = false := by
 cases h with
 | base h0 =>
  cases h0 with
  | undef v => cases ho
  | sl own sz _ => cases own <;> first | rfl | cases ho
  | _ => rfl
 | _ => rfl
theorem Den.own1 (h : Den ρ t v) (ho : t.own1 = false) : v.own1 = false := by
 cases h with
 | agg h => exact Pw.any (p := TV.own0) (q := V.own0) (fun _ _ h ho => Den.own0 h ho) h ho
 | base h0 =>
  cases h0 with
  | undef v => cases ho
  | sl own sz _ => cases own <;> first | rfl | cases ho
  | _ => rfl
 | _ => rfl
theorem Den.hasOwn (h : Den ρ t v) (ho : t.hasOwn = false) : v.hasOwn = false := by
 cases h with
 | tuple h => exact Pw.any (p := TV.own1) (q := V.own1) (fun _ _ h ho => Den.own1 h ho) h ho
 | agg h => exact (Den.agg h).own1 ho
 | base h0 =>
  cases h0 with
  | undef v => cases ho
  | sl own sz _ => cases own <;> first | rfl | cases ho
  | _ => rfl
 | _ => rfl
theorem Den.share0 (h : Den ρ t v) : Den ρ t.share0 v.share0 := by
 cases h with
 | base h0 =>
  cases h0 with
  | undef v => exact .undef' _
  | sl own sz h => exact .base (.sl false sz h)
  | sln own sz => exact .base (.sln false sz)
  | bool b => exact .base (.bool b)
  | int k n => exact .base (.int k n)
  | str s => exact .base (.str s)
  | nilp => exact .base .nilp
  | nils => exact .base .nils
  | func f => exact .base (.func f)
  | nilf => exact .base .nilf
  | nili => exact .base .nili
  | erri => exact .base .erri
  | errn => exact .base .errn
 | ptr o h => exact .ptr o h
 | loc j o => exact .loc j o
 | ro o h => exact .ro o h
 | el sz i k h => exact .el sz i k h
 | place h => exact .place h
 | tuple h => exact .tuple h
 | func f h => exact .func f h
 | agg h => exact .agg h
theorem Den.share (h : Den ρ t v) : Den ρ t.share v.share := by
 cases h with
 | agg h => exact .agg (Pw.maps (f := TV.share0) (g := V.share0) (fun _ _ h => Den.share0 h) h)
 | base h0 =>
  cases h0 with
  | undef v => exact .undef' _
  | sl own sz h => exact .base (.sl false sz h)
  | sln own sz => exact .base (.sln false sz)
  | bool b => exact .base (.bool b)
  | int k n => exact .base (.int k n)
  | str s => exact .base (.str s)
  | nilp => exact .base .nilp
  | nils => exact .base .nils
  | func f => exact .base (.func f)
  | nilf => exact .base .nilf
  | nili => exact .base .nili
  | erri => exact .base .erri
  | errn => exact .base .errn
 | ptr o h => exact .ptr o h
 | loc j o => exact .loc j o
 | ro o h => exact .ro o h
 | el sz i k h => exact .el sz i k h
 | place h => exact .place h
 | tuple h => exact .tuple h
 | func f h => exact .func f h
theorem Den.left (h : Den ρ t v) : Den ρ t.left v.left := by
 cases h with
 | base h0 =>
  cases h0 with
  | undef v => exact .undef' _
  | sl own sz h => cases own with
   | true => exact .undef' _
   | false => exact .base (.sl false sz h)
  | sln own sz => cases own with
   | true => exact .undef' _
   | false => exact .base (.sln false sz)
  | bool b => exact .base (.bool b)
  | int k n => exact .base (.int k n)
  | str s => exact .base (.str s)
  | nilp => exact .base .nilp
  | nils => exact .base .nils
  | func f => exact .base (.func f)
  | nilf => exact .base .nilf
  | nili => exact .base .nili
  | erri => exact .base .erri
  | errn => exact .base .errn
 | ptr o h => exact .ptr o h
 | loc j o => exact .loc j o
 | ro o h => exact .ro o h
 | el sz i k h => exact .el sz i k h
 | place h => exact .place h
 | tuple h => exact .tuple h
 | func f h => exact .func f h
 | agg h => exact .agg h
theorem Den0.good (h : Den0 t v) (hg : t.good = true) : v.good = true := by
 cases h with
 | undef v => cases hg
 | sl own sz _ => cases own <;> first | rfl | cases hg
 | func f => rfl
 | _ => rfl
theorem Den.good (h : Den ρ t v) (hg : t.good = true) : Den0 t v ∧ v.good = true := by
 cases h with
 | base h0 => exact ⟨h0, h0.good hg⟩
 | func f h =>
  cases h with
  | nil => exact ⟨.func f, rfl⟩
  | cons _ _ => cases hg
 | _ => cases hg
theorem Den.okCap (h : Den ρ t v) (hg : zhb t = true) : Am.okCap v = true := by
 cases h with
 | base h0 => cases h0 <;> cases hg
 | ptr o h => rfl
 | _ => cases hg
theorem Den.ok0 (h : Den ρ t v) (hg : t.ok0 = true) : v.ok0 = true := by
 cases h with
 | base h0 => cases h0 <;> first | rfl | cases hg
 | ptr o h => rfl
 | func f h => exact Pw.all (p := zhb) (q := Am.okCap) (fun _ _ h ho => Den.okCap h ho) h hg
 | _ => cases hg
theorem Den.ok1 (h : Den ρ t v) (hg : t.ok1 = true) : v.ok1 = true := by
 cases h with
 | base h0 => cases h0 <;> first | rfl | cases hg
 | ptr o h => rfl
 | func f h => exact Pw.all (p := zhb) (q := Am.okCap) (fun _ _ h ho => Den.okCap h ho) h hg
 | agg h => exact Pw.all (p := TV.ok0) (q := V.ok0) (fun _ _ h ho => Den.ok0 h ho) h hg
 | _ => cases hg
theorem Den.okArg (h : Den ρ t v) (hg : t.okArg = true) : v.okArg = true := by
 cases h with
 | base h0 => cases h0 <;> first | rfl | cases hg
 | ptr o h => rfl
 | func f h => exact Pw.all (p := zhb) (q := Am.okCap) (fun _ _ h ho => Den.okCap h ho) h hg
 | agg h => exact Pw.all (p := TV.ok0) (q := V.ok0) (fun _ _ h ho => Den.ok0 h ho) h hg
 | place h => cases h <;> first | rfl | cases hg
 | el sz i k h => cases h <;> first | rfl | cases hg
 | _ => cases hg
theorem Den.rootOk {lean : Bool} (h : Den ρ t v) (hg : zkQ lean t = true) : Am.rootOk lean v = true := by
 cases h with
 | base h0 => cases h0 <;> first | rfl | cases hg
 | place h => cases h <;> first | exact hg | rfl
 | el sz i k h => cases h <;> first | exact hg | rfl
 | _ => rfl
theorem Den.killMV (h : Den ρ t v) : Den ρ (T.killMV t) (Am.killMV v) := by
 cases h with
 | base h0 => cases h0 with
  | undef v => exact .undef' _
  | _ => exact .base (by constructor <;> assumption)
 | place h => cases h with
  | tmp s => exact .place (.tmp s)
  | loc j o => exact .place (.loc j o)
  | mem o h => exact .undef' _
 | el sz i k h => cases h with
  | tmp s => exact .el _ _ _ (.tmp s)
  | loc j o => exact .el _ _ _ (.loc j o)
  | mem o h => exact .undef' _
 | ptr o h => exact .ptr o h
 | loc j o => exact .loc j o
 | ro o h => exact .ro o h
 | tuple h => exact .tuple h
 | func f h => exact .func f h
 | agg h => exact .agg h
theorem Den.killLocV (h : Den ρ t v) : Den ρ (T.killLocV t) (Am.killLocV v) := by
 cases h with
 | base h0 => cases h0 with
  | undef v => exact .undef' _
  | _ => exact .base (by constructor <;> assumption)
 | place h => cases h with
  | tmp s => exact .place (.tmp s)
  | mem o h => exact .place (.mem o h)
  | loc j o => exact .undef' _
 | el sz i k h => cases h with
  | tmp s => exact .el _ _ _ (.tmp s)
  | mem o h => exact .el _ _ _ (.mem o h)
  | loc j o => exact .undef' _
 | ptr o h => exact .ptr o h
 | loc j o => exact .loc j o
 | ro o h => exact .ro o h
 | tuple h => exact .tuple h
 | func f h => exact .func f h
 | agg h => exact .agg h
theorem zoV {α : Type} {off n o : Nat} {x y : α} : (bif Nat.ble off o && Nat.ble (o + 1) (off + n) then x else y) = if off ≤ o ∧ o < off + n then x else y := by
 by_cases h : off ≤ o ∧ o < off + n
 ·rw [if_pos h, Nat.ble_eq_true_of_le h.1, Nat.ble_eq_true_of_le (show o + 1 ≤ off + n from h.2)]; rfl
 ·rw [if_neg h]
  cases h1 : Nat.ble off o with
  | false => rfl
  | true =>
   cases h2 : Nat.ble (o + 1) (off + n) with
   | false => rfl
   | true => exact absurd ⟨Nat.le_of_ble_eq_true h1, Nat.le_of_ble_eq_true h2⟩ h
theorem Den.killAtV (off n : Nat) (h : Den ρ t v) : Den ρ (T.killAtV off n t) (Am.killAtV off n v) := by
 cases h with
 | base h0 => cases h0 with
  | undef v => exact .undef' _
  | _ => exact .base (by constructor <;> assumption)
 | place h => cases h with
  | tmp s => exact .place (.tmp s)
  | mem o h =>
   simp only [T.killAtV, Am.killAtV, zoV]
   split
   ·exact .undef' _
   ·exact .place (.mem o h)
  | loc j o => exact .place (.loc j o)
 | el sz i k h => cases h with
  | tmp s => exact .el _ _ _ (.tmp s)
  | mem o h =>
   simp only [T.killAtV, Am.killAtV, zoV]
   split
   ·exact .undef' _
   ·exact .el _ _ _ (.mem o h)
  | loc j o => exact .el _ _ _ (.loc j o)
 | ptr o h => exact .ptr o h
 | loc j o => exact .loc j o
 | ro o h => exact .ro o h
 | tuple h => exact .tuple h
 | func f h => exact .func f h
 | agg h => exact .agg h
theorem zjK {α : Type} {a b : Nat} {x y : α} : (bif Nat.beq a b then x else y) = if a = b then x else y := by
 by_cases h : a = b
 ·subst h; simp
 ·have : Nat.beq a b = false := by
   cases hb : Nat.beq a b with
   | false => rfl
   | true => exact absurd (yap hb) h
  simp [h, this]
theorem Den.killTV (d : Nat) (h : Den ρ t v) : Den ρ (T.killTV d t) (Am.killTV d v) := by
 cases h with
 | base h0 => cases h0 with
  | undef v => exact .undef' _
  | _ => exact .base (by constructor <;> assumption)
 | place h => cases h with
  | tmp s =>
   show Den ρ (bif Nat.beq s d then .undef else .place (.tmp s)) (if s = d then .undef else .place (.tmp s))
   rw [zjK]; split
   ·exact .undef' _
   ·exact .place (.tmp s)
  | loc j o => exact .place (.loc j o)
  | mem o h => exact .place (.mem o h)
 | el sz i k h => cases h with
  | tmp s =>
   show Den ρ (bif Nat.beq s d then .undef else .el (.tmp s) sz i k) (if s = d then .undef else .el (.tmp s) sz i k)
   rw [zjK]; split
   ·exact .undef' _
   ·exact .el _ _ _ (.tmp s)
  | loc j o => exact .el _ _ _ (.loc j o)
  | mem o h => exact .el _ _ _ (.mem o h)
 | ptr o h => exact .ptr o h
 | loc j o => exact .loc j o
 | ro o h => exact .ro o h
 | tuple h => exact .tuple h
 | func f h => exact .func f h
 | agg h => exact .agg h
theorem Den.killLV (d : Nat) (h : Den ρ t v) : Den ρ (T.killLV d t) (Am.killLV d v) := by
 cases h with
 | base h0 => cases h0 with
  | undef v => exact .undef' _
  | _ => exact .base (by constructor <;> assumption)
 | place h => cases h with
  | loc j o =>
   show Den ρ (bif Nat.beq j d then .undef else .place (.loc j o)) (if j = d then .undef else .place (.loc j o))
   rw [zjK]; split
   ·exact .undef' _
   ·exact .place (.loc j o)
  | tmp s => exact .place (.tmp s)
  | mem o h => exact .place (.mem o h)
 | el sz i k h => cases h with
  | loc j o =>
   show Den ρ (bif Nat.beq j d then .undef else .el (.loc j o) sz i k) (if j = d then .undef else .el (.loc j o) sz i k)
   rw [zjK]; split
   ·exact .undef' _
   ·exact .el _ _ _ (.loc j o)
  | tmp s => exact .el _ _ _ (.tmp s)
  | mem o h => exact .el _ _ _ (.mem o h)
 | ptr o h => exact .ptr o h
 | loc j o =>
  show Den ρ (bif Nat.beq j d then .undef else .loc j o) (if j = d then .undef else .loc j o)
  rw [zjK]; split
  ·exact .undef' _
  ·exact .loc j o
 | ro o h => exact .ro o h
 | tuple h => exact .tuple h
 | func f h => exact .func f h
 | agg h => exact .agg h
theorem Den.selfPlace {d : Option Nat} (h : Den ρ t v) (hu : t ≠ .undef) (hg : zfY d t = false) : Am.selfPlace d v = false := by
 cases h with
 | base h0 => cases h0 <;> first | rfl | exact absurd rfl hu
 | place h => cases h <;> first | exact hg | rfl
 | el sz i k h => cases h <;> first | exact hg | rfl
 | _ => rfl
theorem Den0.low (h : Den0 t v) (hg : t.low0 = true) : v.top = 0 := by
 cases h <;> first | rfl | cases hg
theorem Den.low (h : Den ρ t v) (hg : t.low0 = true) : v.top = 0 := by
 cases h with
 | base h0 => exact h0.low hg
 | func f h => cases h with
  | nil => rfl
  | cons _ _ => cases hg
 | _ => cases hg
theorem zgA {cs : List TV} {cs' : List V} (h : Pw (Den ρ) cs cs') (hg : cs.all TV.low0 = true) : tops cs' = 0 := by
 induction h with
 | nil => rfl
 | cons hr _ ih =>
  simp only [List.all_cons, yae] at hg
  have e1 := hr.low hg.1
  have e2 := ih hg.2
  unfold tops at e2 ⊢
  simp only [List.foldr_cons, e1, e2]; rfl
theorem Den.low1 (h : Den ρ t v) (hg : t.low1 = true) : v.top1 = 0 := by
 cases h with
 | base h0 => cases h0 <;> first | rfl | cases hg
 | func f h => cases h with
  | nil => rfl
  | cons _ _ => cases hg
 | agg h => exact zgA h hg
 | _ => cases hg
theorem Den.low2 (h : Den ρ t v) (hg : t.low2 = true) : v.top2 = 0 := by
 cases h with
 | base h0 => cases h0 <;> first | rfl | cases hg
 | func f h => cases h with
  | nil => rfl
  | cons _ _ => cases hg
 | agg h => exact zgA h hg
 | tuple h =>
  show List.foldr (fun (v : V) (n : Nat) => max v.top1 n) 0 _ = 0
  have hg' : List.all _ TV.low1 = true := hg
  clear hg
  induction h with
  | nil => rfl
  | cons hr _ ih =>
   simp only [List.all_cons, yae] at hg'
   simp only [List.foldr_cons, hr.low1 hg'.1, ih hg'.2]; rfl
 | _ => cases hg
theorem Den.bool_inv {b : Bool} (h : Den ρ (.bool b) v) : v = .bool b := by
 cases h with
 | base h0 => cases h0; rfl
theorem Den.int_inv {k : IntKind} {n : Int} (h : Den ρ (.int k n) v) : v = .int k n := by
 cases h with
 | base h0 => cases h0; rfl
theorem Den.str_inv {s : List Int} (h : Den ρ (.str s) v) : ∃ b : List UInt8, v = .str b ∧ s = b.map zc0 := by
 cases h with
 | base h0 => cases h0 with
  | str b => exact ⟨b, rfl, rfl⟩
theorem Den.agg_inv {cs : List TV} (h : Den ρ (.agg cs) v) : ∃ cs', v = .agg cs' ∧ Pw (Den ρ) cs cs' := by
 cases h with
 | base h0 => cases h0
 | agg h => exact ⟨_, rfl, h⟩
theorem Den.tuple_inv {cs : List TV} (h : Den ρ (.tuple cs) v) : ∃ cs', v = .tuple cs' ∧ Pw (Den ρ) cs cs' := by
 cases h with
 | base h0 => cases h0
 | tuple h => exact ⟨_, rfl, h⟩
theorem Den.ptr_inv {i o : Nat} (h : Den ρ (.ptr i o) v) : ∃ b, v = .ptr b o ∧ ρ[i]? = some b := by
 cases h with
 | base h0 => cases h0
 | ptr o h => exact ⟨_, rfl, h⟩
theorem Den.loc_inv {i o : Nat} (h : Den ρ (.loc i o) v) : v = .loc i o := by
 cases h with
 | base h0 => cases h0
 | loc j o => rfl
theorem Den.ro_inv {cs : List TV} {o : Nat} (h : Den ρ (.ro cs o) v) : ∃ cs', v = .ro cs' o ∧ Pw (Den ρ) cs cs' := by
 cases h with
 | base h0 => cases h0
 | ro o h => exact ⟨_, rfl, h⟩
theorem Den.el_inv {r : Root} {sz i k : Nat} (h : Den ρ (.el r sz i k) v) : ∃ r', v = .el r' sz i k ∧ RootR ρ r r' := by
 cases h with
 | base h0 => cases h0
 | el sz i k h => exact ⟨_, rfl, h⟩
theorem Den.place_inv {r : Root} (h : Den ρ (.place r) v) : ∃ r', v = .place r' ∧ RootR ρ r r' := by
 cases h with
 | base h0 => cases h0
 | place h => exact ⟨_, rfl, h⟩
theorem Den.func_inv {f : Nat} {cs : List TV} (h : Den ρ (.func f cs) v) : ∃ cs', v = .func f cs' ∧ Pw (Den ρ) cs cs' := by
 cases h with
 | base h0 => cases h0 with
  | func f => exact ⟨_, rfl, .nil⟩
 | func f h => exact ⟨_, rfl, h⟩
theorem Den.nils_inv (h : Den ρ .nils v) : v = .nils := by
 cases h with
 | base h0 => cases h0; rfl
theorem Den.nilp_inv (h : Den ρ .nilp v) : v = .nilp := by
 cases h with
 | base h0 => cases h0; rfl
theorem Den.nilf_inv (h : Den ρ .nilf v) : v = .nilf := by
 cases h with
 | base h0 => cases h0; rfl
theorem Den.sl_inv {own : Bool} {sz : Nat} {xs : List (List TV)} (h : Den ρ (.sl own sz xs) v) : (∃ ys, v = .slice own sz ys ∧ Pw (Pw Den0) xs ys) ∨ (v = .nils ∧ xs = []) := by
 cases h with
 | base h0 => cases h0 with
  | sl own sz h => exact .inl ⟨_, rfl, h⟩
  | sln own sz => exact .inr ⟨rfl, rfl⟩
theorem Pw.base {cs : List TV} {cs' : List V} (h : Pw Den0 cs cs') : Pw (Den ρ) cs cs' := h.mono fun _ _ h => .base h
end tv
end Go.Proofs.YtakdnfneikbjjaaGreatDoor.Am.T

namespace Go.Proofs.YtakdnfneikbjjaaGreatDoor.Am.T
open Go.Proofs.YtakdnfneikbjjaaGreatDoor.Am
abbrev Ts := List (Nat × TV)
abbrev Bs := List (Nat × List TV)
abbrev Ms := List (List TV)
def mapK (f : TV → TV) : Ts → (Ts → Prop) → Prop
 | [], k => k []
 | (s, v) :: r, k => mapK f r fun r' => k ((s, f v) :: r')
def rdP (v : TV) (p : Prop) : Prop :=
 match v with
 | .undef => False
 | .sl true _ _ => False
 | .agg cs => bif cs.any TV.own0 then False else p
 | .tuple vs => bif vs.any TV.own1 then False else p
 | _ => p
def rdV (v : TV) (k : TV → Prop) : Prop := rdP v (k v)
def cV0 : V → TV
 | .bool b => .bool b
 | .int k n => .int k n
 | .str s => .str (s.map zc0)
 | _ => .undef
def cV : V → TV
 | .slice false z xs => .sl false z (xs.map fun cs => cs.map cV0)
 | .bool b => .bool b
 | .int k n => .int k n
 | .str s => .str (s.map zc0)
 | .nilp => .nilp
 | .nils => .nils
 | .func f [] => .func f []
 | .nilf => .nilf
 | .nili => .nili
 | _ => .undef
inductive NilOk : TV → Prop
 | nils : NilOk .nils
 | sl (o : Bool) (z : Nat) : NilOk (.sl o z [])
def cK (v : V) (k : TV → Prop) : Prop :=
 match v with
 | .nils => ∃ t, NilOk t ∧ k t
 | v => k (cV v)
def zkR : List V → (List TV → Prop) → Prop
 | [], k => k []
 | v :: r, k => cK v fun t => zkR r fun ts => k (t :: ts)
def zbJ {α : Type} : List α → (List α → Prop) → Prop
 | [], k => k []
 | x :: r, k => zbJ r fun r' => k (x :: r')
def rdC (L : Ts) (o : Opd) (k : TV → Prop) : Prop :=
 match o with
 | .c v => k (cV v)
 | .t s => match fnd L s with
  | some v => rdV v k
  | none => False
 | .u s .peek => k (.place (.tmp s))
 | .u _ _ => False
def rd (L : Ts) (o : Opd) (k : TV → Ts → Prop) : Prop :=
 match o with
 | .c v => cK v fun t => k t L
 | .t s => match fnd L s with
  | some v => rdV v fun v => k v L
  | none => False
 | .u s .take => match fnd L s with
  | some v => k v ((s, .undef) :: L)
  | none => False
 | .u s .share => match fnd L s with
  | some v => k v.share ((s, .undef) :: L)
  | none => False
 | .u s .peek => k (.place (.tmp s)) L
 | .u s .copy => match fnd L s with
  | some v => rdV v fun v => k v L
  | none => False
def rds (L : Ts) : List Opd → (List TV → Ts → Prop) → Prop
 | [], k => k [] L
 | x :: xs, k => rd L x fun v L1 => rds L1 xs fun vs L2 => k (v :: vs) L2
def rdCs (L : Ts) : List Opd → (List TV → Prop) → Prop
 | [], k => k []
 | x :: xs, k => rdC L x fun v => rdCs L xs fun vs => k (v :: vs)
def zkS (L : Ts) (B : Bs) (m : Ms) (r : Root) (k : TV → Prop) : Prop :=
 match r with
 | .mem b o => match m[b]? with
  | some cs => match cs[o]? with
   | some v => k v
   | none => False
  | none => False
 | .loc j o => match fnd B j with
  | some cs => match cs[o]? with
   | some v => k v
   | none => False
  | none => False
 | .tmp s => match fnd L s with
  | some v => k v
  | none => False
def znj (v : TV) (k : List (List TV) → Prop) : Prop :=
 match v with
 | .sl _ _ xs => k xs
 | .nils => k []
 | _ => False
def zlv (L : Ts) (B : Bs) (m : Ms) (v : TV) (k : List (List TV) → Prop) : Prop :=
 match v with
 | .sl _ _ xs => k xs
 | .nils => k []
 | .place r => zkS L B m r fun v => znj v k
 | _ => False
def znk (sz : Nat) (v : TV) (k : List (List TV) → Prop) : Prop :=
 match v with
 | .nils => k []
 | .sl _ z xs => bif Nat.beq z sz then k xs else False
 | _ => False
def by8 (b : Int) : List TV := [.int .u8 b]
def ziE (sz : Nat) (L : Ts) (B : Bs) (m : Ms) (v : TV) (k : List (List TV) → Prop) : Prop :=
 match v with
 | .nils => k []
 | .str s => bif Nat.beq sz 1 then k (s.map by8) else False
 | .sl _ z xs => bif Nat.beq z sz then k xs else False
 | .place r => zkS L B m r fun v => znk sz v k
 | _ => False
def zpD (sz : Nat) (L : Ts) (B : Bs) (m : Ms) (v : TV) (k : List (List TV) → Prop) : Prop :=
 match v with
 | .str _ => False
 | v => ziE sz L B m v k
def TV.bare : TV → Bool
 | .int _ _ | .bool _ | .str _ => true
 | _ => false
def setT (cs : List TV) (off : Nat) (vs : List TV) : List TV := cs.take off ++ vs ++ cs.drop (off + vs.length)
def ldW (mode : Use) (root : Root) (agg : Bool) (n : Nat) (cs : List TV) (off : Nat) (k : TV → Option (List TV) → Prop) : Prop :=
 match agg with
 | false => bif Nat.beq n 1 then match cs[off]? with
  | some v => match mode with
   | .copy => bif v.own0 then False else k v none
   | .take => zbJ (cs.set off v.left) fun c => k v (some c)
   | .share => zbJ (cs.set off v.share0) fun c => k v.share0 (some c)
   | .peek => k (.place root) none
  | none => False
  else False
 | true => bif Nat.ble (off + n) cs.length then match mode with
   | .copy => bif ((cs.drop off).take n).any TV.own0 then False else zbJ ((cs.drop off).take n) fun d => k (.agg d) none
   | .take => zbJ ((cs.drop off).take n) fun d => zbJ (setT cs off (d.map TV.left)) fun c => k (.agg d) (some c)
   | .share => zbJ (((cs.drop off).take n).map TV.share0) fun d => zbJ (setT cs off d) fun c => k (.agg d) (some c)
   | .peek => False
  else False
def loadW (agg : Bool) (n : Nat) (mode : Use) (L : Ts) (B : Bs) (m : Ms) (a : TV) (k : TV → Bs → Ms → Prop) : Prop :=
 match a with
 | .ptr b off => match m[b]? with
  | some cs => ldW mode (.mem b off) agg n cs off fun v c => match c with
   | none => k v B m
   | some c => zbJ (m.set b c) fun m' => k v B m'
  | none => False
 | .loc j off => match mode with
  | .share => False
  | mode => match fnd B j with
   | some cs => ldW mode (.loc j off) agg n cs off fun v c => match c with
    | none => k v B m
    | some c => k v ((j, c) :: B) m
   | none => False
 | .ro cs off => match mode with
  | .copy => match agg with
   | false => bif Nat.beq n 1 then (match cs[off]? with
    | some v => k v B m
    | none => False) else False
   | true => bif Nat.ble (off + n) cs.length then zbJ ((cs.drop off).take n) fun d => k (.agg d) B m else False
  | _ => False
 | .el r z i o => match mode with
  | .copy => zkS L B m r fun v => match v with
   | .sl true sz xs => bif Nat.beq z sz then ∃ cs, xs[i]? = some cs ∧ match agg with
     | false => bif Nat.beq n 1 then (match cs[o]? with
      | some v => k v B m
      | none => False) else False
     | true => bif Nat.ble (o + n) cs.length then zbJ ((cs.drop o).take n) fun d => k (.agg d) B m else False
    else False
   | _ => False
  | _ => False
 | _ => False
def znl (n : Nat) (cells : List TV) (L : Ts) (B : Bs) (m : Ms) (a : TV) (k : Ts → Bs → Ms → Prop) : Prop :=
 match a with
 | .ptr b off => match m[b]? with
  | some old => bif Nat.ble (off + n) old.length && Nat.beq cells.length n && cells.all TV.ok0 && cells.all TV.low0 then mapK (killAtV off n) L fun L' => zbJ (setT old off cells) fun c => zbJ (m.set b c) fun m' => k L' B m' else False
  | none => False
 | .loc j off => match fnd B j with
  | some old => bif Nat.ble (off + n) old.length && Nat.beq cells.length n && cells.all TV.ok0 then mapK killLocV L fun L' => zbJ (setT old off cells) fun c => k L' ((j, c) :: B) m else False
  | none => False
 | .el r z i o => bif Nat.beq cells.length n && cells.all TV.good then (match r with
  | .mem b q => match m[b]? with
   | some old => match old[q]? with
    | some (.sl true sz xs) => bif Nat.beq z sz then ∃ cs, xs[i]? = some cs ∧ bif Nat.ble (o + n) cs.length then ∃ zs, zs = xs.set i (setT cs o cells) ∧ zbJ (old.set q (.sl true sz zs)) fun c => zbJ (m.set b c) fun m' => k L B m' else False else False
    | _ => False
   | none => False
  | .loc j q => match fnd B j with
   | some old => match old[q]? with
    | some (.sl true sz xs) => bif Nat.beq z sz then ∃ cs, xs[i]? = some cs ∧ bif Nat.ble (o + n) cs.length then ∃ zs, zs = xs.set i (setT cs o cells) ∧ zbJ (old.set q (.sl true sz zs)) fun c => k L ((j, c) :: B) m else False else False
    | _ => False
   | none => False
  | .tmp s => match fnd L s with
   | some (.sl true sz xs) => bif Nat.beq z sz then ∃ cs, xs[i]? = some cs ∧ bif Nat.ble (o + n) cs.length then ∃ zs, zs = xs.set i (setT cs o cells) ∧ k ((s, .sl true sz zs) :: L) B m else False else False
   | _ => False) else False
 | _ => False
def zov (L : Ts) (cells : List TV) : List (Nat × Nat × Opd) → (List TV → Ts → Prop) → Prop
 | [], k => k cells L
 | (off, n, x) :: r, k => rd L x fun v L1 => bif Nat.beq v.cells.length n && Nat.ble (off + n) cells.length && v.ok1 then zbJ (setT cells off v.cells) fun c => zov L1 c r k else False
def zlw (L : Ts) (sz : Nat) (xs : List (List TV)) : List (Nat × Opd) → (List (List TV) → Ts → Prop) → Prop
 | [], k => k xs L
 | (i, x) :: r, k => rd L x fun v L1 => bif Nat.beq v.cells.length sz && Nat.blt i xs.length && v.ok1 && v.cells.all TV.good then zbJ (xs.set i v.cells) fun ys => zlw L1 sz ys r k else False
def bndW (L : Ts) (dflt : Nat) (o : Option Opd) (k : Nat → Prop) : Prop :=
 match o with
 | none => k dflt
 | some x => rdC L x fun v => match v with
  | .int _ i => 0 ≤ i ∧ k i.toNat
  | _ => False
def tell (b : Bool) (k : TV → Prop) : Prop := ∀ c : Bool, b = c → k (.bool c)
def binW (op : BinOp) (x y : TV) (k : TV → Prop) : Prop :=
 match x, y with
 | .int a n, .int b p => match op with
  | .shl => 0 ≤ p ∧ k (.int a (a.wrap (n * 2 ^ min p.toNat a.bits)))
  | .shr => 0 ≤ p ∧ k (.int a (n.fdiv (2 ^ min p.toNat a.bits)))
  | .add => bif decide (a = b) then k (.int a (a.wrap (n + p))) else False
  | .sub => bif decide (a = b) then k (.int a (a.wrap (n - p))) else False
  | .mul => bif decide (a = b) then k (.int a (a.wrap (n * p))) else False
  | .quo => bif decide (a = b) then p ≠ 0 ∧ k (.int a (a.wrap (n.tdiv p))) else False
  | .rem => bif decide (a = b) then p ≠ 0 ∧ k (.int a (n.tmod p)) else False
  | .and => bif decide (a = b) then k (.int a (a.wrap ((BitVec.ofInt a.bits n &&& BitVec.ofInt a.bits p).toNat))) else False
  | .or => bif decide (a = b) then k (.int a (a.wrap ((BitVec.ofInt a.bits n ||| BitVec.ofInt a.bits p).toNat))) else False
  | .xor => bif decide (a = b) then k (.int a (a.wrap ((BitVec.ofInt a.bits n ^^^ BitVec.ofInt a.bits p).toNat))) else False
  | .andNot => bif decide (a = b) then k (.int a (a.wrap ((BitVec.ofInt a.bits n &&& ~~~ (BitVec.ofInt a.bits p)).toNat))) else False
  | .eql => bif decide (a = b) then tell (decide (n = p)) k else False
  | .neq => bif decide (a = b) then tell (decide (n ≠ p)) k else False
  | .lss => bif decide (a = b) then tell (decide (n < p)) k else False
  | .leq => bif decide (a = b) then tell (decide (n ≤ p)) k else False
  | .gtr => bif decide (a = b) then tell (decide (n > p)) k else False
  | .geq => bif decide (a = b) then tell (decide (n ≥ p)) k else False
 | .str s, .str t => match op with
  | .add => s.length + t.length ≤ 4611686018427387904 ∧ ∃ u, u = s ++ t ∧ k (.str u)
  | .eql => tell (decide (s = t)) k
  | .neq => tell (decide (s ≠ t)) k
  | _ => False
 | _, _ => False
def zow : LK → TV → TV → Option Bool
 | .int, .int k a, .int k' b => bif decide (k = k') then some (decide (a = b)) else none
 | .bool, .bool a, .bool b => some (a == b)
 | .str, .str a, .str b => some (decide (a = b))
 | _, _, _ => none
def zhc : List LK → List TV → List TV → Option Bool
 | [], [], [] => some true
 | k :: ks, x :: xs, y :: ys => match zow k x y with
  | some b => match zhc ks xs ys with
   | some c => some (b && c)
   | none => none
  | none => none
 | _, _, _ => none
def eqT (kind : EqK) (x y : TV) : Option Bool :=
 match kind, x, y with
 | .ptr, .nilp, .nilp => some true
 | .ptr, .nilp, .ptr _ _ | .ptr, .ptr _ _, .nilp | .ptr, .nilp, .loc _ _ | .ptr, .loc _ _, .nilp => some false
 | .slice, .nils, .nils => some true
 | .func, .nilf, .nilf => some true
 | .func, .nilf, .func _ _ | .func, .func _ _, .nilf => some false
 | _, _, _ => none
def eqW (neg : Bool) (kind : EqK) (x y : TV) (k : TV → Prop) : Prop :=
 match kind with
 | .bool => match x, y with
  | .bool a, .bool b => tell (bif neg then !(a == b) else (a == b)) k
  | _, _ => False
 | .plain ks => match x, y with
  | .agg xs, .agg ys => match zhc ks xs ys with
   | some b => tell (bif neg then !b else b) k
   | none => False
  | _, _ => False
 | .slice => match x, y with
  | .sl _ _ xs, .nils => ∀ c : Bool, (c = true → xs = []) → k (.bool (bif neg then !c else c))
  | .nils, .sl _ _ xs => ∀ c : Bool, (c = true → xs = []) → k (.bool (bif neg then !c else c))
  | .nils, .nils => k (.bool (bif neg then !true else true))
  | _, _ => False
 | .iface => match x, y with
  | .err a, .nili => tell (bif neg then a else !a) k
  | _, _ => False
 | kind => match eqT kind x y with
  | some b => k (.bool (bif neg then !b else b))
  | none => False
def unW (op : UnOp) (x : TV) (k : TV → Prop) : Prop :=
 match op, x with
 | .neg, .int kd n => k (.int kd (kd.wrap (0 - n)))
 | .not, .bool b => k (.bool !b)
 | .xor, .int kd n => k (.int kd (kd.wrap ((BitVec.ofInt kd.bits (if kd.signed then -1 else kd.max) ^^^ BitVec.ofInt kd.bits n).toNat)))
 | _, _ => False
def appW (sz : Nat) (ys : List (List TV)) (xs : List (List TV)) (z : Nat) (k : TV → Prop) : Prop :=
 bif Nat.beq z sz then xs.length + ys.length ≤ most ∧ ∃ zs, zs = xs ++ ys ∧ k (.sl true sz zs) else False
def ziA (mx : Bool) (v : TV) (vs : List TV) (k : TV → Prop) : Prop :=
 match v, vs with
 | .int kd a, [.int kd' b] => bif decide (kd = kd') then (match mx with
  | false => k (.int kd (min a b))
  | true => k (.int kd (max a b))) else False
 | _, _ => False
def Mg (ρ : List Nat) (M : Ms) (m : Am.Ms) : Prop := ρ.Nodup ∧ ρ.length = M.length ∧ ∀ (i b : Nat), ρ[i]? = some b → ∃ (cs : List TV) (cs' : List V), M[i]? = some cs ∧ m[b]? = some cs' ∧ Pw (Den ρ) cs cs'
def Fr (ρ : List Nat) (m : Am.Ms) (ρ' : List Nat) (m' : Am.Ms) : Prop := (∃ e, ρ' = ρ ++ e ∧ ∀ b ∈ e, m.length ≤ b) ∧ m.length ≤ m'.length ∧ ∀ c : Nat, c < m.length → c ∉ ρ → m'[c]? = m[c]?
def zam (q : Bool) (cf : CF) (f : Nat) (args : List TV) (M : Ms) (r : TV) (M' : Ms) : Prop :=
 ∀ ρ m args', Mg ρ M m → Pw (Den ρ) args args' → ∃ r' m' ρ', cf f args' m = some (r', m') ∧ Den ρ' r r' ∧ Mg ρ' M' m' ∧ Fr ρ m ρ' m' ∧ (r.low2 = true → m'.length = m.length) ∧ (q = true → m' = m)
def zpV (n : Int) : List Int := (Utf8.encode n).data.toList.map zc0
def TV.flatA0 : TV → Bool
 | .bool _ | .int _ _ | .str _ | .nilp | .nils | .sl _ _ _ | .nilf | .nili | .err _ => true
 | .func _ cs => cs.isEmpty
 | _ => false
def TV.flatA : TV → Bool
 | .agg cs => cs.all TV.flatA0
 | v => v.flatA0
def znm (L : Ts) (B : Bs) (m : Ms) (v : TV) (k : TV → Prop) : Prop :=
 match v with
 | .place r => zkS L B m r fun v => match v with
  | .nils => k .nils
  | .sl _ z xs => k (.sl false z xs)
  | _ => False
 | v => bif v.flatA && !v.hasOwn then k v else False
def zox (L : Ts) (B : Bs) (m : Ms) : List TV → (List TV → Prop) → Prop
 | [], k => k []
 | v :: vs, k => znm L B m v fun u => zox L B m vs fun us => k (u :: us)
def TV.flatR : TV → Bool
 | .tuple vs => vs.all TV.flatA
 | v => v.flatA
def zbq (q : Bool) (cf : CF) (op : AOp) (L : Ts) (B : Bs) (m : Ms) (k : TV → Ts → Bs → Ms → Prop) : Prop :=
 match op with
 | .mv x => rd L x fun v L' => k v L' B m
 | .mvK s => match fnd L s with
  | some (.sl _ z xs) => k (.sl false z xs) ((s, .sl false z xs) :: L) B m
  | some .nils => k .nils L B m
  | _ => False
 | .pick c a b => rdC L c fun v => match v with
  | .bool t => rdC L (bif t then a else b) fun w => k w L B m
  | _ => False
 | .allocL j zero => bif zero.all V.ok0 then zkR zero fun z => mapK (killLV j) L fun L' => k (.loc j 0) L' ((j, z) :: B) m else False
 | .allocM zero => bif zero.all V.ok0 then zkR zero fun z => bif z.all TV.low0 then zbJ (m ++ [z]) fun m' => k (.ptr m.length 0) L B m' else False else False
 | .boxL j x => rd L x fun v L1 => bif v.ok1 then mapK (killLV j) L1 fun L' => k (.loc j 0) L' ((j, v.cells) :: B) m else False
 | .boxM x => rd L x fun v L1 => bif v.ok1 then zbJ (m ++ [v.cells]) fun m' => k (.ptr m.length 0) L1 B m' else False
 | .build zero parts => zkR zero fun z => zov L z parts fun cs L' => k (.agg cs) L' B m
 | .buildSlice sz zero len parts => bif Nat.beq zero.length sz && zero.all V.good then zkR zero fun z => bif z.all TV.good then zlw L sz (List.replicate len z) parts fun xs L' => ∃ zs, zs = xs ∧ k (.sl true sz zs) L' B m else False else False
 | .load agg n p mode => rdC L p fun a => loadW agg n mode L B m a fun v B' m' => k v L B' m'
 | .store n p x => rd L x fun v L1 => rdC L1 p fun a => bif v.ok1 then znl n v.cells L1 B m a fun L' B' m' => k .undef L' B' m' else False
 | .nilCheck x => rdC L x fun v => match v with
  | .ptr .. | .loc .. | .ro .. | .el .. | .func .. => k v L B m
  | _ => False
 | .bin op x y => rdC L x fun a => rdC L y fun b => binW op a b fun v => k v L B m
 | .eq neg kind x y => rdC L x fun a => rdC L y fun b => eqW neg kind a b fun v => k v L B m
 | .un op x => rdC L x fun a => unW op a fun v => k v L B m
 | .conv kd x => rdC L x fun a => match a with
  | .int _ n => k (.int kd (kd.wrap n)) L B m
  | _ => False
 | .strStr x => rdC L x fun a => match a with
  | .str s => k (.str s) L B m
  | _ => False
 | .strBytes x => rdC L x fun a => match a with
  | .str s => k (.sl true 1 (s.map by8)) L B m
  | _ => False
 | .bytesStr x => rdC L x fun a => zlv L B m a fun xs => ∃ s : List Int, (xs = s.map by8 ∧ ∀ b ∈ s, 0 ≤ b ∧ b < 256) ∧ k (.str s) L B m
 | .intStr x => rdC L x fun a => match a with
  | .int _ n => k (.str (zpV n)) L B m
  | _ => False
 | .convB x => rd L x fun v L1 => match v with
  | .sl true z xs => bif Nat.beq z 1 then xs ≠ [] ∧ k (.sl true 1 xs) L1 B m else False
  | _ => False
 | .makeSlice sz zero l c => rdC L l fun a => rdC L c fun b => match a, b with
  | .int _ n, .int _ q => (0 ≤ n ∧ n ≤ q ∧ q ≤ (most : Int)) ∧ bif Nat.beq zero.length sz && zero.all V.good then zkR zero fun z => bif z.all TV.good then ∃ zs, zs = List.replicate n.toNat z ∧ k (.sl true sz zs) L B m else False else False
  | _, _ => False
 | .sliceS x lo hi => rdC L x fun a => match a with
  | .str s => bndW L s.length hi fun h => bndW L 0 lo fun l => (l ≤ h ∧ h ≤ s.length) ∧ ∃ t, t = (s.drop l).take (h - l) ∧ k (.str t) L B m
  | _ => False
 | .sliceV sz x lo hi => rd L x fun v L1 => match v with
  | .nils => bndW L1 0 hi fun h => bndW L1 0 lo fun l => (l = 0 ∧ h = 0) ∧ k .nils L1 B m
  | .sl o z xs => bif Nat.beq z sz then bndW L1 xs.length hi fun h => bndW L1 0 lo fun l => (l ≤ h ∧ h ≤ xs.length) ∧ ∃ zs, zs = (xs.drop l).take (h - l) ∧ k (.sl o sz zs) L1 B m else False
  | _ => False
 | .fieldAddr off x => rdC L x fun v => match v with
  | .ptr b o => k (.ptr b (o + off)) L B m
  | .loc j o => k (.loc j (o + off)) L B m
  | .ro cs o => k (.ro cs (o + off)) L B m
  | .el r z i q => k (.el r z i (q + off)) L B m
  | _ => False
 | .field agg n off x => rdC L x fun v => match v with
  | .agg cs => match agg with
   | false => bif Nat.beq n 1 then (match cs[off]? with
    | some v => k v L B m
    | none => False) else False
   | true => bif Nat.ble (off + n) cs.length then zbJ ((cs.drop off).take n) fun d => k (.agg d) L B m else False
  | _ => False
 | .indexArr len sz x i => rdC L x fun v => rdC L i fun n => match n with
  | .int _ i => (0 ≤ i ∧ i < len) ∧ match v with
   | .ptr b o => k (.ptr b (o + i.toNat * sz)) L B m
   | .loc j o => k (.loc j (o + i.toNat * sz)) L B m
   | .ro cs o => k (.ro cs (o + i.toNat * sz)) L B m
   | .el r z e q => k (.el r z e (q + i.toNat * sz)) L B m
   | _ => False
  | _ => False
 | .indexSl sz x i => rdC L x fun v => rdC L i fun n => match n with
  | .int _ i => match v with
   | .sl false z xs => bif Nat.beq z sz then 0 ≤ i ∧ ∃ cs, xs[i.toNat]? = some cs ∧ k (.ro cs 0) L B m else False
   | .place r => zkS L B m r fun v => match v with
    | .sl false z xs => bif Nat.beq z sz then 0 ≤ i ∧ ∃ cs, xs[i.toNat]? = some cs ∧ k (.ro cs 0) L B m else False
    | .sl true z xs => bif Nat.beq z sz then (0 ≤ i ∧ i.toNat < xs.length) ∧ k (.el r sz i.toNat 0) L B m else False
    | _ => False
   | _ => False
  | _ => False
 | .indexAgg agg len sz x i => rdC L x fun v => rdC L i fun n => match v, n with
  | .agg cs, .int _ i => (0 ≤ i ∧ i < len ∧ i.toNat * sz + sz ≤ cs.length) ∧ match agg with
   | false => bif Nat.beq sz 1 then ∃ v, cs[i.toNat * sz]? = some v ∧ k v L B m else False
   | true => k (.agg ((cs.drop (i.toNat * sz)).take sz)) L B m
  | _, _ => False
 | .indexStr x i => rdC L x fun v => rdC L i fun n => match v, n with
  | .str s, .int _ i => 0 ≤ i ∧ ∃ c, s[i.toNat]? = some c ∧ k (.int .u8 c) L B m
  | _, _ => False
 | .extract x i => rd L x fun v L1 => match v with
  | .tuple vs => match vs[i]? with
   | some v => k v L1 B m
   | none => False
  | _ => False
 | .lend f sz x lo => rdC L x fun a => zpD sz L B m a fun xs => lo < xs.length ∧ ∃ zs, zs = xs.drop lo ∧ ∃ r, zam true cf f [.sl false sz zs] [] r [] ∧ bif Nat.ble 1 sz && r.bare then k r L B m else False
 | .callN _ _ _ => False
 | .tOp _ _ => False
 | .loadW _ _ _ _ _ _ => False
 | .callL f args => rdCs L args fun vs => zox L B m vs fun us => ∃ r, zam true cf f us [] r [] ∧ bif r.bare then k r L B m else False
 | .callP f args => rds L args fun vs L1 => bif vs.all TV.flatA then ∃ r, zam true cf f vs [] r [] ∧ bif r.flatR then k r L1 B m else False else False
 | .callF f args => rds L args fun vs L1 => bif vs.all TV.okArg then ∃ r m', zam q cf f vs m r m' ∧ mapK killMV L1 fun L' => k r L' B m' else False
 | .callV f args => rdC L f fun v => match v with
  | .func g cap => rds L args fun vs L1 => bif vs.all TV.okArg then cap.all TV.okArg = true ∧ ∃ r m', zam q cf g (vs ++ cap) m r m' ∧ mapK killMV L1 fun L' => k r L' B m' else False
  | _ => False
 | .lenStr x => rdC L x fun a => match a with
  | .str s => k (.int .i64 s.length) L B m
  | _ => False
 | .lenSl x => rdC L x fun a => zlv L B m a fun xs => ∃ n : Nat, n = xs.length ∧ k (.int .i64 n) L B m
 | .lenC n => k (.int .i64 n) L B m
 | .append sz x y => rd L x fun p L1 => rd L1 y fun q L2 => ziE sz L2 B m q fun ys => match p with
  | .nils => appW sz ys [] sz fun v => k v L2 B m
  | .sl true z xs => appW sz ys xs z fun v => k v L2 B m
  | .place (.tmp s) => match fnd L2 s with
   | some (.sl true z xs) => appW sz ys xs z fun v => k v ((s, .undef) :: L2) B m
   | some .nils => appW sz ys [] sz fun v => k v L2 B m
   | _ => False
  | .place (.mem b o) => match m[b]? with
   | some cs => match cs[o]? with
    | some (.sl true z xs) => appW sz ys xs z fun v => zbJ (cs.set o .undef) fun c => zbJ (m.set b c) fun m' => k v L2 B m'
    | some .nils => appW sz ys [] sz fun v => k v L2 B m
    | _ => False
   | none => False
  | .place (.loc j o) => match fnd B j with
   | some cs => match cs[o]? with
    | some (.sl true z xs) => appW sz ys xs z fun v => zbJ (cs.set o .undef) fun c => k v L2 ((j, c) :: B) m
    | some .nils => appW sz ys [] sz fun v => k v L2 B m
    | _ => False
   | none => False
  | _ => False
 | .minMax mx x ys => rdC L x fun v => rdCs L ys fun vs => ziA mx v vs fun r => k r L B m
 | .mkFunc f captured => rdCs L captured fun vs => bif vs.all zhb then k (.func f vs) L B m else False
def putW (o : AOper) (v : TV) (L : Ts) (k : Ts → Prop) : Prop :=
 match o.dst with
 | none => bif o.kt then (bif zfY none v then False else match v with
  | .undef => False
  | _ => k L) else k L
 | some d => bif o.kt then (bif zfY (some d) v then False else match v with
  | .undef => False
  | v => mapK (killTV d) L fun L' => k ((d, v) :: L')) else k ((d, v) :: L)
def zjL (o : AOper) (L : Ts) (k : Ts → Prop) : Prop :=
 match o.dst with
 | none => k L
 | some d => bif o.kt then mapK (killTV d) L fun L' => k ((d, .tuple []) :: L') else k ((d, .tuple []) :: L)
def elAt (s : Nat) : TV → Bool
 | .el (.tmp s') _ _ _ => Nat.beq s' s
 | _ => false
def zkT (s : Nat) : TV → Bool
 | .place (.tmp s') => Nat.beq s' s
 | _ => false
def zkU (s : Nat) (kk : TOp) (L : Ts) (k : Prop) : Prop :=
 match kk with
 | .place => k
 | .index _ x _ | .len x => match fnd L x with
  | some v => bif zkT s v then k else False
  | none => False
 | .load _ _ p => match fnd L p with
  | some v => bif elAt s v then k else False
  | none => False
 | .store _ p x => rd L x fun _ L1 => match fnd L1 p with
  | some v => bif elAt s v then k else False
  | none => False
def wpOp (q : Bool) (cf : CF) (op : AOp) (L : Ts) (B : Bs) (m : Ms) (k : TV → Ts → Bs → Ms → Prop) : Prop :=
 match op with
 | .tOp s kk => zkU s kk L (zbq q cf (kk.under s) L B m k)
 | op => zbq q cf op L B m k
def wpOps (cf : CF) : List AOper → Ts → Bs → Ms → (Ts → Bs → Ms → Prop) → Prop
 | [], L, B, m, k => k L B m
 | o :: os, L, B, m, k => match o.guard with
  | none => wpOp false cf o.op L B m fun v L1 B1 m1 => putW o v L1 fun L2 => wpOps cf os L2 B1 m1 k
  | some (g, want) => match fnd L g with
   | some (.bool b) => bif b == want then wpOp false cf o.op L B m fun v L1 B1 m1 => putW o v L1 fun L2 => wpOps cf os L2 B1 m1 k
    else zjL o L fun L2 => wpOps cf os L2 B m k
   | some (.tuple []) => zjL o L fun L2 => wpOps cf os L2 B m k
   | _ => False
def zlx (lean : Bool) (L : Ts) : List Nat → Bool
 | [] => true
 | s :: r => match fnd L s with
  | some v => zkQ lean v && zlx lean L r
  | none => false
def zkV (op : AOp) : Bool := match op with
 | .store _ _ _ => true
 | _ => false
def zoW (o : AOper) : Bool := zkV o.op && (match o.mark with
 | .fa _ => false
 | _ => true)
def znn (mk : Mark) : Bool := match mk with
 | .quiet => true
 | _ => false
def ziF : TV → Bool
 | .loc _ _ => false
 | .undef => false
 | _ => true
def zoy (L : Ts) : List Nat → Bool
 | [] => true
 | s :: r => match fnd L s with
  | some v => ziF v && zoy L r
  | none => false
def zno (j : Nat) : TV → Bool
 | .loc i _ => i == j
 | _ => false
def faW (j : Nat) (L : Ts) : List Nat → Bool
 | [] => true
 | s :: r => match fnd L s with
  | some v => zno j v && faW j L r
  | none => false
def znp (o : AOper) (v : TV) : Bool := zkQ o.lean v && (match o.mark with
 | .none => true
 | .quiet | .mem => ziF v && (match v with
  | .place _ | .el _ _ _ _ => false
  | _ => true)
 | .fa j => zno j v
 | _ => ziF v)
def znq (op : AOp) (L : Ts) (k : Prop) : Prop :=
 match op with
 | .callP _ _ => k
 | .append _ (.u s .take) _ => match fnd L s with
  | some (.sl _ _ _) => k
  | some .nils => k
  | _ => False
 | _ => False
def zpl (o : AOper) (L : Ts) (k : Prop) : Prop :=
 match o.mark with
 | .none => k
 | .cool => match o.op.ptr? with
  | none => bif zoy L (slots o.op.opds) then k else False
  | some _ => False
 | .quiet => bif o.op.isCall then k else znq o.op L k
 | .fa j => bif faW j L (slots o.op.opds) then k else False
 | mk => match o.op.ptr? with
  | none => k
  | some p => rdC L p fun v => match v with
   | .loc i _ => bif mk == .loc i then k else False
   | .ptr _ _ => bif mk == .mem then k else False
   | .ro _ _ => bif mk == .free then k else False
   | _ => False
def doD (cf : CF) (o : AOper) (L : Ts) (B : Bs) (m : Ms) (k : Ts → Bs → Ms → Prop) : Prop :=
 bif o.op.isT then wpOp false cf o.op L B m fun v L1 B1 m1 => putW o v L1 fun L2 => k L2 B1 m1 else
 bif zlx o.lean L (slots o.op.opds) then wpOp (znn o.mark) cf o.op L B m fun v L1 B1 m1 => bif zoW o || znp o v then zpl o L (putW o v L1 fun L2 => k L2 B1 m1) else False else False
def wpD (cf : CF) : List AOper → Ts → Bs → Ms → (Ts → Bs → Ms → Prop) → Prop
 | [], L, B, m, k => k L B m
 | o :: os, L, B, m, k => match o.guard with
  | none => doD cf o L B m fun L2 B1 m1 => wpD cf os L2 B1 m1 k
  | some (g, want) => match fnd L g with
   | some (.bool b) => bif b == want then doD cf o L B m fun L2 B1 m1 => wpD cf os L2 B1 m1 k
    else zjL o L fun L2 => wpD cf os L2 B m k
   | some (.tuple []) => zjL o L fun L2 => wpD cf os L2 B m k
   | _ => False
def Ag (ρ : List Nat) (L : Ts) (σ : Nat → V) : Prop := ∀ s t, fnd L s = some t → Den ρ t (σ s)
def AgB (ρ : List Nat) (B : Bs) (l : Nat → List V) : Prop := ∀ s t, fnd B s = some t → Pw (Den ρ) t (l s)
structure Rel (ρ : List Nat) (L : Ts) (B : Bs) (M : Ms) (st : St) : Prop where
 a : Ag ρ L st.σ
 b : AgB ρ B st.l
 m : Mg ρ M st.m
structure WP (cf : CF) (c : ACode) (L : Ts) (B : Bs) (M : Ms) (Q : Ex → Ts → Bs → Ms → Prop) : Prop where
 go : ∀ ρ st, Rel ρ L B M st → ∃ e st', exec cf c st = some (e, st') ∧ ∃ ρ' L' B' M', Rel ρ' L' B' M' st' ∧ Fr ρ st.m ρ' st'.m ∧ Q e L' B' M'
end Go.Proofs.YtakdnfneikbjjaaGreatDoor.Am.T

namespace Go.Proofs.YtakdnfneikbjjaaGreatDoor.Am.T
open Go.Proofs.YtakdnfneikbjjaaGreatDoor.Am
theorem zpm (v : V) : Den0 (cV0 v) v := by
 unfold cV0
 split
 ·exact .bool _
 ·exact .int _ _
 ·exact .str _
 ·exact .undef _
theorem znr : ∀ cs : List V, Pw Den0 (cs.map cV0) cs
 | [] => .nil
 | c :: cs => .cons (zpm c) (znr cs)
theorem zly : ∀ xs : List (List V), Pw (Pw Den0) (xs.map fun cs => cs.map cV0) xs
 | [] => .nil
 | c :: cs => .cons (znr c) (zly cs)
theorem zoX {ρ : List Nat} (v : V) : Den ρ (cV v) v := by
 unfold cV
 split
 ·exact .base (.sl _ _ (zly _))
 ·exact .base (.bool _)
 ·exact .base (.int _ _)
 ·exact .base (.str _)
 ·exact .base .nilp
 ·exact .base .nils
 ·exact .base (.func _)
 ·exact .base .nilf
 ·exact .base .nili
 ·exact .undef' _
theorem NilOk.den {ρ : List Nat} {t : TV} (h : NilOk t) : Den ρ t .nils := by
 cases h with
 | nils => exact .base .nils
 | sl o z => exact .base (.sln o z)
theorem zlz {ρ : List Nat} {v : V} {k : TV → Prop} (h : cK v k) : ∃ t, Den ρ t v ∧ k t := by
 unfold cK at h
 split at h
 ·obtain ⟨t, h1, h2⟩ := h; exact ⟨t, h1.den, h2⟩
 ·exact ⟨_, zoX v, h⟩
theorem zcN {ρ : List Nat} : ∀ {z : List V} {k : List TV → Prop}, zkR z k → ∃ ts, Pw (Den ρ) ts z ∧ k ts
 | [], k, h => ⟨[], .nil, h⟩
 | v :: z, k, h => by
  obtain ⟨t, h1, h2⟩ := zlz (ρ := ρ) h
  obtain ⟨ts, h3, h4⟩ := zcN h2
  exact ⟨t :: ts, .cons h1 h3, h4⟩
theorem zav {α : Type} : ∀ {l : List α} {k : List α → Prop}, zbJ l k ↔ k l
 | [], _ => Iff.rfl
 | x :: r, k => by
  unfold zbJ
  exact zav
theorem zoz {ρ : List Nat} {cs : List TV} {cs' : List V} (h : Pw (Den ρ) cs cs') (hg : cs.all TV.good = true) : Pw Den0 cs cs' ∧ cs'.all V.good = true := by
 induction h with
 | nil => exact ⟨.nil, rfl⟩
 | cons hr _ ih =>
  simp only [List.all_cons, yae] at hg
  obtain ⟨a, b⟩ := hr.good hg.1
  obtain ⟨c, d⟩ := ih hg.2
  exact ⟨.cons a c, by simp only [List.all_cons, b, d, Bool.and_self]⟩
theorem bifT {c : Bool} {p : Prop} (h : bif c then p else False) : c = true ∧ p := zdr h
theorem bifF {c : Bool} {p : Prop} (h : bif c then False else p) : c = false ∧ p := by
 cases c with
 | true => exact h.elim
 | false => exact ⟨rfl, h⟩
theorem zlA {f : TV → TV} : ∀ {L : Ts} {k : Ts → Prop}, mapK f L k ↔ k (L.map fun p => (p.1, f p.2))
 | [], _ => Iff.rfl
 | (s, v) :: r, k => by
  unfold mapK
  rw [zlA]; rfl
theorem zns {f : TV → TV} : ∀ {L : Ts} {s : Nat}, fnd (L.map fun p => (p.1, f p.2)) s = (fnd L s).map f
 | [], _ => rfl
 | (k, v) :: r, s => by
  rw [List.map_cons, zcB, zcB, zns]
  split <;> rfl
section
variable {ρ : List Nat} {L : Ts} {B : Bs} {M : Ms} {st : St}
theorem Ag.upd {σ : Nat → V} (h : Ag ρ L σ) (d : Nat) {t : TV} {v : V} (hv : Den ρ t v) : Ag ρ ((d, t) :: L) (Am.upd σ d v) := fun s x hx => by
 rw [zcB] at hx
 unfold Am.upd
 split at hx
 ·rename_i e; rw [if_pos e]; cases hx; exact hv
 ·rename_i e; rw [if_neg e]; exact h s x hx
theorem AgB.upd {l : Nat → List V} (h : AgB ρ B l) (d : Nat) {t : List TV} {v : List V} (hv : Pw (Den ρ) t v) : AgB ρ ((d, t) :: B) (Am.upd l d v) := fun s x hx => by
 rw [zcB] at hx
 unfold Am.upd
 split at hx
 ·rename_i e; rw [if_pos e]; cases hx; exact hv
 ·rename_i e; rw [if_neg e]; exact h s x hx
theorem Ag.map {σ : Nat → V} (h : Ag ρ L σ) {f : TV → TV} {g : V → V} (hf : ∀ t v, Den ρ t v → Den ρ (f t) (g v)) : Ag ρ (L.map fun p => (p.1, f p.2)) (fun i => g (σ i)) := fun s x hx => by
 rw [zns, yah] at hx
 obtain ⟨y, hy, rfl⟩ := hx
 exact hf _ _ (h s y hy)
theorem Ag.mono {σ : Nat → V} (e : List Nat) (h : Ag ρ L σ) : Ag (ρ ++ e) L σ := fun s t ht => (h s t ht).mono e
theorem AgB.mono {l : Nat → List V} (e : List Nat) (h : AgB ρ B l) : AgB (ρ ++ e) B l := fun s t ht => (h s t ht).mono fun _ _ h => h.mono e
theorem Fr.refl (ρ : List Nat) (m : Am.Ms) : Fr ρ m ρ m := ⟨⟨[], by simp, by simp⟩, Nat.le_refl _, fun _ _ _ => rfl⟩
theorem Fr.trans {ρ ρ1 ρ2 : List Nat} {m m1 m2 : Am.Ms} (h : Fr ρ m ρ1 m1) (g : Fr ρ1 m1 ρ2 m2) : Fr ρ m ρ2 m2 := by
 obtain ⟨⟨e1, rfl, h1⟩, h2, h3⟩ := h
 obtain ⟨⟨e2, rfl, g1⟩, g2, g3⟩ := g
 refine ⟨⟨e1 ++ e2, by simp, fun b hb => ?_⟩, by omega, fun c hc hn => ?_⟩
 ·rcases yak.1 hb with hb | hb
  ·exact h1 b hb
  ·have := g1 b hb; omega
 ·rw [g3 c (by omega) (fun hh => ?_), h3 c hc hn]
  rcases yak.1 hh with hh | hh
  ·exact hn hh
  ·have := h1 c hh; omega
theorem Mg.lt {m : Am.Ms} (h : Mg ρ M m) {b : Nat} (hb : b ∈ ρ) : b < m.length := by
 obtain ⟨i, hi, rfl⟩ := List.getElem_of_mem hb
 obtain ⟨_, cs', _, h2, _⟩ := h.2.2 i ρ[i] (yai hi)
 exact zax h2
theorem Mg.get {m : Am.Ms} (h : Mg ρ M m) {i b : Nat} (hi : ρ[i]? = some b) {cs : List TV} (hM : M[i]? = some cs) : ∃ cs', m[b]? = some cs' ∧ Pw (Den ρ) cs cs' := by
 obtain ⟨cs2, cs', h1, h2, h3⟩ := h.2.2 i b hi
 rw [hM] at h1; cases h1
 exact ⟨cs', h2, h3⟩
theorem Mg.has {m : Am.Ms} (h : Mg ρ M m) {i : Nat} {cs : List TV} (hM : M[i]? = some cs) : ∃ b cs', ρ[i]? = some b ∧ m[b]? = some cs' ∧ Pw (Den ρ) cs cs' := by
 have hi : i < ρ.length := by rw [h.2.1]; exact zax hM
 have e := yai hi
 obtain ⟨cs', h1, h2⟩ := h.get e hM
 exact ⟨_, cs', e, h1, h2⟩
theorem zjM (h : ρ.Nodup) {i j b : Nat} (hi : ρ[i]? = some b) (hj : ρ[j]? = some b) : i = j := by
 obtain ⟨h1, e1⟩ := List.getElem?_eq_some_iff.1 hi
 obtain ⟨h2, e2⟩ := List.getElem?_eq_some_iff.1 hj
 exact (List.getElem_inj (h₀ := h1) (h₁ := h2) h).1 (by rw [e1, e2])
theorem Mg.set {m : Am.Ms} (h : Mg ρ M m) {i b : Nat} (hi : ρ[i]? = some b) {cs : List TV} {cs' : List V} (hc : Pw (Den ρ) cs cs') : Mg ρ (M.set i cs) (m.set b cs') := by
 refine ⟨h.1, by rw [List.length_set]; exact h.2.1, fun j c hj => ?_⟩
 obtain ⟨x, y, h1, h2, h3⟩ := h.2.2 j c hj
 by_cases e : i = j
 ·subst e
  have : b = c := by rw [hi] at hj; exact Option.some.inj hj
  subst this
  exact ⟨cs, cs', List.getElem?_set_self (zax h1), List.getElem?_set_self (zax h2), hc⟩
 ·have hne : b ≠ c := fun hh => e (zjM h.1 hi (by rw [hh]; exact hj))
  exact ⟨x, y, by rw [List.getElem?_set_ne e]; exact h1, by rw [List.getElem?_set_ne hne]; exact h2, h3⟩
theorem Fr.set {m : Am.Ms} {i b : Nat} (hi : ρ[i]? = some b) (cs' : List V) : Fr ρ m ρ (m.set b cs') :=
 ⟨⟨[], by simp, by simp⟩, by simp, fun c _ hn => by
  rw [List.getElem?_set_ne]
  rintro rfl
  exact hn (List.mem_of_getElem? hi)⟩
theorem Mg.alloc {m : Am.Ms} (h : Mg ρ M m) {cs : List TV} {cs' : List V} (hc : Pw (Den ρ) cs cs') : Mg (ρ ++ [m.length]) (M ++ [cs]) (m ++ [cs']) := by
 refine ⟨?_, by simp [h.2.1], fun j c hj => ?_⟩
 ·rw [List.nodup_append]
  refine ⟨h.1, by simp, fun a ha b hb => ?_⟩
  rw [yao.1 hb]
  exact Nat.ne_of_lt (h.lt ha)
 ·by_cases e : j < ρ.length
  ·rw [yaq e] at hj
   obtain ⟨x, y, h1, h2, h3⟩ := h.2.2 j c hj
   exact ⟨x, y, by rw [yaq (zax h1)]; exact h1, by rw [yaq (zax h2)]; exact h2, h3.mono fun _ _ h => h.mono _⟩
  ·have hl := zax hj
   simp only [yar, List.length_singleton] at hl
   have ej : j = ρ.length := by omega
   subst ej
   simp only [List.getElem?_concat_length, yaa] at hj
   subst hj
   refine ⟨cs, cs', ?_, List.getElem?_concat_length .., hc.mono fun _ _ h => h.mono _⟩
   rw [h.2.1]; exact List.getElem?_concat_length ..
theorem Fr.alloc (ρ : List Nat) (m : Am.Ms) (cs' : List V) : Fr ρ m (ρ ++ [m.length]) (m ++ [cs']) :=
 ⟨⟨[m.length], rfl, fun b hb => by rw [yao.1 hb]; exact Nat.le_refl _⟩, by simp, fun c hc _ => yaq hc⟩
theorem Rel.sig {σ : Nat → V} {L' : Ts} (h : Rel ρ L B M st) (ha : Ag ρ L' σ) : Rel ρ L' B M { st with σ := σ } := ⟨ha, h.b, h.m⟩
theorem znt {t : TV} {v : V} {k : TV → Prop} (hd : Den ρ t v) (h : rdV t k) : v.hasOwn = false ∧ k t := by
 have key : t.hasOwn = false ∧ k t := by
  unfold rdV rdP at h
  split at h
  ·exact h.elim
  ·exact h.elim
  ·obtain ⟨a, b⟩ := bifF h; exact ⟨a, b⟩
  ·obtain ⟨a, b⟩ := bifF h; exact ⟨a, b⟩
  ·rename_i h0 h1 h2 h3
   refine ⟨?_, h⟩
   cases t with
   | undef => exact (h0 rfl).elim
   | sl o z xs => cases o with
    | true => exact (h1 _ _ rfl).elim
    | false => rfl
   | agg cs => exact (h2 _ rfl).elim
   | tuple vs => exact (h3 _ rfl).elim
   | _ => rfl
 exact ⟨hd.hasOwn key.1, key.2⟩
theorem zar (h : Ag ρ L st.σ) {o : Opd} {k : TV → Prop} (hk : rdC L o k) : ∃ v t, getC st o = some v ∧ Den ρ t v ∧ k t := by
 unfold rdC at hk
 cases o with
 | c v => exact ⟨v, cV v, rfl, zoX v, hk⟩
 | t s =>
  simp only at hk
  cases hs : fnd L s with
  | none => rw [hs] at hk; exact hk.elim
  | some t =>
   rw [hs] at hk
   have hd := h s t hs
   obtain ⟨h1, h2⟩ := znt hd hk
   refine ⟨st.σ s, t, ?_, hd, h2⟩
   simp [getC, h1]
 | u s how =>
  cases how with
  | peek => exact ⟨_, _, rfl, .place (.tmp s), hk⟩
  | _ => exact hk.elim
theorem zb9 (h : Ag ρ L st.σ) {o : Opd} {k : TV → Ts → Prop} (hk : rd L o k) : ∃ v σ', getO st o = some (v, { st with σ := σ' }) ∧ ∃ t L', Den ρ t v ∧ Ag ρ L' σ' ∧ k t L' := by
 unfold rd at hk
 have copy : ∀ s, (match fnd L s with | some v => rdV v fun v => k v L | none => False) → (st.σ s).hasOwn = false ∧ ∃ t, Den ρ t (st.σ s) ∧ k t L := fun s hk => by
  cases hs : fnd L s with
  | none => rw [hs] at hk; exact hk.elim
  | some v =>
   rw [hs] at hk
   have hd := h s v hs
   obtain ⟨h1, h2⟩ := znt hd hk
   exact ⟨h1, v, hd, h2⟩
 have mv : ∀ (f : TV → TV) (g : V → V) s, (∀ t v, Den ρ t v → Den ρ (f t) (g v)) → (match fnd L s with | some v => k (f v) ((s, .undef) :: L) | none => False) → ∃ t, Den ρ t (g (st.σ s)) ∧ k t ((s, .undef) :: L) := fun f g s hf hk => by
  cases hs : fnd L s with
  | none => rw [hs] at hk; exact hk.elim
  | some v => rw [hs] at hk; exact ⟨f v, hf _ _ (h s v hs), hk⟩
 cases o with
 | c v =>
  obtain ⟨t, h1, h2⟩ := zlz hk
  exact ⟨v, st.σ, rfl, t, L, h1, h, h2⟩
 | t s =>
  obtain ⟨h1, t, h2, h3⟩ := copy s hk
  exact ⟨_, st.σ, by simp [getO, h1], t, L, h2, h, h3⟩
 | u s how =>
  cases how with
  | copy =>
   obtain ⟨h1, t, h2, h3⟩ := copy s hk
   exact ⟨_, st.σ, by simp [getO, h1], t, L, h2, h, h3⟩
  | take =>
   obtain ⟨t, h1, h2⟩ := mv id id s (fun _ _ h => h) hk
   exact ⟨_, _, rfl, t, _, h1, h.upd s (.undef' _), h2⟩
  | share =>
   obtain ⟨t, h1, h2⟩ := mv TV.share V.share s (fun _ _ h => h.share) hk
   exact ⟨_, _, rfl, t, _, h1, h.upd s (.undef' _), h2⟩
  | peek => exact ⟨_, st.σ, rfl, _, L, .place (.tmp s), h, hk⟩
theorem zfA : ∀ {xs : List Opd} {L : Ts} {st : St} (_ : Ag ρ L st.σ) {k : List TV → Ts → Prop} (_ : rds L xs k), ∃ vs σ', getOs st xs = some (vs, { st with σ := σ' }) ∧ ∃ ts L', Pw (Den ρ) ts vs ∧ Ag ρ L' σ' ∧ k ts L'
 | [], L, st, h, k, hk => ⟨[], st.σ, rfl, [], L, .nil, h, hk⟩
 | x :: xs, L, st, h, k, hk => by
  unfold rds at hk
  obtain ⟨v, σ1, e1, t, L1, hd, h1, hk1⟩ := zb9 h hk
  obtain ⟨vs, σ2, e2, ts, L2, hd2, h2, hk2⟩ := zfA (st := { st with σ := σ1 }) (L := L1) h1 hk1
  exact ⟨v :: vs, σ2, by simp [getOs, e1, e2], t :: ts, L2, .cons hd hd2, h2, hk2⟩
theorem zeU (h : Ag ρ L st.σ) : ∀ {xs : List Opd} {k : List TV → Prop} (_ : rdCs L xs k), ∃ vs ts, getCs st xs = some vs ∧ Pw (Den ρ) ts vs ∧ k ts
 | [], k, hk => ⟨[], [], rfl, .nil, hk⟩
 | x :: xs, k, hk => by
  unfold rdCs at hk
  obtain ⟨v, t, e1, hd, hk1⟩ := zar h hk
  obtain ⟨vs, ts, e2, hd2, hk2⟩ := zeU h hk1
  exact ⟨v :: vs, t :: ts, by simp [getCs, e1, e2], .cons hd hd2, hk2⟩
theorem RootR.look (h : Rel ρ L B M st) {r r' : Root} (hr : RootR ρ r r') {k : TV → Prop} (hk : zkS L B M r k) : ∃ t, Den ρ t (look st r') ∧ k t := by
 unfold zkS at hk
 cases hr with
 | @mem i b o hi =>
  simp only at hk
  split at hk
  ·rename_i cs hcs
   split at hk
   ·rename_i v hv
    obtain ⟨cs', h1, h2⟩ := h.m.get hi hcs
    obtain ⟨v', h3, h4⟩ := h2.get hv
    refine ⟨v, ?_, hk⟩
    show Den ρ v ((st.m.getD b []).getD o .undef)
    rw [zbE h1, zbE h3]; exact h4
   ·exact hk.elim
  ·exact hk.elim
 | loc j o =>
  simp only at hk
  split at hk
  ·rename_i cs hcs
   split at hk
   ·rename_i v hv
    obtain ⟨v', h3, h4⟩ := (h.b j cs hcs).get hv
    refine ⟨v, ?_, hk⟩
    show Den ρ v ((st.l j).getD o .undef)
    rw [zbE h3]; exact h4
   ·exact hk.elim
  ·exact hk.elim
 | tmp s =>
  simp only at hk
  split at hk
  ·rename_i v hv; exact ⟨v, h.a s v hv, hk⟩
  ·exact hk.elim
theorem zjN {t : TV} {v : V} (hd : Den ρ t v) {k : List (List TV) → Prop} (hk : znj t k) : ∃ xs, (v = .nils ∧ xs = [] ∨ ∃ o z, v = .slice o z xs) ∧ ∃ ys, Pw (Pw Den0) ys xs ∧ k ys := by
 unfold znj at hk
 cases t with
 | nils => rw [hd.nils_inv]; exact ⟨[], .inl ⟨rfl, rfl⟩, [], .nil, hk⟩
 | sl o z xs =>
  rcases hd.sl_inv with ⟨ys, rfl, h⟩ | ⟨rfl, rfl⟩
  ·exact ⟨ys, .inr ⟨_, _, rfl⟩, xs, h, hk⟩
  ·exact ⟨[], .inl ⟨rfl, rfl⟩, [], .nil, hk⟩
 | _ => exact hk.elim
theorem zgl (h : Rel ρ L B M st) {t : TV} {v : V} (hd : Den ρ t v) {k : List (List TV) → Prop} (hk : zlv L B M t k) : ∃ xs, elems st v = some xs ∧ ∃ ys, Pw (Pw Den0) ys xs ∧ k ys := by
 unfold zlv at hk
 cases t with
 | nils => rw [hd.nils_inv]; exact ⟨[], rfl, [], .nil, hk⟩
 | sl o z xs =>
  rcases hd.sl_inv with ⟨ys, rfl, h⟩ | ⟨rfl, rfl⟩
  ·exact ⟨ys, rfl, xs, h, hk⟩
  ·exact ⟨[], rfl, [], .nil, hk⟩
 | place r =>
  obtain ⟨r', rfl, hr⟩ := hd.place_inv
  obtain ⟨t, hd2, hk2⟩ := hr.look h hk
  obtain ⟨xs, hx, ys, h1, h2⟩ := zjN hd2 hk2
  refine ⟨xs, ?_, ys, h1, h2⟩
  unfold elems
  rcases hx with ⟨e, rfl⟩ | ⟨o, z, e⟩
  ·simp only [e]
  ·simp only [e]
 | _ => exact hk.elim
theorem zkW : ∀ (s : List UInt8), Pw (Pw Den0) ((s.map zc0).map by8) (zcy s)
 | [] => .nil
 | b :: s => .cons (.cons (.int .u8 _) .nil) (zkW s)
theorem zde (h : Rel ρ L B M st) {sz : Nat} {t : TV} {v : V} (hd : Den ρ t v) {k : List (List TV) → Prop} (hk : ziE sz L B M t k) : ∃ xs, zcX sz st v = some xs ∧ ∃ ys, Pw (Pw Den0) ys xs ∧ k ys := by
 unfold ziE at hk
 cases t with
 | nils => rw [hd.nils_inv]; exact ⟨[], rfl, [], .nil, hk⟩
 | str s =>
  obtain ⟨e, hk⟩ := zbW hk
  obtain ⟨b, rfl, rfl⟩ := hd.str_inv
  exact ⟨_, by simp [zcX, e], _, zkW b, hk⟩
 | sl o z xs =>
  obtain ⟨e, hk⟩ := zbW hk
  rcases hd.sl_inv with ⟨ys, rfl, h⟩ | ⟨rfl, rfl⟩
  ·exact ⟨ys, by simp [zcX, e], xs, h, hk⟩
  ·exact ⟨[], rfl, [], .nil, hk⟩
 | place r =>
  obtain ⟨r', rfl, hr⟩ := hd.place_inv
  obtain ⟨t, hd2, hk2⟩ := hr.look h hk
  unfold znk at hk2
  unfold zcX
  cases t with
  | nils => exact ⟨[], by simp only [hd2.nils_inv], [], .nil, hk2⟩
  | sl o z xs =>
   obtain ⟨e, hk⟩ := zbW hk2
   rcases hd2.sl_inv with ⟨ys, e2, h⟩ | ⟨e2, rfl⟩
   ·exact ⟨ys, by simp only [e2, e, if_true], xs, h, hk⟩
   ·exact ⟨[], by simp only [e2], [], .nil, hk⟩
  | _ => exact hk2.elim
 | _ => exact hk.elim
theorem zkX (h : Rel ρ L B M st) {sz : Nat} {t : TV} {v : V} (hd : Den ρ t v) {k : List (List TV) → Prop} (hk : zpD sz L B M t k) : ∃ xs, lendS sz st v = some xs ∧ ∃ ys, Pw (Pw Den0) ys xs ∧ k ys := by
 cases t with
 | str s => exact hk.elim
 | undef => exact hk.elim
 | nils => obtain ⟨xs, e, r⟩ := zde (sz := sz) h hd hk; rw [hd.nils_inv] at e ⊢; exact ⟨xs, e, r⟩
 | sl o z xs =>
  obtain ⟨ys, e, r⟩ := zde (sz := sz) h hd hk
  rcases hd.sl_inv with ⟨zs, rfl, _⟩ | ⟨rfl, _⟩ <;> exact ⟨ys, e, r⟩
 | place r =>
  obtain ⟨ys, e, q⟩ := zde (sz := sz) h hd hk
  obtain ⟨r', rfl, _⟩ := hd.place_inv
  exact ⟨ys, e, q⟩
 | _ => exact hk.elim
theorem zlB {ρ : List Nat} {t : TV} {v : V} (hd : Den ρ t v) (hb : t.bare = true) : v.bare = true ∧ ∀ ρ', Den ρ' t v := by
 cases t with
 | int k n => cases hd with | base h => cases h; exact ⟨rfl, fun _ => .base (.int _ _)⟩
 | bool b => cases hd with | base h => cases h; exact ⟨rfl, fun _ => .base (.bool _)⟩
 | str s => cases hd with | base h => cases h; exact ⟨rfl, fun _ => .base (.str _)⟩
 | _ => cases hb
theorem zfB {cs : List TV} {cs' : List V} (h : Pw (Den ρ) cs cs') (off : Nat) {vs : List TV} {vs' : List V} (g : Pw (Den ρ) vs vs') : Pw (Den ρ) (setT cs off vs) (zaH cs' off vs') := by
 unfold setT zaH
 rw [g.length]
 exact ((h.take _).append g).append (h.drop _)
theorem zhd {cs : List TV} {cs' : List V} (h : Pw Den0 cs cs') (off : Nat) {vs : List TV} {vs' : List V} (g : Pw Den0 vs vs') : Pw Den0 (setT cs off vs) (zaH cs' off vs') := by
 unfold setT zaH
 rw [g.length]
 exact ((h.take _).append g).append (h.drop _)
theorem zeC {a b : Nat} (h : Nat.ble a b = true) : a ≤ b := Nat.le_of_ble_eq_true h
theorem zjO {mode : Use} {root root' : Root} (hr : RootR ρ root root') {agg : Bool} {n : Nat} {cs : List TV} {cs' : List V} (hc : Pw (Den ρ) cs cs') {off : Nat} {k : TV → Option (List TV) → Prop} (hk : ldW mode root agg n cs off k) :
  off + n ≤ cs'.length ∧ ∃ v t c, zdX mode root' agg ((cs'.drop off).take n) = some v ∧ Den ρ t v ∧ (mode.writes = true → ∃ d, c = some d ∧ Pw (Den ρ) d (zaH cs' off (zhD mode ((cs'.drop off).take n)))) ∧ (mode.writes = false → c = none) ∧ k t c := by
 unfold ldW at hk
 cases agg with
 | false =>
  obtain ⟨rfl, hk'⟩ := zbW hk
  clear hk
  have hk := hk'
  split at hk
  ·rename_i t ht
   obtain ⟨v, hv, hd⟩ := hc.get ht
   refine ⟨zax hv, ?_⟩
   rw [zm9 hv]
   cases mode with
   | copy =>
    obtain ⟨h1, h2⟩ := bifF hk
    exact ⟨v, t, none, by simp [zdX, agg?, hd.own0 h1], hd, (fun hh => by cases hh), fun _ => rfl, h2⟩
   | take =>
    refine ⟨v, t, _, by simp [zdX, agg?], hd, fun _ => ⟨_, rfl, ?_⟩, (fun hh => by cases hh), (by have hk' := zav.1 hk; exact hk')⟩
    show Pw (Den ρ) _ (zaH cs' off [v.left])
    rw [zoT hv]; exact hc.set hd.left _
   | share =>
    refine ⟨v.share0, t.share0, _, by simp [zdX, agg?], hd.share0, fun _ => ⟨_, rfl, ?_⟩, (fun hh => by cases hh), (by have hk' := zav.1 hk; exact hk')⟩
    show Pw (Den ρ) _ (zaH cs' off [v.share0])
    rw [zoT hv]; exact hc.set hd.share0 _
   | peek => exact ⟨.place root', .place root, none, by simp [zdX], .place hr, (fun hh => by cases hh), fun _ => rfl, hk⟩
  ·exact hk.elim
 | true =>
  obtain ⟨hl, hk⟩ := bifT hk
  have hl := zeC hl
  refine ⟨by rw [← hc.length]; exact hl, ?_⟩
  have hd : Pw (Den ρ) ((cs.drop off).take n) ((cs'.drop off).take n) := (hc.drop _).take _
  cases mode with
  | copy =>
   obtain ⟨h1, h2⟩ := bifF hk
   have h3 := Pw.any (p := TV.own0) (q := V.own0) (fun _ _ h ho => Den.own0 h ho) hd h1
   exact ⟨_, _, none, by simp only [zdX, h3, yas, if_false, agg?, if_true], .agg hd, (fun hh => by cases hh), fun _ => rfl, zav.1 h2⟩
  | take => exact ⟨_, _, _, rfl, .agg hd, fun _ => ⟨_, rfl, zfB hc off (Pw.maps (f := TV.left) (g := V.left) (fun _ _ h => h.left) hd)⟩, (fun hh => by cases hh), (by have hk' := zav.1 hk; have hk2 := zav.1 hk'; exact hk2)⟩
  | share => exact ⟨_, _, _, rfl, .agg (Pw.maps (f := TV.share0) (g := V.share0) (fun _ _ h => h.share0) hd), fun _ => ⟨_, rfl, zfB hc off (Pw.maps (f := TV.share0) (g := V.share0) (fun _ _ h => h.share0) hd)⟩, (fun hh => by cases hh), (by have hk' := zav.1 hk; have hk2 := zav.1 hk'; exact hk2)⟩
  | peek => exact hk.elim
theorem zhe (h : Rel ρ L B M st) {agg : Bool} {n : Nat} {mode : Use} {a : TV} {a' : V} (ha : Den ρ a a') {k : TV → Bs → Ms → Prop} (hk : loadW agg n mode L B M a k) :
  ∃ v st', za1 st agg n mode a' = some (v, st') ∧ ∃ t B' M', Den ρ t v ∧ Rel ρ L B' M' st' ∧ Fr ρ st.m ρ st'.m ∧ k t B' M' := by
 unfold loadW at hk
 cases a with
 | ptr i off =>
  obtain ⟨b, rfl, hi⟩ := ha.ptr_inv
  simp only at hk
  split at hk
  ·rename_i cs hcs
   obtain ⟨cs', h1, h2⟩ := h.m.get hi hcs
   obtain ⟨h3, v, t, c, e, hd, hw, hw2, hk⟩ := zjO (.mem off hi) h2 hk
   have e1 := zbE (d := []) h1
   simp only [za1, e1]
   rw [if_pos ⟨zax h1, h3⟩, e]
   refine ⟨v, _, rfl, t, ?_⟩
   cases hm : mode.writes with
   | true =>
    obtain ⟨d, rfl, hd2⟩ := hw hm
    exact ⟨B, M.set i d, hd, ⟨h.a, h.b, h.m.set hi hd2⟩, .set hi _, (by have hk' := zav.1 hk; exact hk')⟩
   | false =>
    rw [hw2 hm] at hk
    exact ⟨B, M, hd, h, .refl _ _, hk⟩
  ·exact hk.elim
 | loc j off =>
  rw [ha.loc_inv]
  have key : ∀ cs, fnd B j = some cs → mode ≠ .share → ldW mode (.loc j off) agg n cs off (fun v c => match c with | none => k v B M | some c => k v ((j, c) :: B) M) →
    ∃ v st', za1 st agg n mode (.loc j off) = some (v, st') ∧ ∃ t B' M', Den ρ t v ∧ Rel ρ L B' M' st' ∧ Fr ρ st.m ρ st'.m ∧ k t B' M' := fun cs hj hm hk => by
   obtain ⟨h3, v, t, c, e, hd, hw, hw2, hk⟩ := zjO (.loc j off) (h.b j cs hj) hk
   simp only [za1]
   rw [if_pos ⟨h3, hm⟩, e]
   refine ⟨v, _, rfl, t, ?_⟩
   cases hm : mode.writes with
   | true =>
    obtain ⟨d, rfl, hd2⟩ := hw hm
    exact ⟨(j, d) :: B, M, hd, ⟨h.a, h.b.upd j hd2, h.m⟩, .refl _ _, hk⟩
   | false =>
    rw [hw2 hm] at hk
    exact ⟨B, M, hd, h, .refl _ _, hk⟩
  cases hj : fnd B j with
  | none => simp only [hj] at hk; cases mode <;> exact hk.elim
  | some cs =>
   simp only [hj] at hk
   cases mode with
   | share => exact hk.elim
   | _ => exact key cs hj (by simp) hk
 | ro cs off =>
  obtain ⟨cs', rfl, hc⟩ := ha.ro_inv
  cases mode with
  | copy =>
   cases agg with
   | false =>
    obtain ⟨rfl, hk'⟩ := zbW hk
    clear hk
    have hk := hk'
    split at hk
    ·rename_i t ht
     obtain ⟨v, hv, hd⟩ := hc.get ht
     exact ⟨v, st, by simp only [za1]; rw [if_pos ⟨trivial, Nat.succ_le_of_lt (zax hv)⟩, zm9 hv]; rfl, t, B, M, hd, h, .refl _ _, hk⟩
    ·exact hk.elim
   | true =>
    obtain ⟨hl, hk⟩ := bifT hk
    have hl := zeC hl
    rw [hc.length] at hl
    exact ⟨_, st, by simp only [za1]; rw [if_pos ⟨trivial, hl⟩]; rfl, _, B, M, .agg ((hc.drop _).take _), h, .refl _ _, (by have hk' := zav.1 hk; exact hk')⟩
  | _ => exact hk.elim
 | el r z i o =>
  obtain ⟨r', rfl, hr⟩ := ha.el_inv
  cases mode with
  | copy =>
   obtain ⟨t, hd, hk⟩ := hr.look h hk
   simp only [za1]
   cases t with
   | sl own sz xs =>
    cases own with
    | false => exact hk.elim
    | true =>
     obtain ⟨rfl, cs, hcs, hk⟩ := zbW hk
     rcases hd.sl_inv with ⟨ys, e2, hxy⟩ | ⟨e2, rfl⟩
     ·obtain ⟨cs', hcs', hc⟩ := hxy.get hcs
      have e := zbE (d := []) hcs'
      simp only [e2, e]
      cases agg with
      | false =>
       obtain ⟨rfl, hk'⟩ := zbW hk
       clear hk
       have hk := hk'
       split at hk
       ·rename_i t ht
        obtain ⟨v, hv, hd⟩ := hc.get ht
        exact ⟨v, st, by simp only [if_true]; rw [if_pos ⟨trivial, zax hcs', Nat.succ_le_of_lt (zax hv)⟩, zm9 hv]; rfl, t, B, M, .base hd, h, .refl _ _, hk⟩
       ·exact hk.elim
      | true =>
       obtain ⟨hl, hk⟩ := bifT hk
       have hl := zeC hl
       rw [hc.length] at hl
       exact ⟨_, st, by simp only [if_true]; rw [if_pos ⟨trivial, zax hcs', hl⟩]; rfl, _, B, M, .agg (((hc.drop _).take _).base), h, .refl _ _, (by have hk' := zav.1 hk; exact hk')⟩
     ·simp at hcs
   | _ => exact hk.elim
  | _ => exact hk.elim
 | _ => exact hk.elim
theorem zcv {σ : Nat → V} (h : Ag ρ L σ) {f : TV → TV} {g : V → V} (hf : ∀ t v, Den ρ t v → Den ρ (f t) (g v)) {k : Ts → Prop} (hk : mapK f L k) : ∃ L', Ag ρ L' (fun i => g (σ i)) ∧ k L' := ⟨_, h.map hf, zlA.1 hk⟩
theorem zjP (h : Rel ρ L B M st) {n : Nat} {cells : List TV} {cells' : List V} (hcl : Pw (Den ρ) cells cells') {a : TV} {a' : V} (ha : Den ρ a a') {k : Ts → Bs → Ms → Prop} (hk : znl n cells L B M a k) :
  ∃ st', zbA st n cells' a' = some st' ∧ ∃ L' B' M', Rel ρ L' B' M' st' ∧ Fr ρ st.m ρ st'.m ∧ k L' B' M' := by
 unfold znl at hk
 have ok : cells.all TV.ok0 = true → cells'.all V.ok0 = true := fun hh => Pw.all (p := TV.ok0) (q := V.ok0) (fun _ _ h ho => Den.ok0 h ho) hcl hh
 cases a with
 | ptr i off =>
  obtain ⟨b, rfl, hi⟩ := ha.ptr_inv
  simp only at hk
  split at hk
  ·rename_i old hold
   obtain ⟨hb, hk⟩ := bifT hk
   simp only [yae] at hb
   obtain ⟨⟨⟨h1, h2⟩, h3⟩, h4⟩ := hb
   have h1 := zeC h1
   have h2 := yap h2
   obtain ⟨old', ho1, ho2⟩ := h.m.get hi hold
   have e1 := zbE (d := []) ho1
   obtain ⟨L', hL', hk⟩ := zcv h.a (fun _ _ h => Den.killAtV off n h) hk
   simp only [zbA, e1]
   rw [if_pos ⟨zax ho1, by rw [← ho2.length]; exact h1, by rw [← hcl.length]; exact h2, ok h3, by rw [zgA hcl h4]; omega⟩]
   exact ⟨_, rfl, L', B, _, ⟨hL', h.b, h.m.set hi (zfB ho2 off hcl)⟩, .set hi _, (by have hk' := zav.1 hk; have hk2 := zav.1 hk'; exact hk2)⟩
  ·exact hk.elim
 | loc j off =>
  rw [ha.loc_inv]
  simp only at hk
  split at hk
  ·rename_i old hold
   obtain ⟨hb, hk⟩ := bifT hk
   simp only [yae] at hb
   obtain ⟨⟨h1, h2⟩, h3⟩ := hb
   have h1 := zeC h1
   have h2 := yap h2
   have ho2 := h.b j old hold
   obtain ⟨L', hL', hk⟩ := zcv h.a (fun _ _ h => Den.killLocV h) hk
   simp only [zbA]
   rw [if_pos ⟨by rw [← ho2.length]; exact h1, by rw [← hcl.length]; exact h2, ok h3⟩]
   exact ⟨_, rfl, L', _, M, ⟨hL', h.b.upd j (zfB ho2 off hcl), h.m⟩, .refl _ _, (by have hk' := zav.1 hk; exact hk')⟩
  ·exact hk.elim
 | el r z i o =>
  obtain ⟨r', rfl, hr⟩ := ha.el_inv
  obtain ⟨hg, hk⟩ := bifT hk
  simp only [yae] at hg
  obtain ⟨hn, hg⟩ := hg
  have hn := yap hn
  obtain ⟨hc0, hg'⟩ := zoz hcl hg
  have hn' : cells'.length = n := by rw [← hcl.length]; exact hn
  simp only [zbA]
  rw [if_pos ⟨hn', hg'⟩]
  cases hr with
  | @mem q b off hi =>
   simp only at hk
   split at hk
   ·rename_i old hold
    split at hk
    ·rename_i sz xs hxs
     obtain ⟨rfl, cs, hcs, hk⟩ := zbW hk
     obtain ⟨hl, _, rfl, hk⟩ := bifT hk
     have hl := zeC hl
     obtain ⟨old', ho1, ho2⟩ := h.m.get hi hold
     obtain ⟨v', hv1, hv2⟩ := ho2.get hxs
     have e1 := zbE (d := []) ho1
     have e2 := zbE (d := V.undef) hv1
     rcases hv2.sl_inv with ⟨ys, rfl, hxy⟩ | ⟨_, rfl⟩
     ·obtain ⟨cs', hcs', hc⟩ := hxy.get hcs
      have e3 := zbE (d := []) hcs'
      simp only [look, e1, e2, e3]
      rw [if_pos ⟨trivial, zax hcs', by rw [← hc.length]; exact hl⟩]
      exact ⟨_, rfl, L, B, _, ⟨h.a, h.b, h.m.set hi (ho2.set (.base (.sl true _ (hxy.set (zhd hc o hc0) i))) off)⟩, .set hi _, (by have hk' := zav.1 hk; have hk2 := zav.1 hk'; exact hk2)⟩
     ·simp at hcs
    ·exact hk.elim
   ·exact hk.elim
  | loc j q =>
   simp only at hk
   split at hk
   ·rename_i old hold
    split at hk
    ·rename_i sz xs hxs
     obtain ⟨rfl, cs, hcs, hk⟩ := zbW hk
     obtain ⟨hl, _, rfl, hk⟩ := bifT hk
     have hl := zeC hl
     have ho2 := h.b j old hold
     obtain ⟨v', hv1, hv2⟩ := ho2.get hxs
     have e2 := zbE (d := V.undef) hv1
     rcases hv2.sl_inv with ⟨ys, rfl, hxy⟩ | ⟨_, rfl⟩
     ·obtain ⟨cs', hcs', hc⟩ := hxy.get hcs
      have e3 := zbE (d := []) hcs'
      simp only [look, e2, e3]
      rw [if_pos ⟨trivial, zax hcs', by rw [← hc.length]; exact hl⟩]
      exact ⟨_, rfl, L, _, M, ⟨h.a, h.b.upd j (ho2.set (.base (.sl true _ (hxy.set (zhd hc o hc0) i))) q), h.m⟩, .refl _ _, (by have hk' := zav.1 hk; exact hk')⟩
     ·simp at hcs
    ·exact hk.elim
   ·exact hk.elim
  | tmp s =>
   simp only at hk
   split at hk
   ·rename_i sz xs hxs
    obtain ⟨rfl, cs, hcs, hk⟩ := zbW hk
    obtain ⟨hl, _, rfl, hk⟩ := bifT hk
    have hl := zeC hl
    have hv2 := h.a s _ hxs
    rcases hv2.sl_inv with ⟨ys, e2, hxy⟩ | ⟨_, rfl⟩
    ·obtain ⟨cs', hcs', hc⟩ := hxy.get hcs
     have e3 := zbE (d := []) hcs'
     simp only [look, e2, e3]
     rw [if_pos ⟨trivial, zax hcs', by rw [← hc.length]; exact hl⟩]
     exact ⟨_, rfl, _, B, M, ⟨h.a.upd s (.base (.sl true _ (hxy.set (zhd hc o hc0) i))), h.b, h.m⟩, .refl _ _, hk⟩
    ·simp at hcs
   ·exact hk.elim
 | _ => exact hk.elim
theorem zhf : ∀ {ps : List (Nat × Nat × Opd)} {L : Ts} {st : St} (_ : Ag ρ L st.σ) {cells : List TV} {cells' : List V} (_ : Pw (Den ρ) cells cells') {k : List TV → Ts → Prop} (_ : zov L cells ps k), ∃ cs' σ', zbd st cells' ps = some (cs', { st with σ := σ' }) ∧ ∃ cs L', Pw (Den ρ) cs cs' ∧ Ag ρ L' σ' ∧ k cs L'
 | [], L, st, h, cells, cells', hc, k, hk => ⟨cells', st.σ, rfl, cells, L, hc, h, hk⟩
 | (off, n, x) :: r, L, st, h, cells, cells', hc, k, hk => by
  unfold zov at hk
  obtain ⟨v, σ1, e1, t, L1, hd, h1, hk⟩ := zb9 h hk
  obtain ⟨hb, hk⟩ := bifT hk
  simp only [yae] at hb
  obtain ⟨⟨b1, b2⟩, b3⟩ := hb
  have hcd := hd.cells b3
  obtain ⟨cs, σ2, e2, cs2, L2, hd2, h2, hk2⟩ := zhf (st := { st with σ := σ1 }) h1 (zfB hc off hcd) (by have hk' := zav.1 hk; exact hk')
  refine ⟨cs, σ2, ?_, cs2, L2, hd2, h2, hk2⟩
  simp only [zbd, e1, Option.bind_some]
  rw [if_pos ⟨by rw [← hcd.length]; exact yap b1, by rw [← hc.length]; exact zeC b2, hd.ok1 b3⟩]; exact e2
theorem zgm {sz : Nat} : ∀ {ps : List (Nat × Opd)} {L : Ts} {st : St} (_ : Ag ρ L st.σ) {xs : List (List TV)} {xs' : List (List V)} (_ : Pw (Pw Den0) xs xs') {k : List (List TV) → Ts → Prop} (_ : zlw L sz xs ps k), ∃ ys' σ', zbe st sz xs' ps = some (ys', { st with σ := σ' }) ∧ ∃ ys L', Pw (Pw Den0) ys ys' ∧ Ag ρ L' σ' ∧ k ys L'
 | [], L, st, h, xs, xs', hx, k, hk => ⟨xs', st.σ, rfl, xs, L, hx, h, hk⟩
 | (i, x) :: r, L, st, h, xs, xs', hx, k, hk => by
  unfold zlw at hk
  obtain ⟨v, σ1, e1, t, L1, hd, h1, hk⟩ := zb9 h hk
  obtain ⟨hb, hk⟩ := bifT hk
  simp only [yae] at hb
  obtain ⟨⟨⟨b1, b2⟩, b3⟩, b4⟩ := hb
  have hcd := hd.cells b3
  obtain ⟨hc0, hg⟩ := zoz hcd b4
  obtain ⟨cs, σ2, e2, cs2, L2, hd2, h2, hk2⟩ := zgm (st := { st with σ := σ1 }) h1 (hx.set hc0 i) (by have hk' := zav.1 hk; exact hk')
  refine ⟨cs, σ2, ?_, cs2, L2, hd2, h2, hk2⟩
  simp only [zbe, e1, Option.bind_some]
  have b2' : i < xs.length := zeC b2
  rw [if_pos ⟨by rw [← hcd.length]; exact yap b1, by rw [← hx.length]; exact b2', hg⟩]; exact e2
theorem zdk (h : Ag ρ L st.σ) {d : Nat} {o : Option Opd} {k : Nat → Prop} (hk : bndW L d o k) : ∃ n, zaV st d o = some n ∧ k n := by
 unfold bndW at hk
 cases o with
 | none => exact ⟨d, rfl, hk⟩
 | some x =>
  obtain ⟨v, t, e, hd, hk⟩ := zar h hk
  cases t with
  | int kd i => rw [hd.int_inv] at e; exact ⟨_, by simp [zaV, e, hk.1], hk.2⟩
  | _ => exact hk.elim
end
end Go.Proofs.YtakdnfneikbjjaaGreatDoor.Am.T

namespace Go.Proofs.YtakdnfneikbjjaaGreatDoor.Am.T
open Go.Proofs.YtakdnfneikbjjaaGreatDoor.Am
section
variable {ρ : List Nat} {L : Ts} {B : Bs} {M : Ms} {st : St}
theorem ziG {α : Type} {l : List α} {i : Nat} {v : α} (h : l[i]? = some v) : l.set i v = l := by
 obtain ⟨hi, rfl⟩ := List.getElem?_eq_some_iff.1 h
 exact List.set_getElem_self hi
theorem zcC {b : Bool} {k : TV → Prop} (h : tell b k) : k (.bool b) := h b rfl
theorem znu {a b : UInt8} (h : zc0 a = zc0 b) : a = b := by
 unfold zc0 at h
 exact UInt8.toNat_inj.1 (by omega)
theorem zfC : ∀ {s t : List UInt8}, s.map zc0 = t.map zc0 → s = t
 | [], [], _ => rfl
 | [], _ :: _, h => by cases h
 | _ :: _, [], h => by cases h
 | a :: s, b :: t, h => by
  simp only [List.map_cons, List.cons.injEq] at h
  rw [znu h.1, zfC h.2]
theorem znv {a k : Int} : (a == k) = decide (a = k) := by rw [Bool.eq_iff_iff]; simp
theorem zkY {s t : List UInt8} : (s == t) = decide (s.map zc0 = t.map zc0) := by
 rw [Bool.eq_iff_iff]
 simp only [beq_iff_eq, yat]
 exact ⟨fun h => by rw [h], zfC⟩
theorem zmj {op : BinOp} {x y : TV} {x' y' : V} (hx : Den ρ x x') (hy : Den ρ y y') {k : TV → Prop} (hk : binW op x y k) : ∃ v t, zdY op x' y' = some v ∧ Den ρ t v ∧ k t := by
 unfold binW at hk
 split at hk
 ·rename_i a n b p
  rw [hx.int_inv, hy.int_inv]
  have I : ∀ (k : IntKind) (n : Int), Den ρ (.int k n) (.int k n) := fun k n => .base (.int k n)
  have Bo : ∀ b : Bool, Den ρ (.bool b) (.bool b) := fun b => .base (.bool b)
  cases op with
  | shl => exact ⟨_, _, by simp only [zdY, zfk]; rw [if_neg (by omega)], I _ _, hk.2⟩
  | shr => exact ⟨_, _, by simp only [zdY, zfk]; rw [if_neg (by omega)], I _ _, hk.2⟩
  | quo => obtain ⟨e, h0, hk⟩ := zdr hk; exact ⟨_, _, by simp only [zdY, zdx, of_decide_eq_true e, if_true, if_neg h0], I _ _, hk⟩
  | rem => obtain ⟨e, h0, hk⟩ := zdr hk; exact ⟨_, _, by simp only [zdY, zdx, of_decide_eq_true e, if_true, if_neg h0], I _ _, hk⟩
  | eql => obtain ⟨e, hk⟩ := zdr hk; exact ⟨_, _, by simp only [zdY, zdx, of_decide_eq_true e, if_true, znv], Bo _, zcC hk⟩
  | neq =>
   obtain ⟨e, hk⟩ := zdr hk
   refine ⟨_, _, by simp only [zdY, zdx, of_decide_eq_true e, if_true]; rfl, Bo _, ?_⟩
   have h1 := zcC hk
   have e2 : decide (n ≠ p) = (n != p) := by simp [bne, decide_not]; rfl
   rwa [e2] at h1
  | lss => obtain ⟨e, hk⟩ := zdr hk; exact ⟨_, _, by simp only [zdY, zdx, of_decide_eq_true e, if_true], Bo _, zcC hk⟩
  | leq => obtain ⟨e, hk⟩ := zdr hk; exact ⟨_, _, by simp only [zdY, zdx, of_decide_eq_true e, if_true], Bo _, zcC hk⟩
  | gtr => obtain ⟨e, hk⟩ := zdr hk; exact ⟨_, _, by simp only [zdY, zdx, of_decide_eq_true e, if_true], Bo _, zcC hk⟩
  | geq => obtain ⟨e, hk⟩ := zdr hk; exact ⟨_, _, by simp only [zdY, zdx, of_decide_eq_true e, if_true], Bo _, zcC hk⟩
  | _ => obtain ⟨e, hk⟩ := zdr hk; exact ⟨_, _, by simp only [zdY, zdx, of_decide_eq_true e, if_true], I _ _, hk⟩
 ·rename_i s t
  obtain ⟨s', rfl, rfl⟩ := hx.str_inv
  obtain ⟨t', rfl, rfl⟩ := hy.str_inv
  cases op with
  | add =>
   simp only [yal] at hk
   obtain ⟨hk1, _, rfl, hk2⟩ := hk
   exact ⟨_, _, by simp only [zdY, zk7]; rw [if_pos hk1], by rw [← List.map_append]; exact .base (.str _), hk2⟩
  | eql => exact ⟨_, _, rfl, by rw [zkY]; exact .base (.bool _), zcC hk⟩
  | neq =>
   refine ⟨_, _, rfl, .base (.bool _), ?_⟩
   have h1 := zcC hk
   rwa [show decide (s'.map zc0 ≠ t'.map zc0) = !(s' == t') from by rw [zkY]; simp] at h1
  | _ => exact hk.elim
 ·exact hk.elim
theorem zkZ {k : LK} {x y : TV} {x' y' : V} (hx : Den ρ x x') (hy : Den ρ y y') {b : Bool} (h : zow k x y = some b) : zf8 k x' y' = some b := by
 unfold zow at h
 split at h
 ·rename_i a c k' d
  rw [hx.int_inv, hy.int_inv]
  cases hk : decide (a = k') with
  | true =>
   rw [hk] at h
   simp only [cond_true, yaa] at h
   simp only [zf8, of_decide_eq_true hk, if_true, znv, h]
  | false => rw [hk] at h; cases h
 ·rw [hx.bool_inv, hy.bool_inv]; exact h
 ·obtain ⟨s', rfl, rfl⟩ := hx.str_inv
  obtain ⟨t', rfl, rfl⟩ := hy.str_inv
  simp only [yaa] at h
  simp only [zf8, zkY, h]
 ·cases h
theorem zfD : ∀ {ks : List LK} {xs ys : List TV} {xs' ys' : List V} (_ : Pw (Den ρ) xs xs') (_ : Pw (Den ρ) ys ys') {b : Bool} (_ : zhc ks xs ys = some b), zbp ks xs' ys' = some b
 | [], [], [], xs', ys', hx, hy, b, h => by
  cases hx; cases hy; exact h
 | k :: ks, x :: xs, y :: ys, xs', ys', hx, hy, b, h => by
  cases hx with
  | cons h1 t1 =>
   cases hy with
   | cons h2 t2 =>
    simp only [zhc] at h
    cases h3 : zow k x y with
    | none => simp only [h3] at h; cases h
    | some c =>
     simp only [h3] at h
     cases h4 : zhc ks xs ys with
     | none => simp only [h4] at h; cases h
     | some d =>
      simp only [h4] at h
      have e1 := zkZ h1 h2 h3
      have e2 := zfD t1 t2 h4
      rw [zbp, e1, Option.bind_some, e2, Option.bind_some]; exact h
 | [], _ :: _, _, xs', ys', hx, hy, b, h => by cases h
 | [], [], _ :: _, xs', ys', hx, hy, b, h => by cases h
 | _ :: _, [], _, xs', ys', hx, hy, b, h => by cases h
 | _ :: _, _ :: _, [], xs', ys', hx, hy, b, h => by cases h
theorem znw {kind : EqK} {x y : TV} {x' y' : V} (hx : Den ρ x x') (hy : Den ρ y y') {b : Bool} (h : eqT kind x y = some b) : eqV kind x' y' = some b := by
 unfold eqT at h
 split at h
 ·rw [hx.nilp_inv, hy.nilp_inv]; exact h
 ·obtain ⟨b, rfl, _⟩ := hy.ptr_inv; rw [hx.nilp_inv]; exact h
 ·obtain ⟨b, rfl, _⟩ := hx.ptr_inv; rw [hy.nilp_inv]; exact h
 ·rw [hx.nilp_inv, hy.loc_inv]; exact h
 ·rw [hx.loc_inv, hy.nilp_inv]; exact h
 ·rw [hx.nils_inv, hy.nils_inv]; exact h
 ·rw [hx.nilf_inv, hy.nilf_inv]; exact h
 ·obtain ⟨b, rfl, _⟩ := hy.func_inv; rw [hx.nilf_inv]; exact h
 ·obtain ⟨b, rfl, _⟩ := hx.func_inv; rw [hy.nilf_inv]; exact h
 ·cases h
theorem zfE {c : Bool} {x y : Bool} : (bif c then x else y) = if c then x else y := by cases c <;> rfl
theorem znx {neg : Bool} {kind : EqK} {x y : TV} {x' y' : V} (hx : Den ρ x x') (hy : Den ρ y y') {k : TV → Prop} (hk : eqW neg kind x y k) : ∃ b, eqV kind x' y' = some b ∧ k (.bool (if neg then !b else b)) := by
 unfold eqW at hk
 split at hk
 ·split at hk
  ·rw [hx.bool_inv, hy.bool_inv]
   have := zcC hk
   rw [zfE] at this
   exact ⟨_, rfl, this⟩
  ·exact hk.elim
 ·split at hk
  ·obtain ⟨xs', rfl, h1⟩ := hx.agg_inv
   obtain ⟨ys', rfl, h2⟩ := hy.agg_inv
   split at hk
   ·rename_i b hb
    have := zcC hk
    rw [zfE] at this
    exact ⟨b, zfD h1 h2 hb, this⟩
   ·exact hk.elim
  ·exact hk.elim
 ·split at hk
  ·rw [hy.nils_inv]
   rcases hx.sl_inv with ⟨ys, rfl, _⟩ | ⟨rfl, rfl⟩
   ·have := hk false (fun h => by cases h)
    rw [zfE] at this
    exact ⟨false, rfl, this⟩
   ·have := hk true (fun _ => rfl)
    rw [zfE] at this
    exact ⟨true, rfl, this⟩
  ·rw [hx.nils_inv]
   rcases hy.sl_inv with ⟨ys, rfl, _⟩ | ⟨rfl, rfl⟩
   ·have := hk false (fun h => by cases h)
    rw [zfE] at this
    exact ⟨false, rfl, this⟩
   ·have := hk true (fun _ => rfl)
    rw [zfE] at this
    exact ⟨true, rfl, this⟩
  ·rw [hx.nils_inv, hy.nils_inv]
   rw [zfE] at hk
   exact ⟨true, rfl, hk⟩
  ·exact hk.elim
 ·split at hk
  ·rename_i a
   have hy' : y' = .nili := by cases hy with | base h => cases h; rfl
   subst hy'
   have := zcC hk
   rw [zfE] at this
   cases hx with
   | base h =>
    cases h with
    | erri => exact ⟨false, rfl, by cases neg <;> exact this⟩
    | errn => exact ⟨true, rfl, by cases neg <;> exact this⟩
  ·exact hk.elim
 ·split at hk
  ·rename_i b hb
   rw [zfE] at hk
   exact ⟨b, znw hx hy hb, hk⟩
  ·exact hk.elim
theorem zny {op : UnOp} {x : TV} {x' : V} (hx : Den ρ x x') {k : TV → Prop} (hk : unW op x k) : ∃ v t, doUn op x' = some v ∧ Den ρ t v ∧ k t := by
 unfold unW at hk
 split at hk
 ·rw [hx.int_inv]; exact ⟨_, _, rfl, .base (.int _ _), hk⟩
 ·rw [hx.bool_inv]; exact ⟨_, _, rfl, .base (.bool _), hk⟩
 ·rw [hx.int_inv]; exact ⟨_, _, rfl, .base (.int _ _), hk⟩
 ·exact hk.elim
theorem ziH {mx : Bool} {t : TV} {ts : List TV} {v : V} {vs : List V} (h1 : Den ρ t v) (h2 : Pw (Den ρ) ts vs) {k : TV → Prop} (hk : ziA mx t ts k) : ∃ r w, zc3 mx v vs = some r ∧ Den ρ w r ∧ k w := by
 unfold ziA at hk
 split at hk
 ·rename_i kd a kd' b
  rw [h1.int_inv]
  cases h2 with
  | cons h3 h4 =>
   cases h4
   rw [h3.int_inv]
   obtain ⟨_, hk⟩ := bifT hk
   cases mx with
   | false => exact ⟨_, _, by simp only [zc3, zfI, Option.bind_some, yas, if_false], .base (.int kd (if b < a then b else a)), by rw [show (if b < a then b else a) = min a b from by rw [Int.min_def]; split <;> split <;> omega]; exact hk⟩
   | true => exact ⟨_, _, by simp only [zc3, zfI, Option.bind_some, if_true], .base (.int kd (if a < b then b else a)), by rw [show (if a < b then b else a) = max a b from by rw [Int.max_def]; split <;> split <;> omega]; exact hk⟩
 ·exact hk.elim
theorem zhg : ∀ {s : List Int} {xs : List (List V)}, Pw (Pw Den0) (s.map by8) xs → (∀ b ∈ s, 0 ≤ b ∧ b < 256) → ∃ b : List UInt8, bytesOf xs = some b ∧ s = b.map zc0
 | [], xs, h, _ => by cases h; exact ⟨[], rfl, rfl⟩
 | n :: s, xs, h, hr => by
  cases h with
  | cons h1 h2 =>
   cases h1 with
   | cons h3 h4 =>
    cases h4
    cases h3 with
    | int k n =>
     obtain ⟨b, e1, e2⟩ := zhg h2 fun b hb => hr b (.tail _ hb)
     have hn := hr n (.head _)
     refine ⟨UInt8.ofNat n.toNat :: b, by simp only [bytesOf]; rw [if_pos hn, e1]; rfl, ?_⟩
     rw [List.map_cons, ← e2]
     congr 1
     unfold zc0
     rw [UInt8.toNat_ofNat']
     omega
theorem zmk {ρ : List Nat} {t : TV} {v : V} (h : Den ρ t v) (hf : t.flatA0 = true) : Den0 t v ∧ v.flat0 = true := by
 cases h with
 | base h0 =>
  refine ⟨h0, ?_⟩
  cases h0 with
  | undef v => cases hf
  | _ => rfl
 | func f h =>
  cases h with
  | nil => exact ⟨.func f, rfl⟩
  | cons _ _ => cases hf
 | _ => cases hf
theorem zk0 {ρ : List Nat} {cs : List TV} {cs' : List V} (h : Pw (Den ρ) cs cs') (hf : cs.all TV.flatA0 = true) : Pw Den0 cs cs' ∧ cs'.all V.flat0 = true := by
 induction h with
 | nil => exact ⟨.nil, rfl⟩
 | cons hr _ ih =>
  simp only [List.all_cons, yae] at hf
  obtain ⟨a, b⟩ := zmk hr hf.1
  obtain ⟨c, d⟩ := ih hf.2
  exact ⟨.cons a c, by simp only [List.all_cons, b, d, Bool.and_self]⟩
theorem zfF {ρ : List Nat} {t : TV} {v : V} (h : Den ρ t v) (hf : t.flatA = true) : (∀ ρ', Den ρ' t v) ∧ v.flat1 = true := by
 cases h with
 | agg h =>
  have := zk0 h hf
  exact ⟨fun ρ' => .agg this.1.base, this.2⟩
 | base h0 =>
  refine ⟨fun ρ' => .base h0, ?_⟩
  cases h0 with
  | undef v => cases hf
  | _ => rfl
 | func f h =>
  cases h with
  | nil => exact ⟨fun ρ' => .base (.func f), rfl⟩
  | cons _ _ => cases hf
 | _ => cases hf
theorem zfZ {ρ : List Nat} {ts : List TV} {vs : List V} (h : Pw (Den ρ) ts vs) (hf : ts.all TV.flatA = true) : (∀ ρ', Pw (Den ρ') ts vs) ∧ vs.all V.flat1 = true := by
 induction h with
 | nil => exact ⟨fun _ => .nil, rfl⟩
 | cons hr _ ih =>
  simp only [List.all_cons, yae] at hf
  obtain ⟨a, b⟩ := zfF hr hf.1
  obtain ⟨c, d⟩ := ih hf.2
  exact ⟨fun ρ' => .cons (a ρ') (c ρ'), by simp only [List.all_cons, b, d, Bool.and_self]⟩
theorem zjQ {ρ : List Nat} {ts : List TV} {vs : List V} (h : Pw (Den ρ) ts vs) (hf : ts.all TV.flatA = true) : Pw (Den []) ts vs ∧ vs.all V.flat1 = true :=
 ⟨(zfZ h hf).1 [], (zfZ h hf).2⟩
theorem zjR {ρ : List Nat} {L : Ts} {B : Bs} {M : Ms} {st : St} (h : Rel ρ L B M st) {t : TV} {v : V} (hd : Den ρ t v) {k : TV → Prop} (hk : znm L B M t k) : ∃ u t', lentV st v = some u ∧ Den [] t' u ∧ k t' := by
 have plain : (∀ r, v ≠ .place r) → t.flatA = true → t.hasOwn = false → k t → ∃ u t', lentV st v = some u ∧ Den [] t' u ∧ k t' := fun hn ha ho hk => by
  have h1 := zfF hd ha
  refine ⟨v, t, ?_, h1.1 [], hk⟩
  cases v with
  | place r => exact absurd rfl (hn r)
  | _ => simp only [lentV]; rw [if_pos (by rw [h1.2, hd.hasOwn ho]; rfl)]
 cases t with
 | place r =>
  obtain ⟨r', rfl, hr⟩ := hd.place_inv
  obtain ⟨t2, hd2, hk2⟩ := hr.look h hk
  cases t2 with
  | nils => exact ⟨.nils, .nils, by simp only [lentV, hd2.nils_inv], .base .nils, hk2⟩
  | sl o z xs =>
   rcases hd2.sl_inv with ⟨ys, e, h3⟩ | ⟨e, rfl⟩
   ·exact ⟨.slice false z ys, .sl false z xs, by simp only [lentV, e], .base (.sl _ _ h3), hk2⟩
   ·exact ⟨.nils, .sl false z [], by simp only [lentV, e], .base (.sln _ _), hk2⟩
  | _ => exact hk2.elim
 | _ =>
  dsimp only [znm] at hk
  obtain ⟨hc, hk⟩ := bifT hk
  simp only [yae, Bool.not_eq_true'] at hc
  exact plain (fun r e => by subst e; cases hd with | base h0 => cases h0 <;> cases hc.1) hc.1 hc.2 hk
theorem zhh {ρ : List Nat} {L : Ts} {B : Bs} {M : Ms} {st : St} (h : Rel ρ L B M st) : ∀ {ts : List TV} {vs : List V} (_ : Pw (Den ρ) ts vs) {k : List TV → Prop} (_ : zox L B M ts k), ∃ us ts', zef st vs = some us ∧ Pw (Den []) ts' us ∧ k ts'
 | [], _, .nil, k, hk => ⟨[], [], rfl, .nil, hk⟩
 | t :: ts, _, .cons hd hds, k, hk => by
  unfold zox at hk
  obtain ⟨u, t', e1, h1, hk⟩ := zjR h hd hk
  obtain ⟨us, ts', e2, h2, hk⟩ := zhh h hds hk
  exact ⟨u :: us, t' :: ts', by simp [zef, e1, e2], .cons h1 h2, hk⟩
theorem znz {ρ : List Nat} {t : TV} {v : V} (h : Den ρ t v) (hf : t.flatR = true) : (∀ ρ', Den ρ' t v) ∧ v.flat2 = true := by
 cases h with
 | tuple h =>
  have := zfZ h hf
  exact ⟨fun ρ' => .tuple (this.1 ρ'), this.2⟩
 | base h0 =>
  refine ⟨fun ρ' => .base h0, ?_⟩
  cases h0 with
  | undef v => cases hf
  | _ => rfl
 | agg h => exact zfF (.agg h) hf
 | func f h => exact zfF (.func f h) hf
 | _ => cases hf
theorem zhi {q : Bool} {cf : CF} (h : Rel ρ L B M st) {op : AOp} {k : TV → Ts → Bs → Ms → Prop} (hk : zbq q cf op L B M k) :
  ∃ v st', evalOp cf st op = some (v, st') ∧ (op.isCall = true → st'.l = st.l ∧ (q = true → st'.m = st.m)) ∧ ∃ ρ' t L' B' M', Den ρ' t v ∧ Rel ρ' L' B' M' st' ∧ Fr ρ st.m ρ' st'.m ∧ k t L' B' M' := by
 have fin : ∀ {v : V} {t : TV}, evalOp cf st op = some (v, st) → op.isCall = false → Den ρ t v → k t L B M →
   ∃ v st', evalOp cf st op = some (v, st') ∧ (op.isCall = true → st'.l = st.l ∧ (q = true → st'.m = st.m)) ∧ ∃ ρ' t L' B' M', Den ρ' t v ∧ Rel ρ' L' B' M' st' ∧ Fr ρ st.m ρ' st'.m ∧ k t L' B' M' :=
  fun {v t} he hc hd hk => ⟨v, st, he, (fun hh => by rw [hc] at hh; cases hh), ρ, t, L, B, M, hd, h, .refl _ _, hk⟩
 have fin2 : ∀ {v : V} {σ' : Nat → V} {t : TV} {L' : Ts}, evalOp cf st op = some (v, { st with σ := σ' }) → op.isCall = false → Den ρ t v → Ag ρ L' σ' → k t L' B M →
   ∃ v st', evalOp cf st op = some (v, st') ∧ (op.isCall = true → st'.l = st.l ∧ (q = true → st'.m = st.m)) ∧ ∃ ρ' t L' B' M', Den ρ' t v ∧ Rel ρ' L' B' M' st' ∧ Fr ρ st.m ρ' st'.m ∧ k t L' B' M' :=
  fun {v σ' t L'} he hc hd ha hk => ⟨v, _, he, (fun hh => by rw [hc] at hh; cases hh), ρ, t, L', B, M, hd, h.sig ha, .refl _ _, hk⟩
 cases op with
 | mv x =>
  dsimp only [zbq] at hk
  obtain ⟨v, σ', e, t, L', hd, h1, hk⟩ := zb9 h.a hk
  exact fin2 e rfl hd h1 hk
 | mvK s =>
  dsimp only [zbq] at hk
  split at hk
  ·rename_i o z xs hv
   have hd := h.a s _ hv
   rcases hd.sl_inv with ⟨ys, e, hxy⟩ | ⟨e, rfl⟩
   ·exact fin2 (v := .slice false z ys) (σ' := upd st.σ s (.slice false z ys)) (by simp only [evalOp, e]) rfl (.base (.sl false z hxy)) (h.a.upd s (.base (.sl false z hxy))) hk
   ·refine fin2 (v := .nils) (σ' := st.σ) (t := .sl false z []) (by simp only [evalOp, e]) rfl (.base (.sln false z)) (fun s' t' ht' => ?_) hk
    rw [zcB] at ht'
    split at ht'
    ·rename_i e2; subst e2; cases ht'; rw [e]; exact .base (.sln false z)
    ·exact h.a s' t' ht'
  ·rename_i hv
   have hd := h.a s _ hv
   exact fin (by simp only [evalOp, hd.nils_inv]) rfl (.base .nils) hk
  ·exact hk.elim
 | pick c a b =>
  dsimp only [zbq] at hk
  obtain ⟨v, t, e, hd, hk⟩ := zar h.a hk
  cases t with
  | bool c =>
   obtain ⟨w, t, e2, hd2, hk⟩ := zar h.a hk
   rw [hd.bool_inv] at e
   exact fin (v := w) (by simp only [evalOp, e, Option.bind_some]; cases c <;> simp_all) rfl hd2 hk
  | _ => exact hk.elim
 | allocL j zero =>
  dsimp only [zbq] at hk
  obtain ⟨hz, hk⟩ := bifT hk
  obtain ⟨zs, hzs, hk⟩ := zcN (ρ := ρ) hk
  obtain ⟨L', h1, hk⟩ := zcv h.a (fun _ _ h => Den.killLV j h) hk
  exact ⟨.loc j 0, { st with l := upd st.l j zero, σ := killL j st.σ }, by simp only [evalOp]; rw [if_pos hz], (fun hh => by cases hh), ρ, .loc j 0, L', _, M, .loc j 0, ⟨h1, h.b.upd j hzs, h.m⟩, .refl _ _, hk⟩
 | allocM zero =>
  dsimp only [zbq] at hk
  obtain ⟨hz, hk⟩ := bifT hk
  obtain ⟨zs, hzs, hk⟩ := zcN (ρ := ρ) hk
  obtain ⟨hz2, hk⟩ := bifT hk
  refine ⟨.ptr st.m.length 0, { st with m := st.m ++ [zero] }, by simp only [evalOp]; rw [if_pos ⟨hz, zgA hzs hz2⟩], (fun hh => by cases hh), ρ ++ [st.m.length], .ptr M.length 0, L, B, _, .ptr 0 ?_, ⟨h.a.mono _, h.b.mono _, h.m.alloc hzs⟩, .alloc _ _ _, (by have hk' := zav.1 hk; exact hk')⟩
  rw [← h.m.2.1]; exact List.getElem?_concat_length ..
 | boxL j x =>
  dsimp only [zbq] at hk
  obtain ⟨v, σ', e, t, L1, hd, h1, hk⟩ := zb9 h.a hk
  obtain ⟨ho, hk⟩ := bifT hk
  obtain ⟨L', h2, hk⟩ := zcv h1 (fun _ _ h => Den.killLV j h) hk
  exact ⟨.loc j 0, { st with l := upd st.l j v.cells, σ := killL j σ' }, by simp only [evalOp, e, Option.bind_some]; rw [if_pos (hd.ok1 ho)], (fun hh => by cases hh), ρ, .loc j 0, L', _, M, .loc j 0, ⟨h2, h.b.upd j (hd.cells ho), h.m⟩, .refl _ _, hk⟩
 | boxM x =>
  dsimp only [zbq] at hk
  obtain ⟨v, σ', e, t, L1, hd, h1, hk⟩ := zb9 h.a hk
  obtain ⟨ho, hk⟩ := bifT hk
  refine ⟨.ptr st.m.length 0, { st with σ := σ', m := st.m ++ [v.cells] }, by simp only [evalOp, e, Option.bind_some]; rw [if_pos (hd.ok1 ho)], (fun hh => by cases hh), ρ ++ [st.m.length], .ptr M.length 0, L1, B, _, .ptr 0 ?_, ⟨h1.mono _, h.b.mono _, h.m.alloc (hd.cells ho)⟩, .alloc _ _ _, (by have hk' := zav.1 hk; exact hk')⟩
  rw [← h.m.2.1]; exact List.getElem?_concat_length ..
 | build zero parts =>
  dsimp only [zbq] at hk
  obtain ⟨zs, hzs, hk⟩ := zcN (ρ := ρ) hk
  obtain ⟨cs', σ', e, cs, L', hd, h1, hk⟩ := zhf h.a hzs hk
  exact fin2 (v := .agg cs') (by simp only [evalOp, e, Option.bind_some]) rfl (.agg hd) h1 hk
 | buildSlice sz zero len parts =>
  dsimp only [zbq] at hk
  obtain ⟨hz, hk⟩ := bifT hk
  simp only [yae] at hz
  obtain ⟨z1, z2⟩ := hz
  obtain ⟨zs, hzs, hk⟩ := zcN (ρ := ρ) hk
  obtain ⟨z3, hk⟩ := bifT hk
  obtain ⟨hz0, _⟩ := zoz hzs z3
  obtain ⟨cs', σ', e, cs, L', hd, h1, _, rfl, hk⟩ := zgm h.a (Pw.replicate hz0 len) hk
  exact fin2 (v := .slice true sz cs') (by simp only [evalOp]; rw [if_pos ⟨yap z1, z2⟩, e]; rfl) rfl (.base (.sl true sz hd)) h1 hk
 | load agg n p mode =>
  dsimp only [zbq] at hk
  obtain ⟨a, ta, e, hd, hk⟩ := zar h.a hk
  obtain ⟨v, st', e2, t, B', M', hd2, h2, hf, hk⟩ := zhe h hd hk
  exact ⟨v, st', by simp only [evalOp, e, Option.bind_some, e2], (fun hh => by cases hh), ρ, t, L, B', M', hd2, h2, hf, hk⟩
 | store n p x =>
  dsimp only [zbq] at hk
  obtain ⟨v, σ', e, t, L1, hd, h1, hk⟩ := zb9 h.a hk
  obtain ⟨a, ta, e1, hda, hk⟩ := zar (st := { st with σ := σ' }) h1 hk
  obtain ⟨ho, hk⟩ := bifT hk
  obtain ⟨st', e2, L', B', M', h2, hf, hk⟩ := zjP (h.sig h1) (hd.cells ho) hda hk
  exact ⟨_, st', by simp only [evalOp, e, Option.bind_some, e1]; rw [if_pos (hd.ok1 ho), e2]; rfl, (fun hh => by cases hh), ρ, .undef, L', B', M', .undef' _, h2, hf, hk⟩
 | nilCheck x =>
  dsimp only [zbq] at hk
  obtain ⟨a, t, e, hd, hk⟩ := zar h.a hk
  cases t with
  | ptr i o => obtain ⟨b, rfl, _⟩ := hd.ptr_inv; exact fin (by simp only [evalOp, e, Option.bind_some]) rfl hd hk
  | loc i o => have := hd.loc_inv; subst this; exact fin (by simp only [evalOp, e, Option.bind_some]) rfl hd hk
  | ro i o => obtain ⟨b, rfl, _⟩ := hd.ro_inv; exact fin (by simp only [evalOp, e, Option.bind_some]) rfl hd hk
  | el i o _ _ => obtain ⟨b, rfl, _⟩ := hd.el_inv; exact fin (by simp only [evalOp, e, Option.bind_some]) rfl hd hk
  | func i o => obtain ⟨b, rfl, _⟩ := hd.func_inv; exact fin (by simp only [evalOp, e, Option.bind_some]) rfl hd hk
  | _ => exact hk.elim
 | bin op x y =>
  dsimp only [zbq] at hk
  obtain ⟨a, ta, e, hd, hk⟩ := zar h.a hk
  obtain ⟨b, tb, e1, hd1, hk⟩ := zar h.a hk
  obtain ⟨v, t, e2, hd2, hk⟩ := zmj hd hd1 hk
  exact fin (by simp only [evalOp, e, e1, e2, Option.bind_some]) rfl hd2 hk
 | eq neg kind x y =>
  dsimp only [zbq] at hk
  obtain ⟨a, ta, e, hd, hk⟩ := zar h.a hk
  obtain ⟨b, tb, e1, hd1, hk⟩ := zar h.a hk
  obtain ⟨v, e2, hk⟩ := znx hd hd1 hk
  exact fin (by simp only [evalOp, e, e1, e2, Option.bind_some]) rfl (.base (.bool _)) hk
 | un op x =>
  dsimp only [zbq] at hk
  obtain ⟨a, ta, e, hd, hk⟩ := zar h.a hk
  obtain ⟨v, t, e2, hd2, hk⟩ := zny hd hk
  exact fin (by simp only [evalOp, e, e2, Option.bind_some]) rfl hd2 hk
 | conv kd x =>
  dsimp only [zbq] at hk
  obtain ⟨a, ta, e, hd, hk⟩ := zar h.a hk
  cases ta with
  | int _ n => rw [hd.int_inv] at e; exact fin (by simp only [evalOp, e, Option.bind_some]) rfl (.base (.int _ _)) hk
  | _ => exact hk.elim
 | strStr x =>
  dsimp only [zbq] at hk
  obtain ⟨a, ta, e, hd, hk⟩ := zar h.a hk
  cases ta with
  | str s => obtain ⟨b, rfl, rfl⟩ := hd.str_inv; exact fin (by simp only [evalOp, e, Option.bind_some]) rfl hd hk
  | _ => exact hk.elim
 | strBytes x =>
  dsimp only [zbq] at hk
  obtain ⟨a, ta, e, hd, hk⟩ := zar h.a hk
  cases ta with
  | str s => obtain ⟨b, rfl, rfl⟩ := hd.str_inv; exact fin (by simp only [evalOp, e, Option.bind_some]) rfl (.base (.sl true 1 (zkW b))) hk
  | _ => exact hk.elim
 | bytesStr x =>
  dsimp only [zbq] at hk
  obtain ⟨a, ta, e, hd, hk⟩ := zar h.a hk
  obtain ⟨xs, e1, ys, hxy, s, ⟨rfl, hr⟩, hk⟩ := zgl h hd hk
  obtain ⟨b, e2, rfl⟩ := zhg hxy hr
  exact fin (by simp only [evalOp, e, e1, e2, Option.bind_some]) rfl (.base (.str b)) hk
 | intStr x =>
  dsimp only [zbq] at hk
  obtain ⟨a, ta, e, hd, hk⟩ := zar h.a hk
  cases ta with
  | int _ n => rw [hd.int_inv] at e; exact fin (by simp only [evalOp, e, Option.bind_some]) rfl (.base (.str _)) hk
  | _ => exact hk.elim
 | convB x =>
  dsimp only [zbq] at hk
  obtain ⟨v, σ', e, t, L1, hd, h1, hk⟩ := zb9 h.a hk
  cases t with
  | sl o z xs =>
   cases o with
   | false => exact hk.elim
   | true =>
    obtain ⟨hz, hne, hk⟩ := zbW hk
    rcases hd.sl_inv with ⟨ys, rfl, hxy⟩ | ⟨_, rfl⟩
    ·exact fin2 (v := .slice true 1 ys) (by simp only [evalOp, e, Option.bind_some]; rw [if_pos hz]) rfl (.base (.sl true 1 hxy)) h1 hk
    ·exact absurd rfl hne
  | _ => exact hk.elim
 | makeSlice sz zero l c =>
  dsimp only [zbq] at hk
  obtain ⟨a, ta, e, hd, hk⟩ := zar h.a hk
  obtain ⟨b, tb, e1, hd1, hk⟩ := zar h.a hk
  cases ta <;> try exact hk.elim
  cases tb <;> try exact hk.elim
  rw [hd.int_inv] at e
  rw [hd1.int_inv] at e1
  obtain ⟨hc, hk⟩ := hk
  obtain ⟨hz, hk⟩ := bifT hk
  simp only [yae] at hz
  obtain ⟨z1, z2⟩ := hz
  obtain ⟨zs, hzs, hk⟩ := zcN (ρ := ρ) hk
  obtain ⟨z3, _, rfl, hk⟩ := bifT hk
  obtain ⟨hz0, _⟩ := zoz hzs z3
  exact fin (by simp only [evalOp, e, e1, Option.bind_some]; rw [if_pos ⟨hc.1, hc.2.1, hc.2.2, yap z1, z2⟩]) rfl (.base (.sl true sz (Pw.replicate hz0 _))) hk
 | sliceS x lo hi =>
  dsimp only [zbq] at hk
  obtain ⟨a, ta, e, hd, hk⟩ := zar h.a hk
  cases ta <;> try exact hk.elim
  obtain ⟨b, rfl, rfl⟩ := hd.str_inv
  obtain ⟨n, e1, hk⟩ := zdk h.a hk
  obtain ⟨l, e2, hc, _, rfl, hk⟩ := zdk h.a hk
  simp only [yal] at hc e1
  exact fin (by simp only [evalOp, e, e1, e2, Option.bind_some]; rw [if_pos hc]) rfl (.base (.str _)) (by rw [List.map_take, List.map_drop]; exact hk)
 | sliceV sz x lo hi =>
  dsimp only [zbq] at hk
  obtain ⟨v, σ', e, t, L1, hd, h1, hk⟩ := zb9 h.a hk
  cases t <;> try exact hk.elim
  ·obtain ⟨q, e1, hk⟩ := zdk (st := { st with σ := σ' }) h1 hk
   obtain ⟨l, e2, hc, hk⟩ := zdk (st := { st with σ := σ' }) h1 hk
   rw [hd.nils_inv] at e
   exact fin2 (v := .nils) (by simp only [evalOp, e, e1, e2, Option.bind_some]; rw [if_pos hc]) rfl (.base .nils) h1 hk
  ·obtain ⟨hz, hk⟩ := zbW hk
   obtain ⟨n, e1, hk⟩ := zdk (st := { st with σ := σ' }) h1 hk
   obtain ⟨l, e2, hc, _, rfl, hk⟩ := zdk (st := { st with σ := σ' }) h1 hk
   rcases hd.sl_inv with ⟨ys, rfl, hxy⟩ | ⟨rfl, rfl⟩
   ·rw [hxy.length] at hc e1
    exact fin2 (v := .slice _ sz ((ys.drop l).take (n - l))) (by simp only [evalOp, e, e1, e2, Option.bind_some]; rw [if_pos ⟨hc.1, hc.2, hz⟩]) rfl (.base (.sl _ _ ((hxy.drop _).take _))) h1 hk
   ·simp only [List.length_nil] at hc e1
    refine fin2 (v := .nils) (by simp only [evalOp, e, e1, e2, Option.bind_some]; rw [if_pos (by omega)]) rfl ?_ h1 hk
    simp only [List.drop_nil, List.take_nil]
    exact .base (.sln _ _)
 | fieldAddr off x =>
  dsimp only [zbq] at hk
  obtain ⟨a, t, e, hd, hk⟩ := zar h.a hk
  cases t with
  | ptr i o => obtain ⟨b, rfl, hb⟩ := hd.ptr_inv; exact fin (by simp only [evalOp, e, Option.bind_some]) rfl (.ptr _ hb) hk
  | loc i o => have := hd.loc_inv; subst this; exact fin (by simp only [evalOp, e, Option.bind_some]) rfl (.loc _ _) hk
  | ro i o => obtain ⟨b, rfl, hb⟩ := hd.ro_inv; exact fin (by simp only [evalOp, e, Option.bind_some]) rfl (.ro _ hb) hk
  | el i o _ _ => obtain ⟨b, rfl, hb⟩ := hd.el_inv; exact fin (by simp only [evalOp, e, Option.bind_some]) rfl (.el _ _ _ hb) hk
  | _ => exact hk.elim
 | field agg n off x =>
  dsimp only [zbq] at hk
  obtain ⟨a, t, e, hd, hk⟩ := zar h.a hk
  cases t <;> try exact hk.elim
  rename_i cs
  obtain ⟨cs', rfl, hc⟩ := hd.agg_inv
  cases agg with
  | false =>
   obtain ⟨rfl, hk2⟩ := zbW hk
   cases hv : cs[off]? with
   | none => simp only [hv] at hk2
   | some v =>
    simp only [hv] at hk2
    obtain ⟨v', hv', hd2⟩ := hc.get hv
    exact fin (v := v') (by simp only [evalOp, e, Option.bind_some]; rw [if_pos (Nat.succ_le_of_lt (zax hv')), zm9 hv']; rfl) rfl hd2 hk2
  | true =>
   obtain ⟨hl, hk⟩ := bifT hk
   have hl := zeC hl
   rw [hc.length] at hl
   exact fin (v := .agg _) (by simp only [evalOp, e, Option.bind_some]; rw [if_pos hl]; rfl) rfl (.agg ((hc.drop _).take _)) (by have hk' := zav.1 hk; exact hk')
 | indexArr len sz x i =>
  dsimp only [zbq] at hk
  obtain ⟨a, t, e, hd, hk⟩ := zar h.a hk
  obtain ⟨b, ti, e1, hd1, hk⟩ := zar h.a hk
  cases ti <;> try exact hk.elim
  rw [hd1.int_inv] at e1
  obtain ⟨hc, hk⟩ := hk
  cases t with
  | ptr i o => obtain ⟨b, rfl, hb⟩ := hd.ptr_inv; exact fin (by simp only [evalOp, e, e1, Option.bind_some]; rw [if_pos hc]) rfl (.ptr _ hb) hk
  | loc i o => have := hd.loc_inv; subst this; exact fin (by simp only [evalOp, e, e1, Option.bind_some]; rw [if_pos hc]) rfl (.loc _ _) hk
  | ro i o => obtain ⟨b, rfl, hb⟩ := hd.ro_inv; exact fin (by simp only [evalOp, e, e1, Option.bind_some]; rw [if_pos hc]) rfl (.ro _ hb) hk
  | el i o _ _ => obtain ⟨b, rfl, hb⟩ := hd.el_inv; exact fin (by simp only [evalOp, e, e1, Option.bind_some]; rw [if_pos hc]) rfl (.el _ _ _ hb) hk
  | _ => exact hk.elim
 | indexSl sz x i =>
  dsimp only [zbq] at hk
  obtain ⟨a, t, e, hd, hk⟩ := zar h.a hk
  obtain ⟨b, ti, e1, hd1, hk⟩ := zar h.a hk
  cases ti <;> try exact hk.elim
  rename_i kd n
  rw [hd1.int_inv] at e1
  cases t with
  | place r =>
   obtain ⟨r', rfl, hr⟩ := hd.place_inv
   obtain ⟨w, hd2, hk⟩ := hr.look h hk
   cases w with
   | sl own z xs =>
    cases own with
    | false =>
     obtain ⟨hz, h0, cs, hcs, hk⟩ := zbW hk
     rcases hd2.sl_inv with ⟨ys, e3, hxy⟩ | ⟨_, rfl⟩
     ·obtain ⟨cs', hcs', hc⟩ := hxy.get hcs
      have e2 := zbE (d := []) hcs'
      exact fin (v := .ro cs' 0) (by simp only [evalOp, e, e1, Option.bind_some, e3]; rw [if_pos ⟨h0, by have := zax hcs'; omega, hz⟩, e2]) rfl (.ro 0 hc.base) hk
     ·simp at hcs
    | true =>
     obtain ⟨hz, h0, hk⟩ := zbW hk
     rcases hd2.sl_inv with ⟨ys, e3, hxy⟩ | ⟨_, rfl⟩
     ·rw [hxy.length] at h0
      exact fin (v := .el r' sz n.toNat 0) (by simp only [evalOp, e, e1, Option.bind_some, e3]; rw [if_pos ⟨h0.1, by omega, hz⟩]) rfl (.el _ _ _ hr) hk
     ·simp at h0
   | _ => exact hk.elim
  | sl own z xs =>
   cases own with
   | false =>
    obtain ⟨hz, h0, cs, hcs, hk⟩ := zbW hk
    rcases hd.sl_inv with ⟨ys, rfl, hxy⟩ | ⟨_, rfl⟩
    ·obtain ⟨cs', hcs', hc⟩ := hxy.get hcs
     have e2 := zbE (d := []) hcs'
     exact fin (v := .ro cs' 0) (by simp only [evalOp, e, e1, Option.bind_some]; rw [if_pos ⟨h0, by have := zax hcs'; omega, hz⟩, e2]) rfl (.ro 0 hc.base) hk
    ·simp at hcs
   | true => exact hk.elim
  | _ => exact hk.elim
 | indexAgg agg len sz x i =>
  dsimp only [zbq] at hk
  obtain ⟨a, t, e, hd, hk⟩ := zar h.a hk
  obtain ⟨b, ti, e1, hd1, hk⟩ := zar h.a hk
  cases t <;> try exact hk.elim
  cases ti <;> try exact hk.elim
  rw [hd1.int_inv] at e1
  obtain ⟨cs', rfl, hcs⟩ := hd.agg_inv
  obtain ⟨hc, hk⟩ := hk
  rw [hcs.length] at hc
  cases agg with
  | false =>
   obtain ⟨rfl, v, hv, hk⟩ := zbW hk
   obtain ⟨v', hv', hd2⟩ := hcs.get hv
   exact fin (v := v') (by simp only [evalOp, e, e1, Option.bind_some]; rw [if_pos hc, zm9 hv']; rfl) rfl hd2 hk
  | true => exact fin (v := .agg _) (by simp only [evalOp, e, e1, Option.bind_some]; rw [if_pos hc]; rfl) rfl (.agg ((hcs.drop _).take _)) hk
 | indexStr x i =>
  dsimp only [zbq] at hk
  obtain ⟨a, t, e, hd, hk⟩ := zar h.a hk
  obtain ⟨b, ti, e1, hd1, hk⟩ := zar h.a hk
  cases t <;> try exact hk.elim
  cases ti <;> try exact hk.elim
  rename_i n
  rw [hd1.int_inv] at e1
  obtain ⟨s', rfl, rfl⟩ := hd.str_inv
  obtain ⟨h0, c, hc, hk⟩ := hk
  rw [List.getElem?_map, yah] at hc
  obtain ⟨u, hu, rfl⟩ := hc
  have hlt := zax hu
  exact fin (v := .int .u8 (zc0 u)) (by simp only [evalOp, e, e1, Option.bind_some]; rw [if_pos ⟨h0, by omega⟩, zbE hu]; rfl) rfl (.base (.int _ _)) hk
 | extract x i =>
  dsimp only [zbq] at hk
  obtain ⟨v, σ', e, t, L1, hd, h1, hk⟩ := zb9 h.a hk
  cases t <;> try exact hk.elim
  rename_i vs
  obtain ⟨vs', rfl, hvs⟩ := hd.tuple_inv
  cases hv : vs[i]? with
  | none => simp only [hv] at hk
  | some v =>
   simp only [hv] at hk
   obtain ⟨v', hv', hd2⟩ := hvs.get hv
   exact fin2 (v := v') (by simp only [evalOp, e, Option.bind_some]; rw [if_pos (zax hv'), zbE hv']) rfl hd2 h1 hk
 | lend f sz x lo =>
  dsimp only [zbq] at hk
  obtain ⟨a, ta, e, hd, hk⟩ := zar h.a hk
  obtain ⟨xs, e1, ys, hxy, hlo, zs, rfl, r, hr, hk⟩ := zkX h hd hk
  obtain ⟨hb, hk⟩ := bifT hk
  simp only [yae, Nat.ble_eq] at hb
  rw [hxy.length] at hlo
  obtain ⟨r', m', ρ', hcf, hd2, _, _, _, hq⟩ := hr [] [] [.slice false sz (xs.drop lo)] ⟨List.nodup_nil, rfl, fun i b h => by cases h⟩ (.cons (.base (.sl _ _ (hxy.drop lo))) .nil)
  obtain ⟨hb2, hd3⟩ := zlB hd2 hb.2
  exact fin (v := r') (by simp only [evalOp, e, e1, Option.bind_some]; rw [if_pos ⟨hlo, hb.1⟩, hcf, hq rfl]; simp [hb2]) rfl (hd3 ρ) hk
 | callN f args w => exact hk.elim
 | tOp _ _ => exact hk.elim
 | loadW _ _ _ _ _ _ => exact hk.elim
 | callL f args =>
  dsimp only [zbq] at hk
  obtain ⟨vs, ts, e, hd, hk⟩ := zeU h.a hk
  obtain ⟨us, ts', e1, hd1, r, hr, hk⟩ := zhh h hd hk
  obtain ⟨hb, hk⟩ := bifT hk
  obtain ⟨r', m', ρ', hcf, hd2, _, _, _, hq⟩ := hr [] [] us ⟨List.nodup_nil, rfl, fun i b h => by cases h⟩ hd1
  obtain ⟨hb2, hd3⟩ := zlB hd2 hb
  exact fin (v := r') (by simp only [evalOp, e, e1, Option.bind_some]; rw [hcf, hq rfl]; simp [hb2]) rfl (hd3 ρ) hk
 | callP f args =>
  dsimp only [zbq] at hk
  obtain ⟨vs, σ', e, ts, L1, hd, h1, hk⟩ := zfA h.a hk
  obtain ⟨ha, r, hr, hk⟩ := bifT hk
  obtain ⟨hrf, hk⟩ := bifT hk
  obtain ⟨r', m', ρ', hcf, hd2, _, _, _, hq⟩ := hr [] [] vs ⟨List.nodup_nil, rfl, fun i b h => by cases h⟩ (zjQ hd ha).1
  have hm : m' = [] := hq rfl
  subst hm
  obtain ⟨hd3, hf3⟩ := znz hd2 hrf
  exact ⟨r', { st with σ := σ' }, by simp only [evalOp, e, Option.bind_some]; rw [if_pos (zjQ hd ha).2, hcf]; simp [hf3], (fun hh => by cases hh), _, r, L1, B, M, hd3 ρ, ⟨h1, h.b, h.m⟩, .refl _ _, hk⟩
 | callF f args =>
  dsimp only [zbq] at hk
  obtain ⟨vs, σ', e, ts, L1, hd, h1, hk⟩ := zfA h.a hk
  obtain ⟨ha, r, M', hr, hk⟩ := bifT hk
  obtain ⟨r', m', ρ', hcf, hd2, hm, hf, _, hq⟩ := hr ρ st.m vs h.m hd
  have ⟨⟨ex, hex, _⟩, _, _⟩ := hf
  subst hex
  obtain ⟨L', h2, hk⟩ := zcv (h1.mono ex) (fun _ _ h => Den.killMV h) hk
  exact ⟨r', { st with σ := killM σ', m := m' }, by simp only [evalOp, e, Option.bind_some]; rw [if_pos (Pw.all (p := TV.okArg) (q := V.okArg) (fun _ _ h ho => Den.okArg h ho) hd ha), hcf]; rfl, fun _ => ⟨rfl, hq⟩, _, r, L', B, M', hd2, ⟨h2, h.b.mono ex, hm⟩, hf, hk⟩
 | callV f args =>
  dsimp only [zbq] at hk
  obtain ⟨fv, t, e0, hd0, hk⟩ := zar h.a hk
  cases t <;> try exact hk.elim
  obtain ⟨cs', rfl, hcs⟩ := hd0.func_inv
  obtain ⟨vs, σ', e, ts, L1, hd, h1, hk⟩ := zfA h.a hk
  obtain ⟨ha, ha2, r, M', hr, hk⟩ := bifT hk
  obtain ⟨r', m', ρ', hcf, hd2, hm, hf, _, hq⟩ := hr ρ st.m _ h.m (hd.append hcs)
  have ⟨⟨ex, hex, _⟩, _, _⟩ := hf
  subst hex
  obtain ⟨L', h2, hk⟩ := zcv (h1.mono ex) (fun _ _ h => Den.killMV h) hk
  exact ⟨r', { st with σ := killM σ', m := m' }, by simp only [evalOp, e0, e, Option.bind_some]; rw [if_pos ⟨Pw.all (p := TV.okArg) (q := V.okArg) (fun _ _ h ho => Den.okArg h ho) hd ha, Pw.all (p := TV.okArg) (q := V.okArg) (fun _ _ h ho => Den.okArg h ho) hcs ha2⟩, hcf]; rfl, fun _ => ⟨rfl, hq⟩, _, r, L', B, M', hd2, ⟨h2, h.b.mono ex, hm⟩, hf, hk⟩
 | lenStr x =>
  dsimp only [zbq] at hk
  obtain ⟨a, t, e, hd, hk⟩ := zar h.a hk
  cases t with
  | str s =>
   obtain ⟨b, rfl, rfl⟩ := hd.str_inv
   simp only [yal] at hk
   exact fin (by simp only [evalOp, e, Option.bind_some]) rfl (.base (.int _ _)) hk
  | _ => exact hk.elim
 | lenSl x =>
  dsimp only [zbq] at hk
  obtain ⟨a, t, e, hd, hk⟩ := zar h.a hk
  obtain ⟨xs, e1, ys, hxy, _, rfl, hk⟩ := zgl h hd hk
  rw [hxy.length] at hk
  exact fin (by simp only [evalOp, e, e1, Option.bind_some]) rfl (.base (.int _ _)) hk
 | lenC n => exact fin rfl rfl (.base (.int _ _)) hk
 | append sz x y =>
  dsimp only [zbq] at hk
  obtain ⟨p, σ1, e1, tp, L1, hd1, h1, hk⟩ := zb9 h.a hk
  obtain ⟨q', σ2, e2, tq, L2, hd2, h2, hk⟩ := zb9 (st := { st with σ := σ1 }) h1 hk
  obtain ⟨ys, e3, zs, hzs, hk⟩ := zde (st := { st with σ := σ2 }) (h.sig h2) hd2 hk
  have app : ∀ {xs z kk}, appW sz zs xs z kk → (xs.length + zs.length ≤ most ∧ z = sz) ∧ kk (.sl true sz (xs ++ zs)) := fun {xs z kk} ha => by
   obtain ⟨hz, hc, _, rfl, ha⟩ := zbW ha
   exact ⟨⟨hc, hz⟩, ha⟩
  have app0 : ∀ {kk : TV → Prop}, appW sz zs [] sz kk → ∃ v, (if ys.length ≤ most ∧ 0 < ys.length then some (V.slice true sz ys, ({ st with σ := σ2 } : St)) else if ys.length = 0 then some (.nils, { st with σ := σ2 }) else none) = some (v, { st with σ := σ2 }) ∧ Den ρ (.sl true sz zs) v ∧ kk (.sl true sz zs) := fun {kk} ha => by
   obtain ⟨⟨hm, _⟩, hk⟩ := app ha
   rw [hzs.length] at hm
   simp only [List.length_nil, Nat.zero_add] at hm
   by_cases h0 : 0 < ys.length
   ·exact ⟨_, by rw [if_pos ⟨hm, h0⟩], .base (.sl true sz hzs), hk⟩
   ·have hy : ys = [] := List.length_eq_zero_iff.1 (by omega)
    subst hy
    have hz0 : zs = [] := by cases hzs; rfl
    subst hz0
    exact ⟨_, by rw [if_neg (fun hh => h0 hh.2), if_pos (by simp)], .base (.sln true sz), hk⟩
  have fin3 : ∀ v t st', evalOp cf st (.append sz x y) = some (v, st') → ∀ L' B' M', Den ρ t v → Rel ρ L' B' M' st' → Fr ρ st.m ρ st'.m → k t L' B' M' → ∃ v st', evalOp cf st (.append sz x y) = some (v, st') ∧ ((AOp.append sz x y).isCall = true → st'.l = st.l ∧ (q = true → st'.m = st.m)) ∧ ∃ ρ' t L' B' M', Den ρ' t v ∧ Rel ρ' L' B' M' st' ∧ Fr ρ st.m ρ' st'.m ∧ k t L' B' M' :=
   fun v t st' e L' B' M' a b c d => ⟨v, st', e, (fun hh => by cases hh), ρ, t, L', B', M', a, b, c, d⟩
  cases tp with
  | nils =>
   obtain ⟨v, e, hd, hk⟩ := app0 hk
   rw [hd1.nils_inv] at e1
   exact fin3 v _ { st with σ := σ2 } (by simp only [evalOp, e1, e2, e3, Option.bind_some]; exact e) L2 B M hd (h.sig h2) (.refl _ _) hk
  | sl o z xs =>
   cases o with
   | false => exact hk.elim
   | true =>
    rcases hd1.sl_inv with ⟨ws, rfl, hxy⟩ | ⟨rfl, rfl⟩
    ·obtain ⟨hc, hk⟩ := app hk
     rw [hxy.length, hzs.length] at hc
     exact fin3 (.slice true sz (ws ++ ys)) _ { st with σ := σ2 } (by simp only [evalOp, e1, e2, e3, Option.bind_some]; rw [if_pos hc]) L2 B M (.base (.sl true sz (hxy.append hzs))) (h.sig h2) (.refl _ _) hk
    ·have hk' : appW sz zs [] sz fun v => k v L2 B M := by
      obtain ⟨hc, hk⟩ := app hk
      unfold appW
      rw [show Nat.beq sz sz = true by simp]
      exact ⟨hc.1, _, rfl, hk⟩
     obtain ⟨v, e, hd, hk⟩ := app0 hk'
     exact fin3 v _ { st with σ := σ2 } (by simp only [evalOp, e1, e2, e3, Option.bind_some]; exact e) L2 B M hd (h.sig h2) (.refl _ _) hk
  | place r =>
   obtain ⟨r', rfl, hr⟩ := hd1.place_inv
   have nilc : ∀ {z : Nat} {kk : TV → Prop}, appW sz zs [] z kk → appW sz zs [] sz kk := fun {z kk} hk => by
    obtain ⟨hc, hk⟩ := app hk
    unfold appW
    rw [show Nat.beq sz sz = true by simp]
    exact ⟨hc.1, _, rfl, hk⟩
   cases hr with
   | tmp s =>
    simp only at hk
    split at hk
    ·rename_i z xs hs
     rcases (h2 s _ hs).sl_inv with ⟨ws, e4, hxy⟩ | ⟨e4, rfl⟩
     ·obtain ⟨hc, hk⟩ := app hk
      rw [hxy.length, hzs.length] at hc
      have hl : look { st with σ := σ2 } (.tmp s) = .slice true z ws := e4
      exact fin3 (.slice true sz (ws ++ ys)) _ { st with σ := upd σ2 s .undef } (by simp only [evalOp, e1, e2, e3, Option.bind_some, hl]; rw [if_pos hc]) _ B M (.base (.sl true sz (hxy.append hzs))) (h.sig (h2.upd s (.undef' _))) (.refl _ _) hk
     ·obtain ⟨v, e, hd, hk⟩ := app0 (nilc hk)
      have hl : look { st with σ := σ2 } (.tmp s) = .nils := e4
      refine fin3 v _ { st with σ := σ2 } (by simp only [evalOp, e1, e2, e3, Option.bind_some, hl]; exact e) _ B M hd (h.sig (fun s' t' ht' => ?_)) (.refl _ _) hk
      rw [zcB] at ht'
      split at ht'
      ·cases ht'; exact .undef' _
      ·exact h2 s' t' ht'
    ·rename_i hs
     obtain ⟨v, e, hd, hk⟩ := app0 hk
     have hl : look { st with σ := σ2 } (.tmp s) = .nils := (h2 s _ hs).nils_inv
     exact fin3 v _ { st with σ := σ2 } (by simp only [evalOp, e1, e2, e3, Option.bind_some, hl]; exact e) L2 B M hd (h.sig h2) (.refl _ _) hk
    ·exact hk.elim
   | @mem i b o hi =>
    simp only at hk
    split at hk
    ·rename_i cs hcs
     obtain ⟨cs', hcs', hc0⟩ := h.m.get hi hcs
     have hcd := zbE (d := []) hcs'
     split at hk
     ·rename_i z xs hs
      obtain ⟨w, hw, hd4⟩ := hc0.get hs
      have hl : look { st with σ := σ2 } (.mem b o) = w := by show (st.m.getD b []).getD o .undef = w; rw [hcd, zbE hw]
      rcases hd4.sl_inv with ⟨ws, rfl, hxy⟩ | ⟨rfl, rfl⟩
      ·obtain ⟨hc, hk⟩ := app hk
       rw [hxy.length, hzs.length] at hc
       exact fin3 (.slice true sz (ws ++ ys)) _ { st with σ := σ2, m := st.m.set b (cs'.set o .undef) } (by simp only [evalOp, e1, e2, e3, Option.bind_some, hl, hcd]; rw [if_pos hc]) L2 B _ (.base (.sl true sz (hxy.append hzs))) ⟨h2, h.b, h.m.set hi (hc0.set (.undef' _) o)⟩ (.set hi _) ((by have hk' := zav.1 hk; have hk2 := zav.1 hk'; exact hk2))
      ·obtain ⟨v, e, hd, hk⟩ := app0 (nilc hk)
       refine fin3 v _ { st with σ := σ2 } (by simp only [evalOp, e1, e2, e3, Option.bind_some, hl]; exact e) L2 B _ hd ⟨h2, h.b, ?_⟩ (.refl _ _) ((by have hk' := zav.1 hk; have hk2 := zav.1 hk'; exact hk2))
       have hset : st.m = st.m.set b (cs'.set o .nils) := by
        have e5 : cs'.set o .nils = cs' := ziG hw
        rw [e5, ziG hcs']
       show Mg ρ _ st.m
       rw [hset]
       exact h.m.set hi (hc0.set (.undef' _) o)
     ·rename_i hs
      obtain ⟨w, hw, hd4⟩ := hc0.get hs
      have hl : look { st with σ := σ2 } (.mem b o) = .nils := by show (st.m.getD b []).getD o .undef = .nils; rw [hcd, zbE hw, hd4.nils_inv]
      obtain ⟨v, e, hd, hk⟩ := app0 hk
      exact fin3 v _ { st with σ := σ2 } (by simp only [evalOp, e1, e2, e3, Option.bind_some, hl]; exact e) L2 B M hd (h.sig h2) (.refl _ _) hk
     ·exact hk.elim
    ·exact hk.elim
   | loc j o =>
    simp only at hk
    split at hk
    ·rename_i cs hcs
     have hc0 := h.b j cs hcs
     split at hk
     ·rename_i z xs hs
      obtain ⟨w, hw, hd4⟩ := hc0.get hs
      have hl : look { st with σ := σ2 } (.loc j o) = w := by show (st.l j).getD o .undef = w; rw [zbE hw]
      rcases hd4.sl_inv with ⟨ws, rfl, hxy⟩ | ⟨rfl, rfl⟩
      ·obtain ⟨hc, hk⟩ := app hk
       rw [hxy.length, hzs.length] at hc
       exact fin3 (.slice true sz (ws ++ ys)) _ { st with σ := σ2, l := upd st.l j ((st.l j).set o .undef) } (by simp only [evalOp, e1, e2, e3, Option.bind_some, hl]; rw [if_pos hc]) L2 _ M (.base (.sl true sz (hxy.append hzs))) ⟨h2, h.b.upd j (hc0.set (.undef' _) o), h.m⟩ (.refl _ _) (by have hk' := zav.1 hk; exact hk')
      ·obtain ⟨v, e, hd, hk⟩ := app0 (nilc hk)
       refine fin3 v _ { st with σ := σ2 } (by simp only [evalOp, e1, e2, e3, Option.bind_some, hl]; exact e) L2 _ M hd ⟨h2, fun j' t' ht' => ?_, h.m⟩ (.refl _ _) (by have hk' := zav.1 hk; exact hk')
       rw [zcB] at ht'
       split at ht'
       ·rename_i e6; subst e6; cases ht'
        have e5 : (st.l j').set o .nils = st.l j' := ziG hw
        show Pw (Den ρ) _ (st.l j')
        rw [← e5]; exact hc0.set (.undef' _) o
       ·exact h.b j' t' ht'
     ·rename_i hs
      obtain ⟨w, hw, hd4⟩ := hc0.get hs
      have hl : look { st with σ := σ2 } (.loc j o) = .nils := by show (st.l j).getD o .undef = .nils; rw [zbE hw, hd4.nils_inv]
      obtain ⟨v, e, hd, hk⟩ := app0 hk
      exact fin3 v _ { st with σ := σ2 } (by simp only [evalOp, e1, e2, e3, Option.bind_some, hl]; exact e) L2 B M hd (h.sig h2) (.refl _ _) hk
     ·exact hk.elim
    ·exact hk.elim
  | _ => exact hk.elim
 | minMax mx x ys =>
  dsimp only [zbq] at hk
  obtain ⟨a, t, e, hd, hk⟩ := zar h.a hk
  obtain ⟨vs, ts, e1, hd1, hk⟩ := zeU h.a hk
  obtain ⟨r, w, hm, hd2, hk⟩ := ziH hd hd1 hk
  exact fin (by simp only [evalOp, e, e1, hm, Option.bind_some]) rfl hd2 hk
 | mkFunc f captured =>
  dsimp only [zbq] at hk
  obtain ⟨vs, ts, e1, hd1, hk⟩ := zeU h.a hk
  obtain ⟨hc, hk⟩ := bifT hk
  exact fin (by simp only [evalOp, e1, Option.bind_some]; rw [if_pos (Pw.all (p := zhb) (q := Am.okCap) (fun _ _ h ho => Den.okCap h ho) hd1 hc)]) rfl (.func f hd1) hk
theorem zhj {s : Nat} {t : TV} (h : zkT s t = true) : t = .place (.tmp s) := by
 unfold zkT at h
 split at h
 ·rw [yap h]
 ·cases h
theorem zlC {s : Nat} {t : TV} (h : elAt s t = true) : ∃ z i k, t = .el (.tmp s) z i k := by
 unfold elAt at h
 split at h
 ·rw [yap h]; exact ⟨_, _, _, rfl⟩
 ·cases h
theorem Den.placeT {s : Nat} {v : V} (h : Den ρ (.place (.tmp s)) v) : v = .place (.tmp s) := by
 obtain ⟨r', rfl, hr⟩ := h.place_inv
 cases hr; rfl
theorem Den.elT {s z i k : Nat} {v : V} (h : Den ρ (.el (.tmp s) z i k) v) : v = .el (.tmp s) z i k := by
 obtain ⟨r', rfl, hr⟩ := h.el_inv
 cases hr; rfl
theorem zhk {cf : CF} (h : Ag ρ L st.σ) {s : Nat} {kk : TOp} {k : Prop} (hk : zkU s kk L k) {v : V} {st' : St} : (evalOp cf st (kk.under s) = some (v, st') → evalOp cf st (.tOp s kk) = some (v, st')) ∧ k := by
 cases kk with
 | place => exact ⟨fun he => he, hk⟩
 | index sz x i =>
  simp only [zkU] at hk
  split at hk
  ·rename_i t hf
   obtain ⟨h1, hk⟩ := bifT hk
   have hx := h x _ hf
   rw [zhj h1] at hx
   have hx := hx.placeT
   refine ⟨fun he => ?_, hk⟩
   simp only [TOp.under, evalOp, zeQ hx, Option.bind_some, look] at he
   simp only [evalOp, zdF, tIs, hx, beq_self_eq_true, if_true]
   exact he
  ·exact hk.elim
 | len x =>
  simp only [zkU] at hk
  split at hk
  ·rename_i t hf
   obtain ⟨h1, hk⟩ := bifT hk
   have hx := h x _ hf
   rw [zhj h1] at hx
   have hx := hx.placeT
   refine ⟨fun he => ?_, hk⟩
   simp only [TOp.under, evalOp, zeQ hx, Option.bind_some] at he
   simp only [evalOp, zdF, tIs, hx, beq_self_eq_true, if_true]
   exact he
  ·exact hk.elim
 | load agg n p =>
  simp only [zkU] at hk
  split at hk
  ·rename_i t hf
   obtain ⟨h1, hk2⟩ := bifT hk
   have hx := h p _ hf
   obtain ⟨z, i, o, rfl⟩ := zlC h1
   have hx := hx.elT
   refine ⟨fun he => ?_, hk2⟩
   simp only [TOp.under, evalOp, zkA hx, Option.bind_some, za1, if_true, look] at he
   simp only [evalOp, zdF, hx, zke, if_true]
   split at he
   ·split at he
    ·rename_i hc
     simp only [if_pos hc, Option.bind_some]
     exact he
    ·cases he
   ·cases he
  ·exact hk.elim
 | store n p x =>
  simp only [zkU] at hk
  obtain ⟨v1, σ', e, t, L', hd, h1, hk⟩ := zb9 h hk
  split at hk
  ·rename_i t hf
   obtain ⟨h2, hk2⟩ := bifT hk
   have hx := h1 p _ hf
   obtain ⟨z, i, o, rfl⟩ := zlC h2
   have hx := hx.elT
   refine ⟨fun he => ?_, hk2⟩
   have hg : getC { st with σ := σ' } (.t p) = some (.el (.tmp s) z i o) := zkA hx
   simp only [TOp.under, evalOp, e, Option.bind_some, hg] at he
   simp only [evalOp, zdF, e, Option.bind_some, hg, tEl, beq_self_eq_true, if_true]
   exact he
  ·exact hk.elim
theorem zml {s : Nat} {kk : TOp} : (AOp.tOp s kk).isCall = (kk.under s).isCall := by cases kk <;> rfl
theorem zf0 {q : Bool} {cf : CF} (h : Rel ρ L B M st) {op : AOp} {k : TV → Ts → Bs → Ms → Prop} (hk : wpOp q cf op L B M k) :
  ∃ v st', evalOp cf st op = some (v, st') ∧ (op.isCall = true → st'.l = st.l ∧ (q = true → st'.m = st.m)) ∧ ∃ ρ' t L' B' M', Den ρ' t v ∧ Rel ρ' L' B' M' st' ∧ Fr ρ st.m ρ' st'.m ∧ k t L' B' M' := by
 by_cases hT : op.isT = true
 ·cases op <;> first | (cases hT; done) | skip
  rename_i s kk
  have hk : zkU s kk L (zbq q cf (kk.under s) L B M k) := hk
  obtain ⟨v, st', e, hc, r⟩ := zhi h (zhk (cf := cf) (v := .undef) (st' := st) h.a hk).2
  exact ⟨v, st', (zhk (cf := cf) h.a hk).1 e, by rw [zml]; exact hc, r⟩
 ·have : zbq q cf op L B M k := by
   cases op <;> first | exact hk | exact absurd rfl hT
  exact zhi h this
end
end Go.Proofs.YtakdnfneikbjjaaGreatDoor.Am.T
