/-
A part of the proof of a law: ly code, ly good a, tw val, tw wp, tw s, tw o, tw c, tw pure, tw law, tw nil, tw rec.
-/
import Derived.Test.YtakdnfneikbjjaaGreatDoorAmLayoutPlaysRow3
namespace Go.Proofs.YtakdnfneikbjjaaGreatDoor.Am.Lay10
abbrev a58 : AFunc := LayA.a58
abbrev a34 : AFunc := LayA.a34
abbrev a15 : AFunc := LayA.a15
abbrev a55 : AFunc := LayA.a55
abbrev a25 : AFunc := LayA.a25
abbrev a60 : AFunc := LayA.a60
abbrev a28 : AFunc := LayA.a28
abbrev a36 : AFunc := LayA.a36
abbrev a57 : AFunc := LayA.a57
abbrev a80 : AFunc := LayA.a80
abbrev v80 : List Nat := LayA.v80
abbrev a56 : AFunc := LayA.a56
abbrev a59 : AFunc := LayA.a59
abbrev a27 : AFunc := LayA.a27
abbrev a81 : AFunc := LayA.a81
abbrev a35 : AFunc := LayA.a35
abbrev a62 : AFunc := LayA.a62
abbrev a37 : AFunc := LayA.a37
abbrev v37 : List Nat := LayA.v37
abbrev a13 : AFunc := LayA.a13
abbrev a26 : AFunc := LayA.a26
def p7 : Plan := ⟨[], 4, [((0, 0), hB 0),
 ((1, 0), hP),
 ((4, 1), hB 1),
 ((4, 2), hT 17),
 ((8, 1), hA),
 ((8, 3), hS 25),
 ((8, 4), hT2 24 26),
 ((8, 6), hT 27),
 ((9, 0), hA),
 ((9, 2), hS 29),
 ((9, 3), hS 31),
 ((10, 1), hP),
 ((16, 3), hB 2),
 ((17, 1), hB 3),
 ((19, 12), hP),
 ((21, 8), hP)],
 [[0, 3, 5, 6], [0, 3, 8, 45, 46, 47]]⟩
def a7 : AFunc := ⟨2, 114, 4, [.tmp 4],
 .seq (.region false [o_ 3 (.boxL 0 (.t 1)),
 o_ 4 (.mv (.c (.bool false)))])
 (.seq (.seq (.region false [o_ 12 (.callP 11 []),
 o_ 13 (.un .not (.t 12))])
 (.cond (.t 13)
 (.seq (.region false [o_ 4 (.mv (.c (.bool false)))])
 (.ret))
 (.skip)))
 (.seq (.region false [m_ 14 0,
 c_ 15 .and 14 15,
 o_ 16 (.bin .add (.c (.int .i64 1)) (.t 15)),
 m_ 0 16])
 (.seq (.region false [o_ 17 (.build [(.int .i64 0), (.int .i64 0), (.int .i64 0), (.str []), .nils, .nils] [(0, 1, (.c (.int .i64 4)))]),
 o_ 5 (.allocL 1 [(.int .i64 0), (.int .i64 0), (.int .i64 0), (.str []), .nils, .nils]),
 ⟨none, none, false, .store 6 (.t 5) (.u 17 .take), .none⟩])
 (.seq (.seq (.region false [i_ 6 0])
 (.block 0 (.loop [0, 3, 5, 6] (.seq (.seq (.region false [m_ 18 6,
 m_ 19 0,
 b_ 20 .lss 18 19])
 (.cond (.t 20)
 (.skip)
 (.exit 0)))
 (.seq (.block 1 (.region false [f_ 23 4 5,
 o_ 24 (.load false 1 (.t 23) .take),
 o_ 25 (.build [(.int .i64 0), (.int .i64 0), (.int .i64 0), (.str []), .nils, .nils] [(0, 1, (.c (.int .i64 1)))]),
 o_ 26 (.buildSlice 6 [(.int .i64 0), (.int .i64 0), (.int .i64 0), (.str []), .nils, .nils] 1 [(0, (.u 25 .share))]),
 o_ 27 (.append 6 (.u 24 .take) (.u 26 .take)),
 f_ 28 4 5,
 ⟨none, none, false, .store 1 (.t 28) (.u 27 .take), .none⟩]))
 (.region false [m_ 21 6,
 c_ 22 .add 21 1,
 m_ 6 22]))))))
 (.seq (.region false [o_ 29 (.load true 6 (.t 5) .take),
 o_ 30 (.load true 4 (.t 3) .copy),
 o_ 31 (.callF 13 [(.u 29 .share), (.t 30)]),
 o_ 7 (.mv (.u 31 .share))])
 (.seq (.region false [o_ 32 (.load true 4 (.t 3) .copy),
 o_ 33 (.callP 25 [(.t 32)]),
 ⟨none, none, false, .store 4 (.t 3) (.t 33), .none⟩])
 (.seq (.seq (.region false [m_ 34 7,
 o_ 35 (.lenSl (.t 34)),
 m_ 36 0,
 b_ 37 .neq 35 36])
 (.cond (.t 37)
 (.seq (.region false [o_ 4 (.mv (.c (.bool false)))])
 (.ret))
 (.skip)))
 (.seq (.region false [m_ 38 0,
 c_ 39 .sub 38 1,
 f_ 40 3 3,
 l_ 41 40,
 c_ 42 .sub 41 1,
 o_ 43 (.minMax true (.t 42) [(.c (.int .i64 0))]),
 o_ 44 (.minMax false (.t 39) [(.t 43)]),
 m_ 8 44])
 (.seq (.seq (.region false [m_ 45 7,
 o_ 46 (.lenSl (.t 45)),
 i_ 47 0])
 (.block 2 (.loop [0, 3, 8, 45, 46, 47] (.seq (.region false [b_ 48 .lss 47 46])
 (.seq (.cond (.t 48)
 (.skip)
 (.exit 2))
 (.seq (.block 3 (.seq (.region false [m_ 49 47,
 o_ 50 (.indexSl 7 (.t 45) (.t 47)),
 o_ 51 (.load true 7 (.t 50) .copy),
 o_ 10 (.allocL 2 [(.int .i64 0), (.int .i64 0), (.int .i64 0), (.int .i64 0), (.int .i64 0), (.int .i64 0), (.bool false)]),
 m_ 9 49,
 ⟨none, none, false, .store 7 (.t 10) (.t 51), .none⟩])
 (.seq (.region false [o_ 52 (.build [(.int .i64 0), (.int .i64 0), (.int .i64 0), (.int .i64 0)] []),
 o_ 11 (.allocL 3 [(.int .i64 0), (.int .i64 0), (.int .i64 0), (.int .i64 0)]),
 ⟨none, none, false, .store 4 (.t 11) (.t 52), .none⟩])
 (.seq (.block 4 (.seq (.region false [m_ 54 9,
 m_ 55 0,
 c_ 56 .sub 55 1,
 b_ 57 .eql 54 56,
 m_ 58 57,
 g_ 59 58 true (.fieldAddr 3 (.t 3)),
 g_ 60 58 true (.load false 1 (.t 59) .copy),
 g_ 61 58 true (.bin .gtr (.t 60) (.c (.int .i64 0))),
 o_ 62 (.pick (.t 58) (.t 61) (.c (.bool false))),
 m_ 53 62])
 (.cond (.t 53)
 (.region false [f_ 63 0 3,
 l_ 64 63,
 f_ 65 1 3,
 l_ 66 65,
 m_ 67 8,
 b_ 68 .add 66 67,
 f_ 69 2 3,
 l_ 70 69,
 f_ 71 3 3,
 l_ 72 71,
 m_ 73 8,
 b_ 74 .sub 72 73,
 o_ 75 (.callP 26 [(.t 64), (.t 68), (.t 70), (.t 74)]),
 ⟨none, none, false, .store 4 (.t 11) (.t 75), .none⟩])
 (.seq (.region false [m_ 77 9,
 m_ 78 8,
 b_ 79 .lss 77 78,
 m_ 76 79])
 (.cond (.t 76)
 (.region false [f_ 80 0 3,
 l_ 81 80,
 f_ 82 1 3,
 l_ 83 82,
 m_ 84 9,
 b_ 85 .add 83 84,
 f_ 86 2 3,
 l_ 87 86,
 o_ 88 (.callP 26 [(.t 81), (.t 85), (.t 87), (.c (.int .i64 1))]),
 ⟨none, none, false, .store 4 (.t 11) (.t 88), .none⟩])
 (.skip))))))
 (.seq (.region false [f_ 89 1 10,
 o_ 90 (.load true 4 (.t 89) .copy),
 o_ 91 (.load true 4 (.t 11) .copy),
 o_ 92 (.eq true (.plain [.int, .int, .int, .int]) (.t 90) (.t 91)),
 m_ 93 92,
 g_ 94 93 false (.fieldAddr 6 (.t 10)),
 g_ 95 93 false (.load false 1 (.t 94) .copy),
 g_ 96 93 false (.mv (.t 9)),
 g_ 97 93 false (.mv (.t 0)),
 g_ 98 93 false (.bin .sub (.t 97) (.c (.int .i64 1))),
 g_ 99 93 false (.bin .lss (.t 96) (.t 98)),
 g_ 100 93 false (.eq true .bool (.t 95) (.t 99)),
 o_ 101 (.pick (.t 93) (.c (.bool true)) (.t 100)),
 m_ 102 101,
 g_ 103 102 false (.fieldAddr 0 (.t 10)),
 g_ 104 102 false (.load false 1 (.t 103) .copy),
 g_ 105 102 false (.mv (.t 9)),
 g_ 106 102 false (.bin .neq (.t 104) (.t 105)),
 o_ 107 (.pick (.t 102) (.c (.bool true)) (.t 106)),
 m_ 108 107,
 g_ 109 108 false (.fieldAddr 5 (.t 10)),
 g_ 110 108 false (.load false 1 (.t 109) .copy),
 g_ 111 108 false (.bin .neq (.t 110) (.c (.int .i64 0))),
 o_ 112 (.pick (.t 108) (.c (.bool true)) (.t 111))])
 (.cond (.t 112)
 (.seq (.region false [o_ 4 (.mv (.c (.bool false)))])
 (.ret))
 (.skip)))))))
 (.region false [c_ 113 .add 47 1,
 m_ 47 113])))))))
 (.seq (.region false [o_ 4 (.mv (.c (.bool true)))])
 (.ret)))))))))))⟩
def b7 : List Nat := [0, 1, 2, 3]
theorem c7 : zaw Go.Proofs.Tryz.prog p7 7 = some a7 := by decide +kernel
def p8 : Plan := ⟨[42], 4, [((25, 14), hM 3),
 ((25, 12), { mark := .cool, pure := true }),
 ((25, 11), hM 0),
 ((25, 10), { mark := (.fa 0) }),
 ((25, 9), hF),
 ((25, 8), { mark := .cool }),
 ((25, 7), { mark := .cool }),
 ((25, 6), { mark := .cool }),
 ((25, 5), hM 0),
 ((25, 4), { mark := (.fa 0) }),
 ((25, 3), { mark := .cool }),
 ((25, 2), { mark := .cool }),
 ((25, 1), hM 0),
 ((25, 0), { mark := (.fa 0) }),
 ((0, 0), hB 0),
 ((1, 0), hP),
 ((3, 2), hT 20),
 ((8, 2), hB 1),
 ((9, 1), hA),
 ((9, 4), hS 32),
 ((9, 5), hT2 30 33),
 ((9, 7), hT 34),
 ((11, 0), { mode := .share }),
 ((11, 1), hS 37),
 ((12, 2), hS 40),
 ((12, 3), hK 42),
 ((13, 2), hS 45),
 ((13, 3), hS 47),
 ((14, 1), hP),
 ((18, 2), hU 57),
 ((18, 6), hS 59),
 ((24, 3), hB 2),
 ((25, 13), hB 3),
 ((27, 12), hP)],
 [[0, 1, 5, 7, 23, 24, 25], [1, 5, 11, 12, 14, 81, 82, 83]]⟩
def a8 : AFunc := ⟨3, 129, 4, [.tmp 6],
 .seq (.region false [o_ 5 (.boxL 0 (.t 2)),
 o_ 6 (.mv (.c (.bool false)))])
 (.seq (.seq (.region false [o_ 18 (.callP 11 []),
 o_ 19 (.un .not (.t 18))])
 (.cond (.t 19)
 (.seq (.region false [o_ 6 (.mv (.c (.bool false)))])
 (.ret))
 (.skip)))
 (.seq (.region false [o_ 20 (.build [(.int .i64 0), (.int .i64 0), (.int .i64 0), (.str []), .nils, .nils] [(0, 1, (.c (.int .i64 2)))]),
 o_ 7 (.allocM [(.int .i64 0), (.int .i64 0), (.int .i64 0), (.str []), .nils, .nils]),
 ⟨none, none, false, .store 6 (.t 7) (.u 20 .take), .none⟩])
 (.seq (.seq (.region false [m_ 21 1])
 (.cond (.t 21)
 (.region false [f_ 22 0 7,
 ⟨none, none, false, .store 1 (.t 22) (.c (.int .i64 3)), .none⟩])
 (.skip)))
 (.seq (.seq (.region false [m_ 23 0,
 o_ 24 (.lenSl (.t 23)),
 i_ 25 0])
 (.block 0 (.loop [0, 1, 5, 7, 23, 24, 25] (.seq (.region false [b_ 26 .lss 25 24])
 (.seq (.cond (.t 26)
 (.skip)
 (.exit 0))
 (.seq (.block 1 (.seq (.region false [o_ 27 (.indexSl 2 (.t 23) (.t 25)),
 o_ 28 (.load true 2 (.t 27) .copy),
 o_ 9 (.allocL 1 [(.int .i64 0), (.int .i64 0)]),
 ⟨none, none, false, .store 2 (.t 9) (.t 28), .none⟩])
 (.region false [f_ 29 4 7,
 o_ 30 (.load false 1 (.t 29) .take),
 o_ 31 (.load true 2 (.t 9) .copy),
 o_ 32 (.build [(.int .i64 0), (.int .i64 0), (.int .i64 0), (.str []), .nils, .nils] [(0, 1, (.c (.int .i64 1))), (1, 2, (.t 31))]),
 o_ 33 (.buildSlice 6 [(.int .i64 0), (.int .i64 0), (.int .i64 0), (.str []), .nils, .nils] 1 [(0, (.u 32 .share))]),
 o_ 34 (.append 6 (.u 30 .take) (.u 33 .take)),
 f_ 35 4 7,
 ⟨none, none, false, .store 1 (.t 35) (.u 34 .take), .none⟩])))
 (.region false [c_ 36 .add 25 1,
 m_ 25 36])))))))
 (.seq (.seq (.region false [o_ 37 (.load true 6 (.t 7) .share),
 o_ 38 (.callF 15 [(.u 37 .share)]),
 c_ 39 .neq 38 0])
 (.cond (.t 39)
 (.seq (.region false [o_ 40 (.load true 6 (.t 7) .copy),
 o_ 41 (.load true 4 (.t 5) .copy),
 ⟨(some 42), none, true, .callF 13 [(.u 40 .share), (.t 41)], .none⟩,
 o_ 43 (.lenSl (.u 42 .peek)),
 c_ 44 .eql 43 0,
 m_ 6 44])
 (.ret))
 (.skip)))
 (.seq (.region false [o_ 45 (.load true 6 (.t 7) .copy),
 o_ 46 (.load true 4 (.t 5) .copy),
 o_ 47 (.callF 13 [(.u 45 .share), (.t 46)]),
 o_ 10 (.mv (.u 47 .share))])
 (.seq (.region false [o_ 48 (.load true 4 (.t 5) .copy),
 o_ 49 (.callP 25 [(.t 48)]),
 ⟨none, none, false, .store 4 (.t 5) (.t 49), .none⟩])
 (.seq (.region false [f_ 50 2 5,
 l_ 51 50,
 m_ 11 51])
 (.seq (.seq (.region false [m_ 52 1])
 (.cond (.t 52)
 (.region false [f_ 53 3 5,
 l_ 54 53,
 m_ 11 54])
 (.skip)))
 (.seq (.region false [m_ 56 11,
 m_ 57 0,
 o_ 58 (.callP 27 [(.t 56), (.u 57 .share)]),
 m_ 55 58,
 o_ 59 (.extract (.t 55) 0),
 o_ 60 (.extract (.t 55) 1),
 o_ 12 (.mv (.u 59 .share)),
 m_ 13 60])
 (.seq (.seq (.region false [m_ 61 10,
 o_ 62 (.lenSl (.t 61)),
 m_ 63 0,
 o_ 64 (.lenSl (.t 63)),
 b_ 65 .neq 62 64,
 m_ 66 65,
 g_ 67 66 false (.mv (.t 13)),
 g_ 68 66 false (.bin .neq (.t 67) (.c (.int .i64 0))),
 o_ 69 (.pick (.t 66) (.c (.bool true)) (.t 68))])
 (.cond (.t 69)
 (.seq (.region false [m_ 70 10,
 o_ 71 (.lenSl (.t 70)),
 m_ 72 0,
 o_ 73 (.lenSl (.t 72)),
 b_ 74 .eql 71 73,
 m_ 75 74,
 g_ 76 75 true (.mv (.t 11)),
 g_ 77 75 true (.mv (.t 0)),
 g_ 78 75 true (.lenSl (.t 77)),
 g_ 79 75 true (.bin .lss (.t 76) (.t 78)),
 o_ 80 (.pick (.t 75) (.t 79) (.c (.bool false))),
 m_ 6 80])
 (.ret))
 (.skip)))
 (.seq (.region false [i_ 14 0])
 (.seq (.seq (.region false [m_ 81 10,
 o_ 82 (.lenSl (.t 81)),
 i_ 83 0])
 (.block 2 (.loop [1, 5, 11, 12, 14, 81, 82, 83] (.seq (.region false [b_ 84 .lss 83 82])
 (.seq (.cond (.t 84)
 (.skip)
 (.exit 2))
 (.seq (.block 3 (.seq (.region false [m_ 85 83,
 o_ 86 (.indexSl 7 (.t 81) (.t 83)),
 o_ 87 (.load true 7 (.t 86) .copy),
 o_ 16 (.allocL 2 [(.int .i64 0), (.int .i64 0), (.int .i64 0), (.int .i64 0), (.int .i64 0), (.int .i64 0), (.bool false)]),
 m_ 15 85,
 ⟨none, none, false, .store 7 (.t 16) (.t 87), .none⟩])
 (.seq (.region true [⟨(some 88), none, false, .fieldAddr 0 (.t 5), (.fa 0)⟩,
 ⟨(some 89), none, false, .load false 1 (.t 88) .copy, (.loc 0)⟩,
 ⟨(some 90), none, false, .mv (.t 14), .cool⟩,
 ⟨(some 91), none, false, .bin .add (.t 89) (.t 90), .cool⟩,
 ⟨(some 92), none, false, .fieldAddr 1 (.t 5), (.fa 0)⟩,
 ⟨(some 93), none, false, .load false 1 (.t 92) .copy, (.loc 0)⟩,
 ⟨(some 94), none, false, .mv (.t 12), .cool⟩,
 ⟨(some 95), none, false, .mv (.t 15), .cool⟩,
 ⟨(some 96), none, false, .indexSl 1 (.t 94) (.t 95), .cool⟩,
 ⟨(some 97), none, false, .load false 1 (.t 96) .copy, .free⟩,
 ⟨(some 98), none, false, .fieldAddr 3 (.t 5), (.fa 0)⟩,
 ⟨(some 99), none, false, .load false 1 (.t 98) .copy, (.loc 0)⟩,
 ⟨(some 100), none, false, .callP 26 [(.t 91), (.t 93), (.t 97), (.t 99)], .cool⟩,
 o_ 17 (.allocL 3 [(.int .i64 0), (.int .i64 0), (.int .i64 0), (.int .i64 0)]),
 ⟨none, none, false, .store 4 (.t 17) (.t 100), (.loc 3)⟩])
 (.seq (.seq (.region false [m_ 101 1])
 (.cond (.t 101)
 (.region true [f_ 102 0 5,
 l_ 103 102,
 f_ 104 1 5,
 l_ 105 104,
 m_ 106 14,
 b_ 107 .add 105 106,
 f_ 108 2 5,
 l_ 109 108,
 m_ 110 12,
 m_ 111 15,
 o_ 112 (.indexSl 1 (.t 110) (.t 111)),
 l_ 113 112,
 o_ 114 (.callP 26 [(.t 103), (.t 107), (.t 109), (.t 113)]),
 ⟨none, none, false, .store 4 (.t 17) (.t 114), .none⟩])
 (.skip)))
 (.seq (.seq (.region false [f_ 115 1 16,
 o_ 116 (.load true 4 (.t 115) .copy),
 o_ 117 (.load true 4 (.t 17) .copy),
 o_ 118 (.eq true (.plain [.int, .int, .int, .int]) (.t 116) (.t 117))])
 (.cond (.t 118)
 (.seq (.region false [o_ 6 (.mv (.c (.bool false)))])
 (.ret))
 (.skip)))
 (.region false [m_ 119 14,
 m_ 120 12,
 m_ 121 15,
 o_ 122 (.indexSl 1 (.t 120) (.t 121)),
 l_ 123 122,
 b_ 124 .add 119 123,
 m_ 14 124]))))))
 (.region false [c_ 125 .add 83 1,
 m_ 83 125])))))))
 (.seq (.region false [m_ 126 14,
 m_ 127 11,
 b_ 128 .eql 126 127,
 m_ 6 128])
 (.ret)))))))))))))))⟩
def b8 : List Nat := [0, 1, 2, 3]
theorem c8 : zaw Go.Proofs.Tryz.prog p8 8 = some a8 := by decide +kernel
def p9 : Plan := ⟨[], 2, [((12, 48), hF),
 ((12, 46), hF),
 ((12, 43), hF),
 ((12, 41), hF),
 ((12, 34), hF),
 ((12, 32), hF),
 ((12, 29), hG),
 ((12, 26), hF),
 ((12, 24), hF),
 ((12, 19), hG),
 ((12, 18), hF),
 ((12, 16), hF),
 ((12, 11), hG),
 ((12, 10), hF),
 ((12, 8), hF),
 ((12, 5), hG),
 ((12, 4), hF),
 ((12, 2), hF),
 ((6, 7), hG),
 ((6, 4), hM 1),
 ((6, 3), hM 0),
 ((6, 1), hM 1),
 ((6, 0), hM 0),
 ((0, 0), hB 0),
 ((0, 1), hB 1),
 ((1, 0), hP),
 ((3, 1), hP),
 ((6, 2), hS 61),
 ((6, 8), hS 64),
 ((6, 9), hS 63),
 ((6, 10), hS 69)],
 [[2, 3, 9, 10, 76, 77]]⟩
def a9 : AFunc := ⟨4, 132, 2, [.tmp 8],
 .seq (.region false [o_ 4 (.boxL 0 (.t 0)),
 o_ 5 (.boxL 1 (.t 1)),
 o_ 8 (.mv (.c (.bool false)))])
 (.seq (.seq (.region false [o_ 12 (.callP 11 []),
 o_ 13 (.un .not (.t 12))])
 (.cond (.t 13)
 (.seq (.region false [o_ 8 (.mv (.c (.bool false)))])
 (.ret))
 (.skip)))
 (.seq (.region false [o_ 14 (.load true 4 (.t 5) .copy),
 o_ 15 (.callP 25 [(.t 14)]),
 ⟨none, none, false, .store 4 (.t 5) (.t 15), .none⟩])
 (.seq (.seq (.region false [f_ 16 0 5,
 l_ 17 16,
 c_ 18 .lss 17 (-1000),
 m_ 19 18,
 g_ 20 19 false (.fieldAddr 0 (.t 5)),
 g_ 21 19 false (.load false 1 (.t 20) .copy),
 g_ 22 19 false (.bin .gtr (.t 21) (.c (.int .i64 1000))),
 o_ 23 (.pick (.t 19) (.c (.bool true)) (.t 22)),
 m_ 24 23,
 g_ 25 24 false (.fieldAddr 1 (.t 5)),
 g_ 26 24 false (.load false 1 (.t 25) .copy),
 g_ 27 24 false (.bin .lss (.t 26) (.c (.int .i64 (-1000)))),
 o_ 28 (.pick (.t 24) (.c (.bool true)) (.t 27)),
 m_ 29 28,
 g_ 30 29 false (.fieldAddr 1 (.t 5)),
 g_ 31 29 false (.load false 1 (.t 30) .copy),
 g_ 32 29 false (.bin .gtr (.t 31) (.c (.int .i64 1000))),
 o_ 33 (.pick (.t 29) (.c (.bool true)) (.t 32)),
 m_ 34 33,
 g_ 35 34 false (.mv (.t 2)),
 g_ 36 34 false (.bin .lss (.t 35) (.c (.int .i64 (-1000)))),
 o_ 37 (.pick (.t 34) (.c (.bool true)) (.t 36)),
 m_ 38 37,
 g_ 39 38 false (.mv (.t 2)),
 g_ 40 38 false (.bin .gtr (.t 39) (.c (.int .i64 1000))),
 o_ 41 (.pick (.t 38) (.c (.bool true)) (.t 40)),
 m_ 42 41,
 g_ 43 42 false (.mv (.t 3)),
 g_ 44 42 false (.bin .lss (.t 43) (.c (.int .i64 (-1000)))),
 o_ 45 (.pick (.t 42) (.c (.bool true)) (.t 44)),
 m_ 46 45,
 g_ 47 46 false (.mv (.t 3)),
 g_ 48 46 false (.bin .gtr (.t 47) (.c (.int .i64 1000))),
 o_ 49 (.pick (.t 46) (.c (.bool true)) (.t 48)),
 m_ 50 49,
 g_ 51 50 false (.fieldAddr 5 (.t 4)),
 g_ 52 50 false (.load false 1 (.t 51) .copy),
 g_ 53 50 false (.lenSl (.t 52)),
 g_ 54 50 false (.bin .gtr (.t 53) (.c (.int .i64 0))),
 o_ 55 (.pick (.t 50) (.c (.bool true)) (.t 54)),
 m_ 56 55,
 g_ 57 56 false (.fieldAddr 2 (.t 5)),
 g_ 58 56 false (.load false 1 (.t 57) .copy),
 g_ 59 56 false (.bin .eql (.t 58) (.c (.int .i64 0))),
 o_ 60 (.pick (.t 56) (.c (.bool true)) (.t 59))])
 (.cond (.t 60)
 (.seq (.region false [o_ 8 (.mv (.c (.bool true)))])
 (.ret))
 (.skip)))
 (.seq (.region true [⟨(some 61), none, false, .load true 6 (.t 4) .copy, (.loc 0)⟩,
 ⟨(some 62), none, false, .load true 4 (.t 5) .copy, (.loc 1)⟩,
 o_ 63 (.callF 13 [(.u 61 .share), (.t 62)]),
 ⟨(some 64), none, false, .load true 6 (.t 4) .copy, (.loc 0)⟩,
 ⟨(some 65), none, false, .load true 4 (.t 5) .copy, (.loc 1)⟩,
 m_ 66 2,
 m_ 67 3,
 ⟨(some 68), none, false, .callP 28 [(.t 65), (.t 66), (.t 67)], .free⟩,
 o_ 69 (.callF 13 [(.u 64 .share), (.t 68)]),
 o_ 9 (.mv (.u 63 .share)),
 o_ 10 (.mv (.u 69 .share))])
 (.seq (.seq (.region false [m_ 70 9,
 o_ 71 (.lenSl (.t 70)),
 m_ 72 10,
 o_ 73 (.lenSl (.t 72)),
 b_ 74 .neq 71 73])
 (.cond (.t 74)
 (.seq (.region false [o_ 8 (.mv (.c (.bool false)))])
 (.ret))
 (.skip)))
 (.seq (.seq (.region false [m_ 75 9,
 o_ 76 (.lenSl (.t 75)),
 i_ 77 0])
 (.block 0 (.loop [2, 3, 9, 10, 76, 77] (.seq (.region false [b_ 78 .lss 77 76])
 (.seq (.cond (.t 78)
 (.skip)
 (.exit 0))
 (.seq (.block 1 (.seq (.region false [m_ 79 77,
 m_ 11 79])
 (.seq (.region true [m_ 80 9,
 m_ 81 11,
 ⟨(some 82), none, false, .indexSl 7 (.t 80) (.t 81), .free⟩,
 f_ 83 1 82,
 ⟨(some 84), none, false, .load true 4 (.t 83) .copy, .free⟩,
 ⟨(some 85), none, false, .callP 29 [(.t 84)], .free⟩,
 m_ 86 10,
 m_ 87 11,
 ⟨(some 88), none, false, .indexSl 7 (.t 86) (.t 87), .free⟩,
 f_ 89 1 88,
 ⟨(some 90), none, false, .load true 4 (.t 89) .copy, .free⟩,
 ⟨(some 91), none, false, .callP 29 [(.t 90)], .free⟩,
 o_ 92 (.eq true .bool (.t 85) (.t 91)),
 m_ 93 92,
 g_ 94 93 false (.mv (.t 9)),
 g_ 95 93 false (.mv (.t 11)),
 ⟨(some 96), (some (93, false)), false, .indexSl 7 (.t 94) (.t 95), .free⟩,
 g_ 97 93 false (.fieldAddr 1 (.t 96)),
 ⟨(some 98), (some (93, false)), false, .load true 4 (.t 97) .copy, .free⟩,
 ⟨(some 99), (some (93, false)), false, .callP 29 [(.t 98)], .free⟩,
 g_ 100 93 false (.un .not (.t 99)),
 g_ 101 93 false (.mv (.t 100)),
 g_ 102 101 true (.mv (.t 9)),
 g_ 103 101 true (.mv (.t 11)),
 ⟨(some 104), (some (101, true)), false, .indexSl 7 (.t 102) (.t 103), .free⟩,
 g_ 105 101 true (.fieldAddr 1 (.t 104)),
 ⟨(some 106), (some (101, true)), false, .load true 4 (.t 105) .copy, .free⟩,
 g_ 107 101 true (.mv (.t 2)),
 g_ 108 101 true (.mv (.t 3)),
 ⟨(some 109), (some (101, true)), false, .callP 28 [(.t 106), (.t 107), (.t 108)], .free⟩,
 g_ 110 101 true (.mv (.t 10)),
 g_ 111 101 true (.mv (.t 11)),
 ⟨(some 112), (some (101, true)), false, .indexSl 7 (.t 110) (.t 111), .free⟩,
 g_ 113 101 true (.fieldAddr 1 (.t 112)),
 ⟨(some 114), (some (101, true)), false, .load true 4 (.t 113) .copy, .free⟩,
 g_ 115 101 true (.eq true (.plain [.int, .int, .int, .int]) (.t 109) (.t 114)),
 g_ 116 93 false (.pick (.t 101) (.t 115) (.c (.bool false))),
 o_ 117 (.pick (.t 93) (.c (.bool true)) (.t 116)),
 m_ 118 117,
 g_ 119 118 false (.mv (.t 9)),
 g_ 120 118 false (.mv (.t 11)),
 ⟨(some 121), (some (118, false)), false, .indexSl 7 (.t 119) (.t 120), .free⟩,
 g_ 122 118 false (.fieldAddr 6 (.t 121)),
 ⟨(some 123), (some (118, false)), false, .load false 1 (.t 122) .copy, .free⟩,
 g_ 124 118 false (.mv (.t 10)),
 g_ 125 118 false (.mv (.t 11)),
 ⟨(some 126), (some (118, false)), false, .indexSl 7 (.t 124) (.t 125), .free⟩,
 g_ 127 118 false (.fieldAddr 6 (.t 126)),
 ⟨(some 128), (some (118, false)), false, .load false 1 (.t 127) .copy, .free⟩,
 g_ 129 118 false (.eq true .bool (.t 123) (.t 128)),
 o_ 130 (.pick (.t 118) (.c (.bool true)) (.t 129))])
 (.cond (.t 130)
 (.seq (.region false [o_ 8 (.mv (.c (.bool false)))])
 (.ret))
 (.skip)))))
 (.region false [c_ 131 .add 77 1,
 m_ 77 131])))))))
 (.seq (.region false [o_ 8 (.mv (.c (.bool true)))])
 (.ret))))))))⟩
def v9 : List Nat := [0, 1, 2, 3, 4, 5, 8, 9, 10, 11, 13, 60, 74, 76, 77, 78, 130]
theorem c9 : zaw Go.Proofs.Tryz.prog p9 9 = some a9 := by decide +kernel
def p10 : Plan := ⟨[], 3, [((0, 0), hB 0),
 ((0, 1), hB 1),
 ((1, 0), hP),
 ((3, 2), hS 14),
 ((3, 3), hS 16),
 ((4, 1), hS 18),
 ((10, 3), hB 2),
 ((11, 8), hP),
 ((14, 3), hP),
 ((18, 7), hP),
 ((18, 8), hP),
 ((22, 4), hU 96),
 ((22, 10), hP)],
 [[3, 5, 6, 8, 28, 29, 30], [3, 5, 6, 8, 10, 28, 29, 30, 77, 78]]⟩
def a10 : AFunc := ⟨2, 106, 3, [.tmp 4],
 .seq (.region false [o_ 2 (.boxL 0 (.t 0)),
 o_ 3 (.boxL 1 (.t 1)),
 o_ 4 (.mv (.c (.bool false)))])
 (.seq (.seq (.region false [o_ 12 (.callP 11 []),
 o_ 13 (.un .not (.t 12))])
 (.cond (.t 13)
 (.seq (.region false [o_ 4 (.mv (.c (.bool false)))])
 (.ret))
 (.skip)))
 (.seq (.region false [o_ 14 (.load true 6 (.t 2) .copy),
 o_ 15 (.load true 4 (.t 3) .copy),
 o_ 16 (.callF 13 [(.u 14 .share), (.t 15)]),
 o_ 5 (.mv (.u 16 .share))])
 (.seq (.region false [o_ 18 (.load true 6 (.t 2) .copy),
 o_ 19 (.callF 12 [(.u 18 .share)]),
 m_ 17 19,
 o_ 20 (.extract (.t 17) 0),
 o_ 21 (.extract (.t 17) 1),
 m_ 6 20,
 m_ 7 21])
 (.seq (.seq (.region false [m_ 22 5,
 o_ 23 (.lenSl (.t 22)),
 m_ 24 6,
 m_ 25 7,
 b_ 26 .add 24 25,
 b_ 27 .neq 23 26])
 (.cond (.t 27)
 (.seq (.region false [o_ 4 (.mv (.c (.bool false)))])
 (.ret))
 (.skip)))
 (.seq (.region false [i_ 8 0])
 (.seq (.seq (.region false [m_ 28 5,
 o_ 29 (.lenSl (.t 28)),
 i_ 30 0])
 (.block 0 (.loop [3, 5, 6, 8, 28, 29, 30] (.seq (.region false [b_ 31 .lss 30 29])
 (.seq (.cond (.t 31)
 (.skip)
 (.exit 0))
 (.seq (.block 1 (.seq (.region false [m_ 32 30,
 o_ 33 (.indexSl 7 (.t 28) (.t 30)),
 o_ 34 (.load true 7 (.t 33) .copy),
 o_ 10 (.allocL 2 [(.int .i64 0), (.int .i64 0), (.int .i64 0), (.int .i64 0), (.int .i64 0), (.int .i64 0), (.bool false)]),
 m_ 9 32,
 ⟨none, none, false, .store 7 (.t 10) (.t 34), .none⟩])
 (.seq (.seq (.region false [f_ 35 0 10,
 l_ 36 35,
 m_ 37 9,
 b_ 38 .neq 36 37,
 m_ 39 38,
 g_ 40 39 false (.fieldAddr 1 (.t 10)),
 g_ 41 39 false (.load true 4 (.t 40) .copy),
 g_ 42 39 false (.load true 4 (.t 3) .copy),
 g_ 43 39 false (.callP 30 [(.t 41), (.t 42)]),
 g_ 44 39 false (.un .not (.t 43)),
 o_ 45 (.pick (.t 39) (.c (.bool true)) (.t 44)),
 m_ 46 45,
 g_ 47 46 false (.fieldAddr 5 (.t 10)),
 g_ 48 46 false (.load false 1 (.t 47) .copy),
 g_ 49 46 false (.bin .eql (.t 48) (.c (.int .i64 0))),
 g_ 50 46 false (.mv (.t 9)),
 g_ 51 46 false (.mv (.t 6)),
 g_ 52 46 false (.bin .lss (.t 50) (.t 51)),
 g_ 53 46 false (.eq true .bool (.t 49) (.t 52)),
 o_ 54 (.pick (.t 46) (.c (.bool true)) (.t 53)),
 m_ 55 54,
 g_ 56 55 false (.fieldAddr 5 (.t 10)),
 g_ 57 55 false (.load false 1 (.t 56) .copy),
 g_ 58 55 false (.bin .lss (.t 57) (.c (.int .i64 0))),
 o_ 59 (.pick (.t 55) (.c (.bool true)) (.t 58)),
 m_ 60 59,
 g_ 61 60 false (.fieldAddr 5 (.t 10)),
 g_ 62 60 false (.load false 1 (.t 61) .copy),
 g_ 63 60 false (.bin .gtr (.t 62) (.c (.int .i64 0))),
 g_ 64 60 false (.mv (.t 63)),
 g_ 65 64 true (.fieldAddr 6 (.t 10)),
 g_ 66 64 true (.load false 1 (.t 65) .copy),
 g_ 67 60 false (.pick (.t 64) (.t 66) (.c (.bool false))),
 o_ 68 (.pick (.t 60) (.c (.bool true)) (.t 67))])
 (.cond (.t 68)
 (.seq (.region false [o_ 4 (.mv (.c (.bool false)))])
 (.ret))
 (.skip)))
 (.seq (.seq (.region false [m_ 69 9,
 m_ 70 6,
 b_ 71 .geq 69 70])
 (.cond (.t 71)
 (.exit 1)
 (.skip)))
 (.seq (.region false [m_ 72 8,
 f_ 73 1 10,
 o_ 74 (.load true 4 (.t 73) .copy),
 o_ 75 (.callP 31 [(.t 74)]),
 b_ 76 .add 72 75,
 m_ 8 76])
 (.seq (.region false [m_ 77 9,
 i_ 78 0])
 (.block 2 (.loop [3, 5, 6, 8, 10, 28, 29, 30, 77, 78] (.seq (.region false [b_ 79 .lss 78 77])
 (.seq (.cond (.t 79)
 (.skip)
 (.exit 2))
 (.seq (.block 3 (.seq (.region false [m_ 80 78,
 m_ 11 80])
 (.seq (.region true [f_ 81 1 10,
 o_ 82 (.load true 4 (.t 81) .copy),
 m_ 83 5,
 m_ 84 11,
 o_ 85 (.indexSl 7 (.t 83) (.t 84)),
 f_ 86 1 85,
 o_ 87 (.load true 4 (.t 86) .copy),
 o_ 88 (.callP 32 [(.t 82), (.t 87)]),
 o_ 89 (.callP 29 [(.t 88)]),
 o_ 90 (.un .not (.t 89))])
 (.cond (.t 90)
 (.seq (.region false [o_ 4 (.mv (.c (.bool false)))])
 (.ret))
 (.skip)))))
 (.region false [c_ 91 .add 78 1,
 m_ 78 91]))))))))))))
 (.region false [c_ 92 .add 30 1,
 m_ 30 92])))))))
 (.seq (.region false [m_ 93 6,
 c_ 94 .eql 93 0,
 m_ 95 94,
 g_ 96 95 false (.mv (.t 5)),
 g_ 97 95 false (.callP 33 [(.u 96 .share)]),
 g_ 98 95 false (.un .not (.t 97)),
 o_ 99 (.pick (.t 95) (.c (.bool true)) (.t 98)),
 m_ 100 99,
 g_ 101 100 false (.mv (.t 8)),
 g_ 102 100 false (.load true 4 (.t 3) .copy),
 g_ 103 100 false (.callP 31 [(.t 102)]),
 g_ 104 100 false (.bin .eql (.t 101) (.t 103)),
 o_ 105 (.pick (.t 100) (.c (.bool true)) (.t 104)),
 m_ 4 105])
 (.ret))))))))⟩
theorem c10 : zaw Go.Proofs.Tryz.prog p10 10 = some a10 := by decide +kernel
abbrev a12 : AFunc := LayA.a12
def p29 : Plan := ⟨[], 1, [((0, 0), hB 0),
 ((1, 1), hP)],
 []⟩
def a29 : AFunc := ⟨1, 7, 1, [.tmp 2],
 .seq (.region false [o_ 1 (.boxL 0 (.t 0)),
 o_ 2 (.mv (.c (.bool false)))])
 (.seq (.region false [o_ 3 (.load true 4 (.t 1) .copy),
 o_ 4 (.callP 25 [(.t 3)]),
 o_ 5 (.field false 1 2 (.t 4)),
 c_ 6 .eql 5 0,
 m_ 2 6])
 (.ret))⟩
theorem c29 : zaw Go.Proofs.Tryz.prog p29 29 = some a29 := by decide +kernel
abbrev a61 : AFunc := LayA.a61
def p32 : Plan := ⟨[], 3, [((1, 5), hM 1),
 ((1, 4), hM 0),
 ((1, 3), hG),
 ((1, 2), hM 1),
 ((1, 1), hG),
 ((1, 0), hM 0),
 ((0, 0), hB 0),
 ((0, 1), hB 1),
 ((0, 2), hB 2),
 ((2, 32), hP)],
 []⟩
def a32 : AFunc := ⟨2, 42, 3, [.cell 4 true 4],
 .seq (.region false [o_ 2 (.boxL 0 (.t 0)),
 o_ 3 (.boxL 1 (.t 1)),
 o_ 4 (.allocL 2 [(.int .i64 0), (.int .i64 0), (.int .i64 0), (.int .i64 0)])])
 (.seq (.region true [⟨(some 5), none, false, .load true 4 (.t 2) .copy, (.loc 0)⟩,
 ⟨(some 6), none, false, .callP 25 [(.t 5)], .free⟩,
 ⟨(some 7), none, false, .load true 4 (.t 3) .copy, (.loc 1)⟩,
 ⟨(some 8), none, false, .callP 25 [(.t 7)], .free⟩,
 ⟨none, none, false, .store 4 (.t 2) (.t 6), (.loc 0)⟩,
 ⟨none, none, false, .store 4 (.t 3) (.t 8), (.loc 1)⟩])
 (.seq (.region false [f_ 9 0 2,
 l_ 10 9,
 f_ 11 0 3,
 l_ 12 11,
 o_ 13 (.minMax true (.t 10) [(.t 12)]),
 f_ 14 1 2,
 l_ 15 14,
 f_ 16 1 3,
 l_ 17 16,
 o_ 18 (.minMax true (.t 15) [(.t 17)]),
 f_ 19 0 2,
 l_ 20 19,
 f_ 21 2 2,
 l_ 22 21,
 b_ 23 .add 20 22,
 f_ 24 0 3,
 l_ 25 24,
 f_ 26 2 3,
 l_ 27 26,
 b_ 28 .add 25 27,
 o_ 29 (.minMax false (.t 23) [(.t 28)]),
 f_ 30 1 2,
 l_ 31 30,
 f_ 32 3 2,
 l_ 33 32,
 b_ 34 .add 31 33,
 f_ 35 1 3,
 l_ 36 35,
 f_ 37 3 3,
 l_ 38 37,
 b_ 39 .add 36 38,
 o_ 40 (.minMax false (.t 34) [(.t 39)]),
 o_ 41 (.callP 61 [(.t 13), (.t 18), (.t 29), (.t 40)]),
 ⟨none, none, false, .store 4 (.t 4) (.t 41), .none⟩])
 (.ret)))⟩
theorem c32 : zaw Go.Proofs.Tryz.prog p32 32 = some a32 := by decide +kernel
def p30 : Plan := ⟨[], 2, [((1, 4), hG),
 ((1, 3), hM 0),
 ((1, 2), hG),
 ((1, 1), hM 1),
 ((1, 0), hM 0),
 ((0, 0), hB 0),
 ((0, 1), hB 1)],
 []⟩
def a30 : AFunc := ⟨2, 11, 2, [.tmp 4],
 .seq (.region false [o_ 2 (.boxL 0 (.t 0)),
 o_ 3 (.boxL 1 (.t 1)),
 o_ 4 (.mv (.c (.bool false)))])
 (.seq (.region true [⟨(some 5), none, false, .load true 4 (.t 2) .copy, (.loc 0)⟩,
 ⟨(some 6), none, false, .load true 4 (.t 3) .copy, (.loc 1)⟩,
 ⟨(some 7), none, false, .callP 32 [(.t 5), (.t 6)], .free⟩,
 ⟨(some 8), none, false, .load true 4 (.t 2) .copy, (.loc 0)⟩,
 ⟨(some 9), none, false, .callP 25 [(.t 8)], .free⟩,
 o_ 10 (.eq false (.plain [.int, .int, .int, .int]) (.t 7) (.t 9)),
 m_ 4 10])
 (.ret))⟩
theorem c30 : zaw Go.Proofs.Tryz.prog p30 30 = some a30 := by decide +kernel
def p31 : Plan := ⟨[], 1, [((0, 0), hB 0),
 ((1, 1), hP)],
 []⟩
def a31 : AFunc := ⟨1, 10, 1, [.tmp 2],
 .seq (.region false [o_ 1 (.boxL 0 (.t 0)),
 i_ 2 0])
 (.seq (.region false [o_ 3 (.load true 4 (.t 1) .copy),
 o_ 4 (.callP 25 [(.t 3)]),
 ⟨none, none, false, .store 4 (.t 1) (.t 4), .none⟩])
 (.seq (.region false [f_ 5 2 1,
 l_ 6 5,
 f_ 7 3 1,
 l_ 8 7,
 b_ 9 .mul 6 8,
 m_ 2 9])
 (.ret)))⟩
theorem c31 : zaw Go.Proofs.Tryz.prog p31 31 = some a31 := by decide +kernel
def p33 : Plan := ⟨[], 1, [((3, 2), hB 0),
 ((4, 6), hP)],
 [[5, 6, 7]]⟩
def a33 : AFunc := ⟨1, 20, 1, [.tmp 2],
 .seq (.region false [o_ 2 (.mv (.c (.bool false)))])
 (.seq (.seq (.region false [m_ 5 0,
 o_ 6 (.lenSl (.t 5)),
 i_ 7 0])
 (.block 0 (.loop [5, 6, 7] (.seq (.region false [b_ 8 .lss 7 6])
 (.seq (.cond (.t 8)
 (.skip)
 (.exit 0))
 (.seq (.block 1 (.seq (.region false [o_ 9 (.indexSl 7 (.t 5) (.t 7)),
 o_ 10 (.load true 7 (.t 9) .copy),
 o_ 4 (.allocL 0 [(.int .i64 0), (.int .i64 0), (.int .i64 0), (.int .i64 0), (.int .i64 0), (.int .i64 0), (.bool false)]),
 ⟨none, none, false, .store 7 (.t 4) (.t 10), .none⟩])
 (.seq (.region false [f_ 11 5 4,
 l_ 12 11,
 c_ 13 .eql 12 0,
 m_ 14 13,
 g_ 15 14 true (.fieldAddr 1 (.t 4)),
 g_ 16 14 true (.load true 4 (.t 15) .copy),
 g_ 17 14 true (.callP 29 [(.t 16)]),
 o_ 18 (.pick (.t 14) (.t 17) (.c (.bool false)))])
 (.cond (.t 18)
 (.seq (.region false [o_ 2 (.mv (.c (.bool false)))])
 (.ret))
 (.skip)))))
 (.region false [c_ 19 .add 7 1,
 m_ 7 19])))))))
 (.seq (.region false [o_ 2 (.mv (.c (.bool true)))])
 (.ret)))⟩
theorem c33 : zaw Go.Proofs.Tryz.prog p33 33 = some a33 := by decide +kernel
abbrev a53 : AFunc := LayA.a53
abbrev v53 : List Nat := LayA.v53
abbrev a23 : AFunc := LayA.a23
def p64 : Plan := ⟨[], 0, [],
 []⟩
def a64 : AFunc := ⟨3, 16, 0, [.tmp 6],
 .seq (.region false [i_ 6 0])
 (.seq (.seq (.region false [m_ 7 0,
 m_ 8 1,
 b_ 9 .lss 7 8])
 (.cond (.t 9)
 (.seq (.region false [m_ 10 1,
 m_ 6 10])
 (.ret))
 (.skip)))
 (.seq (.seq (.region false [m_ 11 0,
 m_ 12 2,
 b_ 13 .gtr 11 12])
 (.cond (.t 13)
 (.seq (.region false [m_ 14 2,
 m_ 6 14])
 (.ret))
 (.skip)))
 (.seq (.region false [m_ 15 0,
 m_ 6 15])
 (.ret))))⟩
theorem c64 : zaw Go.Proofs.Tryz.prog p64 64 = some a64 := by decide +kernel
def p39 : Plan := ⟨[], 2, [((0, 0), hB 0),
 ((0, 1), hB 1),
 ((1, 2), hP),
 ((2, 2), hP),
 ((3, 2), hP),
 ((4, 2), hP)],
 []⟩
def a39 : AFunc := ⟨1, 43, 2, [.cell 2 true 4],
 .seq (.region false [o_ 1 (.boxL 0 (.t 0)),
 o_ 2 (.allocL 1 [(.int .i64 0), (.int .i64 0), (.int .i64 0), (.int .i64 0)])])
 (.seq (.region false [f_ 7 0 1,
 l_ 8 7,
 o_ 9 (.callP 64 [(.t 8), (.c (.int .i64 (-5000))), (.c (.int .i64 5000))]),
 m_ 3 9])
 (.seq (.region false [f_ 10 1 1,
 l_ 11 10,
 o_ 12 (.callP 64 [(.t 11), (.c (.int .i64 (-5000))), (.c (.int .i64 5000))]),
 m_ 4 12])
 (.seq (.region false [f_ 13 2 1,
 l_ 14 13,
 o_ 15 (.callP 64 [(.t 14), (.c (.int .i64 0)), (.c (.int .i64 200))]),
 m_ 5 15])
 (.seq (.region false [f_ 16 3 1,
 l_ 17 16,
 o_ 18 (.callP 64 [(.t 17), (.c (.int .i64 0)), (.c (.int .i64 200))]),
 m_ 6 18])
 (.seq (.seq (.region false [m_ 19 3,
 m_ 20 5,
 b_ 21 .add 19 20,
 c_ 22 .gtr 21 5000])
 (.cond (.t 22)
 (.region false [m_ 23 3,
 o_ 24 (.bin .sub (.c (.int .i64 5000)) (.t 23)),
 m_ 5 24])
 (.skip)))
 (.seq (.seq (.region false [m_ 25 4,
 m_ 26 6,
 b_ 27 .add 25 26,
 c_ 28 .gtr 27 5000])
 (.cond (.t 28)
 (.region false [m_ 29 4,
 o_ 30 (.bin .sub (.c (.int .i64 5000)) (.t 29)),
 m_ 6 30])
 (.skip)))
 (.seq (.seq (.region false [m_ 31 5,
 c_ 32 .eql 31 0,
 m_ 33 32,
 g_ 34 33 false (.mv (.t 6)),
 g_ 35 33 false (.bin .eql (.t 34) (.c (.int .i64 0))),
 o_ 36 (.pick (.t 33) (.c (.bool true)) (.t 35))])
 (.cond (.t 36)
 (.seq (.region false [o_ 37 (.build [(.int .i64 0), (.int .i64 0), (.int .i64 0), (.int .i64 0)] []),
 ⟨none, none, false, .store 4 (.t 2) (.t 37), .none⟩])
 (.ret))
 (.skip)))
 (.seq (.region false [m_ 38 3,
 m_ 39 4,
 m_ 40 5,
 m_ 41 6,
 o_ 42 (.build [(.int .i64 0), (.int .i64 0), (.int .i64 0), (.int .i64 0)] [(0, 1, (.t 38)), (1, 1, (.t 39)), (2, 1, (.t 40)), (3, 1, (.t 41))]),
 ⟨none, none, false, .store 4 (.t 2) (.t 42), .none⟩])
 (.ret)))))))))⟩
theorem c39 : zaw Go.Proofs.Tryz.prog p39 39 = some a39 := by decide +kernel
def p54 : Plan := ⟨[], 1, [((0, 0), hB 0)],
 []⟩
def a54 : AFunc := ⟨3, 35, 1, [.tmp 6],
 .seq (.region false [o_ 3 (.boxL 0 (.t 0)),
 o_ 6 (.mv (.c (.bool false)))])
 (.seq (.region false [m_ 7 1,
 f_ 8 0 3,
 l_ 9 8,
 b_ 10 .geq 7 9,
 m_ 11 10,
 g_ 12 11 true (.mv (.t 1)),
 g_ 13 11 true (.fieldAddr 0 (.t 3)),
 g_ 14 11 true (.load false 1 (.t 13) .copy),
 g_ 15 11 true (.fieldAddr 2 (.t 3)),
 g_ 16 11 true (.load false 1 (.t 15) .copy),
 g_ 17 11 true (.bin .add (.t 14) (.t 16)),
 g_ 18 11 true (.bin .lss (.t 12) (.t 17)),
 o_ 19 (.pick (.t 11) (.t 18) (.c (.bool false))),
 m_ 20 19,
 g_ 21 20 true (.mv (.t 2)),
 g_ 22 20 true (.fieldAddr 1 (.t 3)),
 g_ 23 20 true (.load false 1 (.t 22) .copy),
 g_ 24 20 true (.bin .geq (.t 21) (.t 23)),
 o_ 25 (.pick (.t 20) (.t 24) (.c (.bool false))),
 m_ 26 25,
 g_ 27 26 true (.mv (.t 2)),
 g_ 28 26 true (.fieldAddr 1 (.t 3)),
 g_ 29 26 true (.load false 1 (.t 28) .copy),
 g_ 30 26 true (.fieldAddr 3 (.t 3)),
 g_ 31 26 true (.load false 1 (.t 30) .copy),
 g_ 32 26 true (.bin .add (.t 29) (.t 31)),
 g_ 33 26 true (.bin .lss (.t 27) (.t 32)),
 o_ 34 (.pick (.t 26) (.t 33) (.c (.bool false))),
 m_ 6 34])
 (.ret))⟩
theorem c54 : zaw Go.Proofs.Tryz.prog p54 54 = some a54 := by decide +kernel
def p24 : Plan := ⟨[], 0, [((5, 5), hP),
 ((5, 8), hP)],
 [[0, 1, 2, 7, 8]]⟩
def a24 : AFunc := ⟨3, 53, 0, [.tmp 6],
 .seq (.region false [i_ 6 0])
 (.seq (.region false [i_ 7 (-1)])
 (.seq (.seq (.region false [i_ 8 0])
 (.block 0 (.loop [0, 1, 2, 7, 8] (.seq (.seq (.region false [m_ 9 8,
 m_ 10 0,
 o_ 11 (.lenSl (.t 10)),
 b_ 12 .lss 9 11,
 m_ 13 12,
 g_ 14 13 true (.mv (.t 8)),
 g_ 15 13 true (.bin .lss (.t 14) (.c (.int .i64 24))),
 o_ 16 (.pick (.t 13) (.t 15) (.c (.bool false)))])
 (.cond (.t 16)
 (.skip)
 (.exit 0)))
 (.seq (.block 1 (.seq (.region true [m_ 19 0,
 m_ 20 8,
 o_ 21 (.indexSl 7 (.t 19) (.t 20)),
 f_ 22 1 21,
 o_ 23 (.load true 4 (.t 22) .copy),
 o_ 24 (.callP 39 [(.t 23)]),
 m_ 25 1,
 m_ 26 2,
 o_ 27 (.callP 54 [(.t 24), (.t 25), (.t 26)]),
 m_ 28 27,
 g_ 29 28 true (.mv (.t 7)),
 g_ 30 28 true (.bin .lss (.t 29) (.c (.int .i64 0))),
 g_ 31 28 true (.mv (.t 30)),
 g_ 32 31 false (.mv (.t 0)),
 g_ 33 31 false (.mv (.t 8)),
 g_ 34 31 false (.indexSl 7 (.t 32) (.t 33)),
 g_ 35 31 false (.fieldAddr 5 (.t 34)),
 g_ 36 31 false (.load false 1 (.t 35) .copy),
 g_ 37 31 false (.mv (.t 0)),
 g_ 38 31 false (.mv (.t 7)),
 g_ 39 31 false (.indexSl 7 (.t 37) (.t 38)),
 g_ 40 31 false (.fieldAddr 5 (.t 39)),
 g_ 41 31 false (.load false 1 (.t 40) .copy),
 g_ 42 31 false (.bin .geq (.t 36) (.t 41)),
 g_ 43 28 true (.pick (.t 31) (.c (.bool true)) (.t 42)),
 o_ 44 (.pick (.t 28) (.t 43) (.c (.bool false)))])
 (.cond (.t 44)
 (.region false [m_ 45 8,
 m_ 7 45])
 (.skip))))
 (.region false [m_ 17 8,
 c_ 18 .add 17 1,
 m_ 8 18]))))))
 (.seq (.seq (.region false [m_ 46 7,
 c_ 47 .lss 46 0])
 (.cond (.t 47)
 (.seq (.region false [i_ 6 (-1)])
 (.ret))
 (.skip)))
 (.seq (.region false [m_ 48 0,
 m_ 49 7,
 o_ 50 (.indexSl 7 (.t 48) (.t 49)),
 f_ 51 0 50,
 l_ 52 51,
 m_ 6 52])
 (.ret)))))⟩
theorem c24 : zaw Go.Proofs.Tryz.prog p24 24 = some a24 := by decide +kernel
def p6 : Plan := ⟨[], 0, [((1, 0), hP),
 ((3, 3), hU 9),
 ((3, 7), hU 13)],
 []⟩
def a6 : AFunc := ⟨3, 18, 0, [.tmp 6],
 .seq (.region false [o_ 6 (.mv (.c (.bool false)))])
 (.seq (.seq (.region false [o_ 7 (.callP 11 []),
 o_ 8 (.un .not (.t 7))])
 (.cond (.t 8)
 (.seq (.region false [o_ 6 (.mv (.c (.bool false)))])
 (.ret))
 (.skip)))
 (.seq (.region false [m_ 9 0,
 m_ 10 1,
 m_ 11 2,
 o_ 12 (.callP 23 [(.u 9 .share), (.t 10), (.t 11)]),
 m_ 13 0,
 m_ 14 1,
 m_ 15 2,
 o_ 16 (.callP 24 [(.u 13 .share), (.t 14), (.t 15)]),
 b_ 17 .eql 12 16,
 m_ 6 17])
 (.ret)))⟩
def b6 : List Nat := []
theorem c6 : zaw Go.Proofs.Tryz.prog p6 6 = some a6 := by decide +kernel
def p3 : Plan := ⟨[7], 2, [((0, 0), hB 0),
 ((0, 1), hB 1),
 ((1, 0), hP),
 ((3, 1), hS 13),
 ((4, 2), hS 17),
 ((4, 3), hT 19),
 ((5, 1), hS 20),
 ((6, 1), hS 23),
 ((6, 12), hK 7),
 ((7, 2), hS 39),
 ((7, 3), hS 41),
 ((8, 1), hS 42),
 ((8, 6), hS 47),
 ((8, 17), hK 7),
 ((8, 19), { lend := true, pure := true }),
 ((10, 0), hK 7),
 ((13, 0), hK 7),
 ((15, 2), hS 74),
 ((15, 4), { uses := [(76, .share), (77, .share)], pure := true })],
 [[2, 3, 7, 8, 65, 66]]⟩
def a3 : AFunc := ⟨2, 79, 2, [.tmp 4],
 .seq (.region false [o_ 2 (.boxL 0 (.t 0)),
 o_ 3 (.boxL 1 (.t 1)),
 o_ 4 (.mv (.c (.bool false)))])
 (.seq (.seq (.region false [o_ 10 (.callP 11 []),
 o_ 11 (.un .not (.t 10))])
 (.cond (.t 11)
 (.seq (.region false [o_ 4 (.mv (.c (.bool false)))])
 (.ret))
 (.skip)))
 (.seq (.region false [o_ 13 (.load true 6 (.t 2) .copy),
 o_ 14 (.callF 12 [(.u 13 .share)]),
 m_ 12 14,
 o_ 15 (.extract (.t 12) 0),
 o_ 16 (.extract (.t 12) 1),
 m_ 5 15,
 m_ 6 16])
 (.seq (.region false [o_ 17 (.load true 6 (.t 2) .copy),
 o_ 18 (.load true 4 (.t 3) .copy),
 o_ 19 (.callF 13 [(.u 17 .share), (.t 18)]),
 k_ 7 19])
 (.seq (.seq (.region false [o_ 20 (.load true 6 (.t 2) .copy),
 o_ 21 (.callF 14 [(.u 20 .share)]),
 o_ 22 (.un .not (.t 21))])
 (.cond (.t 22)
 (.seq (.region false [o_ 23 (.load true 6 (.t 2) .copy),
 o_ 24 (.callF 15 [(.u 23 .share)]),
 c_ 25 .eql 24 100,
 m_ 26 25,
 g_ 27 26 true (.mv (.t 5)),
 g_ 28 26 true (.bin .eql (.t 27) (.c (.int .i64 0))),
 o_ 29 (.pick (.t 26) (.t 28) (.c (.bool false))),
 m_ 30 29,
 g_ 31 30 true (.mv (.t 6)),
 g_ 32 30 true (.bin .eql (.t 31) (.c (.int .i64 0))),
 o_ 33 (.pick (.t 30) (.t 32) (.c (.bool false))),
 m_ 34 33,
 g_ 35 34 true (.mv (.u 7 .peek)),
 g_ 36 34 true (.lenSl (.t 35)),
 g_ 37 34 true (.bin .eql (.t 36) (.c (.int .i64 0))),
 o_ 38 (.pick (.t 34) (.t 37) (.c (.bool false))),
 m_ 4 38])
 (.ret))
 (.skip)))
 (.seq (.region false [o_ 39 (.load true 6 (.t 2) .copy),
 o_ 40 (.load true 4 (.t 3) .copy),
 o_ 41 (.callF 16 [(.u 39 .share), (.t 40)]),
 o_ 8 (.mv (.u 41 .share))])
 (.seq (.seq (.region false [o_ 42 (.load true 6 (.t 2) .copy),
 o_ 43 (.callF 15 [(.u 42 .share)]),
 c_ 44 .neq 43 0,
 m_ 45 44,
 g_ 46 45 false (.mv (.t 5)),
 g_ 47 45 false (.load true 6 (.t 2) .copy),
 g_ 48 45 false (.callF 17 [(.u 47 .share)]),
 g_ 49 45 false (.bin .neq (.t 46) (.t 48)),
 o_ 50 (.pick (.t 45) (.c (.bool true)) (.t 49)),
 m_ 51 50,
 g_ 52 51 false (.mv (.t 6)),
 g_ 53 51 false (.fieldAddr 5 (.t 2)),
 g_ 54 51 false (.load false 1 (.t 53) .copy),
 g_ 55 51 false (.lenSl (.t 54)),
 g_ 56 51 false (.bin .neq (.t 52) (.t 55)),
 o_ 57 (.pick (.t 51) (.c (.bool true)) (.t 56)),
 m_ 58 57,
 g_ 59 58 false (.mv (.u 7 .peek)),
 g_ 60 58 false (.mv (.t 8)),
 g_ 61 58 false (.callL 18 [(.t 59), (.t 60)]),
 g_ 62 58 false (.un .not (.t 61)),
 o_ 63 (.pick (.t 58) (.c (.bool true)) (.t 62))])
 (.cond (.t 63)
 (.seq (.region false [o_ 4 (.mv (.c (.bool false)))])
 (.ret))
 (.skip)))
 (.seq (.seq (.region false [o_ 64 (.mv (.u 7 .peek)),
 o_ 65 (.lenSl (.t 64)),
 i_ 66 0])
 (.block 0 (.loop [2, 3, 7, 8, 65, 66] (.seq (.region false [b_ 67 .lss 66 65])
 (.seq (.cond (.t 67)
 (.skip)
 (.exit 0))
 (.seq (.block 1 (.seq (.region false [m_ 68 66,
 m_ 9 68])
 (.region false [o_ 69 (.mv (.u 7 .peek)),
 m_ 70 9,
 o_ 71 (.indexSl 7 (.t 69) (.t 70)),
 f_ 72 0 71,
 ⟨none, none, false, .store 1 (.t 72) (.c (.int .i64 77)), .none⟩])))
 (.region false [c_ 73 .add 66 1,
 m_ 66 73])))))))
 (.seq (.region false [o_ 74 (.load true 6 (.t 2) .copy),
 o_ 75 (.load true 4 (.t 3) .copy),
 o_ 76 (.callF 13 [(.u 74 .share), (.t 75)]),
 m_ 77 8,
 o_ 78 (.callP 18 [(.u 76 .share), (.u 77 .share)]),
 m_ 4 78])
 (.ret)))))))))⟩
def v3 : List Nat := [0, 1, 2, 3, 4, 5, 6, 7, 8, 9, 11, 22, 63, 65, 66, 67]
def b3 : List Nat := [0, 1]
theorem c3 : zaw Go.Proofs.Tryz.prog p3 3 = some a3 := by decide +kernel
def p14 : Plan := ⟨[], 1, [((1, 9), hF),
 ((1, 8), hM 0),
 ((1, 5), hM 0),
 ((1, 2), hF),
 ((1, 1), hM 0),
 ((0, 0), hB 0),
 ((1, 6), hS 8)],
 []⟩
def a14 : AFunc := ⟨1, 16, 1, [.tmp 2],
 .seq (.region false [o_ 1 (.boxL 0 (.t 0)),
 o_ 2 (.mv (.c (.bool false)))])
 (.seq (.region true [f_ 3 5 1,
 ⟨(some 4), none, false, .load false 1 (.t 3) .copy, (.loc 0)⟩,
 ⟨(some 5), none, false, .lenSl (.t 4), .free⟩,
 c_ 6 .leq 5 24,
 m_ 7 6,
 ⟨(some 8), (some (7, true)), false, .load true 6 (.t 1) .copy, (.loc 0)⟩,
 g_ 9 7 true (.callF 38 [(.u 8 .share), (.c (.int .i64 1))]),
 g_ 10 7 true (.fieldAddr 5 (.t 1)),
 ⟨(some 11), (some (7, true)), false, .load false 1 (.t 10) .copy, (.loc 0)⟩,
 ⟨(some 12), (some (7, true)), false, .lenSl (.t 11), .free⟩,
 g_ 13 7 true (.bin .add (.t 9) (.t 12)),
 g_ 14 7 true (.bin .leq (.t 13) (.c (.int .i64 24))),
 o_ 15 (.pick (.t 7) (.t 14) (.c (.bool false))),
 m_ 2 15])
 (.ret))⟩
theorem c14 : zaw Go.Proofs.Tryz.prog p14 14 = some a14 := by decide +kernel
def p16 : Plan := ⟨[], 3, [((6, 12), hM 2),
 ((6, 10), { mark := .cool, pure := true }),
 ((6, 9), hM 1),
 ((6, 8), { mark := (.fa 1) }),
 ((6, 7), hM 1),
 ((6, 6), { mark := (.fa 1) }),
 ((6, 5), { mark := .cool, pure := true }),
 ((6, 4), hF),
 ((6, 3), { mark := .cool }),
 ((6, 2), { mark := .cool }),
 ((6, 1), hM 0),
 ((6, 0), { mark := (.fa 0) }),
 ((0, 0), hB 0),
 ((0, 1), hB 1),
 ((1, 1), hP),
 ((2, 2), hS 10),
 ((2, 3), hS 12),
 ((6, 11), hB 2),
 ((7, 5), hP),
 ((9, 3), hP),
 ((9, 6), hU 40),
 ((9, 7), hS 46),
 ((10, 1), hT 47)],
 [[2, 3, 5, 6]]⟩
def a16 : AFunc := ⟨2, 48, 3, [.tmp 4],
 .seq (.region false [o_ 2 (.boxL 0 (.t 0)),
 o_ 3 (.boxL 1 (.t 1)),
 o_ 4 (.mv (.c .nils))])
 (.seq (.region false [o_ 8 (.load true 4 (.t 3) .copy),
 o_ 9 (.callP 39 [(.t 8)]),
 ⟨none, none, false, .store 4 (.t 3) (.t 9), .none⟩])
 (.seq (.region false [o_ 10 (.load true 6 (.t 2) .copy),
 o_ 11 (.load true 4 (.t 3) .copy),
 o_ 12 (.callF 40 [(.c .nils), (.u 10 .share), (.t 11)]),
 o_ 5 (.mv (.u 12 .share))])
 (.seq (.seq (.region false [i_ 6 0])
 (.block 0 (.loop [2, 3, 5, 6] (.seq (.seq (.region false [m_ 13 6,
 f_ 14 5 2,
 l_ 15 14,
 o_ 16 (.lenSl (.t 15)),
 b_ 17 .lss 13 16])
 (.cond (.t 17)
 (.skip)
 (.exit 0)))
 (.seq (.block 1 (.seq (.region true [⟨(some 20), none, false, .fieldAddr 5 (.t 2), (.fa 0)⟩,
 ⟨(some 21), none, false, .load false 1 (.t 20) .copy, (.loc 0)⟩,
 ⟨(some 22), none, false, .mv (.t 6), .cool⟩,
 ⟨(some 23), none, false, .indexSl 4 (.t 21) (.t 22), .cool⟩,
 ⟨(some 24), none, false, .load true 4 (.t 23) .copy, .free⟩,
 ⟨(some 25), none, false, .callP 39 [(.t 24)], .cool⟩,
 ⟨(some 26), none, false, .fieldAddr 0 (.t 3), (.fa 1)⟩,
 ⟨(some 27), none, false, .load false 1 (.t 26) .copy, (.loc 1)⟩,
 ⟨(some 28), none, false, .fieldAddr 1 (.t 3), (.fa 1)⟩,
 ⟨(some 29), none, false, .load false 1 (.t 28) .copy, (.loc 1)⟩,
 ⟨(some 30), none, false, .callP 41 [(.t 25), (.t 27), (.t 29)], .cool⟩,
 o_ 7 (.allocL 2 [(.int .i64 0), (.int .i64 0), (.int .i64 0), (.int .i64 0)]),
 ⟨none, none, false, .store 4 (.t 7) (.t 30), (.loc 2)⟩])
 (.seq (.seq (.region false [f_ 31 5 2,
 l_ 32 31,
 m_ 33 6,
 o_ 34 (.indexSl 4 (.t 32) (.t 33)),
 o_ 35 (.load true 4 (.t 34) .copy),
 o_ 36 (.callP 39 [(.t 35)]),
 o_ 37 (.field false 1 2 (.t 36)),
 c_ 38 .eql 37 0])
 (.cond (.t 38)
 (.region false [o_ 39 (.build [(.int .i64 0), (.int .i64 0), (.int .i64 0), (.int .i64 0)] []),
 ⟨none, none, false, .store 4 (.t 7) (.t 39), .none⟩])
 (.skip)))
 (.region false [m_ 40 5,
 o_ 41 (.load true 4 (.t 7) .copy),
 o_ 42 (.load true 4 (.t 3) .copy),
 o_ 43 (.callP 43 [(.t 41), (.t 42)]),
 m_ 44 6,
 c_ 45 .add 44 1,
 o_ 46 (.callP 42 [(.u 40 .share), (.t 43), (.t 45), (.c (.bool false))]),
 o_ 5 (.mv (.u 46 .share))]))))
 (.region false [m_ 18 6,
 c_ 19 .add 18 1,
 m_ 6 19]))))))
 (.seq (.region false [m_ 47 5,
 o_ 4 (.mv (.u 47 .take))])
 (.ret)))))⟩
theorem c16 : zaw Go.Proofs.Tryz.prog p16 16 = some a16 := by decide +kernel
def p17 : Plan := ⟨[], 1, [((0, 0), hB 0),
 ((1, 1), hS 3)],
 []⟩
def a17 : AFunc := ⟨1, 5, 1, [.tmp 2],
 .seq (.region false [o_ 1 (.boxL 0 (.t 0)),
 i_ 2 0])
 (.seq (.region false [o_ 3 (.load true 6 (.t 1) .copy),
 o_ 4 (.callF 38 [(.u 3 .share), (.c (.int .i64 1))]),
 m_ 2 4])
 (.ret))⟩
theorem c17 : zaw Go.Proofs.Tryz.prog p17 17 = some a17 := by decide +kernel
def p18 : Plan := ⟨[], 0, [],
 [[0, 1, 5]]⟩
def a18 : AFunc := ⟨2, 26, 0, [.tmp 4],
 .seq (.region false [o_ 4 (.mv (.c (.bool false)))])
 (.seq (.seq (.region false [m_ 6 0,
 o_ 7 (.lenSl (.t 6)),
 m_ 8 1,
 o_ 9 (.lenSl (.t 8)),
 b_ 10 .neq 7 9])
 (.cond (.t 10)
 (.seq (.region false [o_ 4 (.mv (.c (.bool false)))])
 (.ret))
 (.skip)))
 (.seq (.seq (.region false [i_ 5 0])
 (.block 0 (.loop [0, 1, 5] (.seq (.seq (.region false [m_ 11 5,
 m_ 12 0,
 o_ 13 (.lenSl (.t 12)),
 b_ 14 .lss 11 13])
 (.cond (.t 14)
 (.skip)
 (.exit 0)))
 (.seq (.block 1 (.seq (.region true [m_ 17 0,
 m_ 18 5,
 o_ 19 (.indexSl 7 (.t 17) (.t 18)),
 o_ 20 (.load true 7 (.t 19) .copy),
 m_ 21 1,
 m_ 22 5,
 o_ 23 (.indexSl 7 (.t 21) (.t 22)),
 o_ 24 (.load true 7 (.t 23) .copy),
 o_ 25 (.eq true (.plain [.int, .int, .int, .int, .int, .int, .bool]) (.t 20) (.t 24))])
 (.cond (.t 25)
 (.seq (.region false [o_ 4 (.mv (.c (.bool false)))])
 (.ret))
 (.skip))))
 (.region false [m_ 15 5,
 c_ 16 .add 15 1,
 m_ 5 16]))))))
 (.seq (.region false [o_ 4 (.mv (.c (.bool true)))])
 (.ret))))⟩
theorem c18 : zaw Go.Proofs.Tryz.prog p18 18 = some a18 := by decide +kernel
def p38 : Plan := ⟨[], 1, [((0, 0), hB 0),
 ((1, 5), hP),
 ((5, 10), hL),
 ((5, 16), hL),
 ((9, 2), hL),
 ((11, 5), hL),
 ((13, 2), hL),
 ((13, 8), hS 66)],
 [[1, 2, 5, 6]]⟩
def a38 : AFunc := ⟨2, 72, 1, [.tmp 4],
 .seq (.region false [o_ 2 (.boxL 0 (.t 0)),
 i_ 4 0])
 (.seq (.seq (.region false [m_ 7 1,
 c_ 8 .gtr 7 12,
 m_ 9 8,
 g_ 10 9 false (.fieldAddr 1 (.t 2)),
 g_ 11 9 false (.load true 2 (.t 10) .copy),
 g_ 12 9 false (.callP 63 [(.t 11)]),
 g_ 13 9 false (.un .not (.t 12)),
 o_ 14 (.pick (.t 9) (.c (.bool true)) (.t 13))])
 (.cond (.t 14)
 (.seq (.region false [i_ 4 25])
 (.ret))
 (.skip)))
 (.seq (.seq (.region false [f_ 15 0 2,
 l_ 16 15,
 c_ 17 .eql 16 1])
 (.cond (.t 17)
 (.seq (.region false [i_ 4 1])
 (.ret))
 (.skip)))
 (.seq (.seq (.region false [f_ 18 0 2,
 l_ 19 18,
 c_ 20 .lss 19 2,
 m_ 21 20,
 g_ 22 21 false (.fieldAddr 0 (.t 2)),
 g_ 23 21 false (.load false 1 (.t 22) .copy),
 g_ 24 21 false (.bin .gtr (.t 23) (.c (.int .i64 4))),
 o_ 25 (.pick (.t 21) (.c (.bool true)) (.t 24)),
 m_ 26 25,
 g_ 27 26 false (.fieldAddr 4 (.t 2)),
 g_ 28 26 false (.load false 1 (.t 27) .peek),
 g_ 29 26 false (.lenSl (.t 28)),
 g_ 30 26 false (.bin .lss (.t 29) (.c (.int .i64 1))),
 o_ 31 (.pick (.t 26) (.c (.bool true)) (.t 30)),
 m_ 32 31,
 g_ 33 32 false (.fieldAddr 4 (.t 2)),
 g_ 34 32 false (.load false 1 (.t 33) .peek),
 g_ 35 32 false (.lenSl (.t 34)),
 g_ 36 32 false (.bin .gtr (.t 35) (.c (.int .i64 16))),
 o_ 37 (.pick (.t 32) (.c (.bool true)) (.t 36))])
 (.cond (.t 37)
 (.seq (.region false [i_ 4 25])
 (.ret))
 (.skip)))
 (.seq (.region false [i_ 5 0])
 (.seq (.seq (.region false [i_ 6 0])
 (.block 0 (.loop [1, 2, 5, 6] (.seq (.seq (.region false [m_ 38 6,
 f_ 39 4 2,
 o_ 40 (.load false 1 (.t 39) .peek),
 o_ 41 (.lenSl (.t 40)),
 b_ 42 .lss 38 41,
 m_ 43 42,
 g_ 44 43 true (.mv (.t 5)),
 g_ 45 43 true (.bin .leq (.t 44) (.c (.int .i64 24))),
 o_ 46 (.pick (.t 43) (.t 45) (.c (.bool false)))])
 (.cond (.t 46)
 (.skip)
 (.exit 0)))
 (.seq (.block 1 (.seq (.seq (.region false [f_ 49 0 2,
 l_ 50 49,
 c_ 51 .eql 50 4,
 m_ 52 51,
 g_ 53 52 true (.fieldAddr 4 (.t 2)),
 g_ 54 52 true (.load false 1 (.t 53) .peek),
 g_ 55 52 true (.mv (.t 6)),
 g_ 56 52 true (.indexSl 6 (.t 54) (.t 55)),
 g_ 57 52 true (.fieldAddr 0 (.t 56)),
 g_ 58 52 true (.load false 1 (.t 57) .copy),
 g_ 59 52 true (.bin .neq (.t 58) (.c (.int .i64 1))),
 o_ 60 (.pick (.t 52) (.t 59) (.c (.bool false)))])
 (.cond (.t 60)
 (.seq (.region false [i_ 4 25])
 (.ret))
 (.skip)))
 (.region false [m_ 61 5,
 f_ 62 4 2,
 o_ 63 (.load false 1 (.t 62) .peek),
 m_ 64 6,
 o_ 65 (.indexSl 6 (.t 63) (.t 64)),
 o_ 66 (.load true 6 (.t 65) .copy),
 m_ 67 1,
 c_ 68 .add 67 1,
 o_ 69 (.callF 38 [(.u 66 .share), (.t 68)]),
 b_ 70 .add 61 69,
 m_ 5 70])))
 (.region false [m_ 47 6,
 c_ 48 .add 47 1,
 m_ 6 48]))))))
 (.seq (.region false [m_ 71 5,
 m_ 4 71])
 (.ret)))))))⟩
theorem c38 : zaw Go.Proofs.Tryz.prog p38 38 = some a38 := by decide +kernel
def p40 : Plan := ⟨[], 2, [((0, 0), hB 0),
 ((0, 1), hB 1),
 ((2, 2), hU 20),
 ((2, 3), hS 22),
 ((3, 1), hL),
 ((9, 8), hU 38),
 ((9, 9), hS 46),
 ((11, 2), hU 58),
 ((11, 3), hS 60),
 ((12, 2), hU 61),
 ((12, 3), hS 63),
 ((13, 1), hT 64),
 ((14, 1), hT 65),
 ((18, 0), hT 9),
 ((18, 2), hL),
 ((18, 8), hT2 71 78),
 ((18, 9), hT 79),
 ((19, 0), hT 10),
 ((19, 2), hT2 80 81),
 ((19, 3), hT 82),
 ((23, 1), hT 9),
 ((23, 2), hU 92),
 ((23, 6), hS 94),
 ((25, 0), hT 10),
 ((25, 1), hS 98),
 ((26, 5), hU 100),
 ((26, 6), hS 104),
 ((30, 2), hL),
 ((30, 10), { uses := [(110, .share), (115, .share)] }),
 ((30, 11), hS 120),
 ((31, 1), hT 121)],
 [[0, 5, 7, 8], [0, 4, 5, 7, 9, 10, 11], [0, 4, 7, 15, 16]]⟩
def a40 : AFunc := ⟨3, 122, 2, [.tmp 6],
 .seq (.region false [o_ 4 (.boxL 0 (.t 1)),
 o_ 5 (.boxL 1 (.t 2)),
 o_ 6 (.mv (.c .nils))])
 (.seq (.seq (.region false [f_ 17 0 4,
 l_ 18 17,
 c_ 19 .eql 18 1])
 (.cond (.t 19)
 (.seq (.region false [m_ 20 0,
 o_ 21 (.load true 4 (.t 5) .copy),
 o_ 22 (.callP 42 [(.u 20 .share), (.t 21), (.c (.int .i64 0)), (.c (.bool false))]),
 o_ 6 (.mv (.u 22 .share))])
 (.ret))
 (.skip)))
 (.seq (.region false [f_ 23 4 4,
 o_ 24 (.load false 1 (.t 23) .peek),
 o_ 25 (.lenSl (.t 24)),
 m_ 7 25])
 (.seq (.seq (.region false [f_ 26 0 4,
 l_ 27 26,
 c_ 28 .eql 27 4])
 (.cond (.t 28)
 (.seq (.seq (.region false [i_ 8 0])
 (.block 0 (.loop [0, 5, 7, 8] (.seq (.seq (.region false [m_ 29 8,
 m_ 30 7,
 c_ 31 .sub 30 1,
 b_ 32 .lss 29 31])
 (.cond (.t 32)
 (.skip)
 (.exit 0)))
 (.seq (.block 1 (.seq (.region false [f_ 35 3 5,
 l_ 36 35,
 c_ 37 .gtr 36 1])
 (.cond (.t 37)
 (.seq (.region false [m_ 38 0,
 f_ 39 0 5,
 l_ 40 39,
 f_ 41 1 5,
 l_ 42 41,
 f_ 43 2 5,
 l_ 44 43,
 o_ 45 (.build [(.int .i64 0), (.int .i64 0), (.int .i64 0), (.int .i64 0)] [(0, 1, (.t 40)), (1, 1, (.t 42)), (2, 1, (.t 44)), (3, 1, (.c (.int .i64 1)))]),
 o_ 46 (.callP 42 [(.u 38 .share), (.t 45), (.c (.int .i64 0)), (.c (.bool true))]),
 o_ 0 (.mv (.u 46 .share))])
 (.region false [f_ 47 0 5,
 l_ 48 47,
 f_ 49 1 5,
 l_ 50 49,
 c_ 51 .add 50 1,
 f_ 52 2 5,
 l_ 53 52,
 f_ 54 3 5,
 l_ 55 54,
 c_ 56 .sub 55 1,
 o_ 57 (.build [(.int .i64 0), (.int .i64 0), (.int .i64 0), (.int .i64 0)] [(0, 1, (.t 48)), (1, 1, (.t 51)), (2, 1, (.t 53)), (3, 1, (.t 56))]),
 ⟨none, none, false, .store 4 (.t 5) (.t 57), .none⟩]))
 (.region false [m_ 58 0,
 o_ 59 (.build [(.int .i64 0), (.int .i64 0), (.int .i64 0), (.int .i64 0)] []),
 o_ 60 (.callP 42 [(.u 58 .share), (.t 59), (.c (.int .i64 0)), (.c (.bool true))]),
 o_ 0 (.mv (.u 60 .share))]))))
 (.region false [m_ 33 8,
 c_ 34 .add 33 1,
 m_ 8 34]))))))
 (.seq (.region false [m_ 61 0,
 o_ 62 (.load true 4 (.t 5) .copy),
 o_ 63 (.callP 42 [(.u 61 .share), (.t 62), (.c (.int .i64 0)), (.c (.bool false))]),
 o_ 6 (.mv (.u 63 .share))])
 (.ret)))
 (.skip)))
 (.seq (.region false [o_ 64 (.buildSlice 2 [(.int .i64 0), (.int .i64 0)] 0 []),
 o_ 9 (.mv (.u 64 .take))])
 (.seq (.region false [o_ 65 (.buildSlice 1 [(.int .i64 0)] 0 []),
 o_ 10 (.mv (.u 65 .take))])
 (.seq (.seq (.region false [i_ 11 0])
 (.block 2 (.loop [0, 4, 5, 7, 9, 10, 11] (.seq (.seq (.region false [m_ 66 11,
 m_ 67 7,
 b_ 68 .lss 66 67])
 (.cond (.t 68)
 (.skip)
 (.exit 2)))
 (.seq (.block 3 (.seq (.region false [o_ 71 (.mv (.u 9 .take)),
 f_ 72 4 4,
 o_ 73 (.load false 1 (.t 72) .peek),
 m_ 74 11,
 o_ 75 (.indexSl 6 (.t 73) (.t 74)),
 f_ 76 1 75,
 o_ 77 (.load true 2 (.t 76) .copy),
 o_ 78 (.buildSlice 2 [(.int .i64 0), (.int .i64 0)] 1 [(0, (.t 77))]),
 o_ 79 (.append 2 (.u 71 .take) (.u 78 .take)),
 o_ 9 (.mv (.u 79 .take))])
 (.region false [o_ 80 (.mv (.u 10 .take)),
 o_ 81 (.buildSlice 1 [(.int .i64 0)] 1 [(0, (.c (.int .i64 1)))]),
 o_ 82 (.append 1 (.u 80 .take) (.u 81 .take)),
 o_ 10 (.mv (.u 82 .take))])))
 (.region false [m_ 69 11,
 c_ 70 .add 69 1,
 m_ 11 70]))))))
 (.seq (.region false [f_ 83 2 5,
 l_ 84 83,
 m_ 12 84])
 (.seq (.seq (.region false [f_ 85 0 4,
 l_ 86 85,
 c_ 87 .eql 86 3])
 (.cond (.t 87)
 (.region false [f_ 88 3 5,
 l_ 89 88,
 m_ 12 89])
 (.skip)))
 (.seq (.region false [m_ 91 12,
 o_ 92 (.mv (.u 9 .take)),
 o_ 93 (.callP 65 [(.t 91), (.u 92 .share)]),
 m_ 90 93,
 o_ 94 (.extract (.t 90) 0),
 o_ 95 (.extract (.t 90) 1),
 o_ 13 (.mv (.u 94 .share)),
 m_ 14 95])
 (.seq (.seq (.region false [m_ 96 14,
 c_ 97 .neq 96 0])
 (.cond (.t 97)
 (.region false [o_ 98 (.mv (.u 10 .take)),
 o_ 13 (.mv (.u 98 .share))])
 (.skip)))
 (.seq (.region false [o_ 99 (.load true 4 (.t 5) .copy),
 m_ 100 13,
 f_ 101 0 4,
 l_ 102 101,
 c_ 103 .eql 102 3,
 o_ 104 (.callP 66 [(.t 99), (.u 100 .share), (.t 103)]),
 o_ 15 (.mv (.u 104 .share))])
 (.seq (.seq (.region false [i_ 16 0])
 (.block 4 (.loop [0, 4, 7, 15, 16] (.seq (.seq (.region false [m_ 105 16,
 m_ 106 7,
 b_ 107 .lss 105 106])
 (.cond (.t 107)
 (.skip)
 (.exit 4)))
 (.seq (.block 5 (.region true [m_ 110 0,
 f_ 111 4 4,
 o_ 112 (.load false 1 (.t 111) .peek),
 m_ 113 16,
 o_ 114 (.indexSl 6 (.t 112) (.t 113)),
 o_ 115 (.load true 6 (.t 114) .copy),
 m_ 116 15,
 m_ 117 16,
 o_ 118 (.indexSl 4 (.t 116) (.t 117)),
 o_ 119 (.load true 4 (.t 118) .copy),
 o_ 120 (.callF 40 [(.u 110 .share), (.u 115 .share), (.t 119)]),
 o_ 0 (.mv (.u 120 .share))]))
 (.region false [m_ 108 16,
 c_ 109 .add 108 1,
 m_ 16 109]))))))
 (.seq (.region false [m_ 121 0,
 o_ 6 (.mv (.u 121 .take))])
 (.ret))))))))))))))⟩
theorem c40 : zaw Go.Proofs.Tryz.prog p40 40 = some a40 := by decide +kernel
def p41 : Plan := ⟨[], 2, [((1, 14), hM 1),
 ((1, 13), hG),
 ((1, 12), hF),
 ((1, 11), hM 0),
 ((1, 9), hM 0),
 ((1, 7), hG),
 ((1, 5), hM 0),
 ((1, 3), hG),
 ((1, 1), hM 0),
 ((0, 0), hB 0),
 ((0, 1), hB 1)],
 []⟩
def a41 : AFunc := ⟨3, 21, 2, [.cell 6 true 4],
 .seq (.region false [o_ 3 (.boxL 0 (.t 0)),
 o_ 6 (.allocL 1 [(.int .i64 0), (.int .i64 0), (.int .i64 0), (.int .i64 0)])])
 (.seq (.region true [f_ 7 0 3,
 ⟨(some 8), none, false, .load false 1 (.t 7) .copy, (.loc 0)⟩,
 m_ 9 1,
 ⟨(some 10), none, false, .callP 67 [(.t 8), (.t 9)], .free⟩,
 f_ 11 1 3,
 ⟨(some 12), none, false, .load false 1 (.t 11) .copy, (.loc 0)⟩,
 m_ 13 2,
 ⟨(some 14), none, false, .callP 67 [(.t 12), (.t 13)], .free⟩,
 f_ 15 2 3,
 ⟨(some 16), none, false, .load false 1 (.t 15) .copy, (.loc 0)⟩,
 f_ 17 3 3,
 ⟨(some 18), none, false, .load false 1 (.t 17) .copy, (.loc 0)⟩,
 ⟨(some 19), none, false, .build [(.int .i64 0), (.int .i64 0), (.int .i64 0), (.int .i64 0)] [(0, 1, (.t 10)), (1, 1, (.t 14)), (2, 1, (.t 16)), (3, 1, (.t 18))], .free⟩,
 ⟨(some 20), none, false, .callP 39 [(.t 19)], .free⟩,
 ⟨none, none, false, .store 4 (.t 6) (.t 20), (.loc 1)⟩])
 (.ret))⟩
theorem c41 : zaw Go.Proofs.Tryz.prog p41 41 = some a41 := by decide +kernel
def p42 : Plan := ⟨[], 1, [((0, 0), hB 0),
 ((1, 1), hT 11),
 ((5, 0), hT 9),
 ((5, 6), hT2 18 23),
 ((5, 7), hT 24),
 ((6, 0), hT 9),
 ((6, 8), hT2 25 32),
 ((6, 9), hT 33)],
 [[0, 2, 3, 5, 9, 10]]⟩
def a42 : AFunc := ⟨4, 34, 1, [.tmp 8],
 .seq (.region false [o_ 5 (.boxL 0 (.t 1)),
 o_ 8 (.mv (.c .nils))])
 (.seq (.region false [o_ 11 (.buildSlice 7 [(.int .i64 0), (.int .i64 0), (.int .i64 0), (.int .i64 0), (.int .i64 0), (.int .i64 0), (.bool false)] 0 []),
 o_ 9 (.mv (.u 11 .take))])
 (.seq (.seq (.region false [i_ 10 0])
 (.block 0 (.loop [0, 2, 3, 5, 9, 10] (.seq (.seq (.region false [m_ 12 10,
 m_ 13 0,
 o_ 14 (.lenSl (.t 13)),
 b_ 15 .lss 12 14])
 (.cond (.t 15)
 (.skip)
 (.exit 0)))
 (.seq (.block 1 (.region false [o_ 18 (.mv (.u 9 .take)),
 m_ 19 0,
 m_ 20 10,
 o_ 21 (.indexSl 7 (.t 19) (.t 20)),
 o_ 22 (.load true 7 (.t 21) .copy),
 o_ 23 (.buildSlice 7 [(.int .i64 0), (.int .i64 0), (.int .i64 0), (.int .i64 0), (.int .i64 0), (.int .i64 0), (.bool false)] 1 [(0, (.t 22))]),
 o_ 24 (.append 7 (.u 18 .take) (.u 23 .take)),
 o_ 9 (.mv (.u 24 .take))]))
 (.region false [m_ 16 10,
 c_ 17 .add 16 1,
 m_ 10 17]))))))
 (.seq (.region false [o_ 25 (.mv (.u 9 .take)),
 m_ 26 0,
 o_ 27 (.lenSl (.t 26)),
 o_ 28 (.load true 4 (.t 5) .copy),
 m_ 29 2,
 m_ 30 3,
 o_ 31 (.build [(.int .i64 0), (.int .i64 0), (.int .i64 0), (.int .i64 0), (.int .i64 0), (.int .i64 0), (.bool false)] [(0, 1, (.t 27)), (1, 4, (.t 28)), (5, 1, (.t 29)), (6, 1, (.t 30))]),
 o_ 32 (.buildSlice 7 [(.int .i64 0), (.int .i64 0), (.int .i64 0), (.int .i64 0), (.int .i64 0), (.int .i64 0), (.bool false)] 1 [(0, (.t 31))]),
 o_ 33 (.append 7 (.u 25 .take) (.u 32 .take)),
 o_ 8 (.mv (.u 33 .take))])
 (.ret))))⟩
theorem c42 : zaw Go.Proofs.Tryz.prog p42 42 = some a42 := by decide +kernel
def p43 : Plan := ⟨[], 3, [((0, 0), hB 0),
 ((0, 1), hB 1),
 ((0, 2), hB 2),
 ((3, 4), hP),
 ((4, 4), hP)],
 [[2, 3, 4], [2, 3, 4], [2, 3, 4], [2, 3, 4]]⟩
def a43 : AFunc := ⟨2, 75, 3, [.cell 4 true 4],
 .seq (.region false [o_ 2 (.boxL 0 (.t 0)),
 o_ 3 (.boxL 1 (.t 1)),
 o_ 4 (.allocL 2 [(.int .i64 0), (.int .i64 0), (.int .i64 0), (.int .i64 0)])])
 (.seq (.seq (.region false [f_ 5 2 2,
 l_ 6 5,
 c_ 7 .eql 6 0,
 m_ 8 7,
 g_ 9 8 false (.fieldAddr 2 (.t 3)),
 g_ 10 8 false (.load false 1 (.t 9) .copy),
 g_ 11 8 false (.bin .eql (.t 10) (.c (.int .i64 0))),
 o_ 12 (.pick (.t 8) (.c (.bool true)) (.t 11))])
 (.cond (.t 12)
 (.seq (.region false [o_ 13 (.build [(.int .i64 0), (.int .i64 0), (.int .i64 0), (.int .i64 0)] []),
 ⟨none, none, false, .store 4 (.t 4) (.t 13), .none⟩])
 (.ret))
 (.skip)))
 (.seq (.region false [f_ 14 2 2,
 l_ 15 14,
 f_ 16 2 3,
 l_ 17 16,
 o_ 18 (.callP 68 [(.t 15), (.t 17)]),
 f_ 19 2 2,
 s_ 19 18])
 (.seq (.region false [f_ 20 3 2,
 l_ 21 20,
 f_ 22 3 3,
 l_ 23 22,
 o_ 24 (.callP 68 [(.t 21), (.t 23)]),
 f_ 25 3 2,
 s_ 25 24])
 (.seq (.block 0 (.loop [2, 3, 4] (.seq (.seq (.region false [f_ 26 0 2,
 l_ 27 26,
 f_ 28 2 2,
 l_ 29 28,
 b_ 30 .add 27 29,
 f_ 31 0 3,
 l_ 32 31,
 f_ 33 2 3,
 l_ 34 33,
 b_ 35 .add 32 34,
 b_ 36 .gtr 30 35])
 (.cond (.t 36)
 (.skip)
 (.exit 0)))
 (.block 1 (.region false [f_ 37 0 2,
 l_ 38 37,
 c_ 39 .sub 38 1,
 f_ 40 0 2,
 s_ 40 39])))))
 (.seq (.block 2 (.loop [2, 3, 4] (.seq (.seq (.region false [f_ 41 0 2,
 l_ 42 41,
 f_ 43 0 3,
 l_ 44 43,
 b_ 45 .lss 42 44])
 (.cond (.t 45)
 (.skip)
 (.exit 2)))
 (.block 3 (.region false [f_ 46 0 2,
 l_ 47 46,
 c_ 48 .add 47 1,
 f_ 49 0 2,
 s_ 49 48])))))
 (.seq (.block 4 (.loop [2, 3, 4] (.seq (.seq (.region false [f_ 50 1 2,
 l_ 51 50,
 f_ 52 3 2,
 l_ 53 52,
 b_ 54 .add 51 53,
 f_ 55 1 3,
 l_ 56 55,
 f_ 57 3 3,
 l_ 58 57,
 b_ 59 .add 56 58,
 b_ 60 .gtr 54 59])
 (.cond (.t 60)
 (.skip)
 (.exit 4)))
 (.block 5 (.region false [f_ 61 1 2,
 l_ 62 61,
 c_ 63 .sub 62 1,
 f_ 64 1 2,
 s_ 64 63])))))
 (.seq (.block 6 (.loop [2, 3, 4] (.seq (.seq (.region false [f_ 65 1 2,
 l_ 66 65,
 f_ 67 1 3,
 l_ 68 67,
 b_ 69 .lss 66 68])
 (.cond (.t 69)
 (.skip)
 (.exit 6)))
 (.block 7 (.region false [f_ 70 1 2,
 l_ 71 70,
 c_ 72 .add 71 1,
 f_ 73 1 2,
 s_ 73 72])))))
 (.seq (.region false [o_ 74 (.load true 4 (.t 2) .copy),
 ⟨none, none, false, .store 4 (.t 4) (.t 74), .none⟩])
 (.ret)))))))))⟩
theorem c43 : zaw Go.Proofs.Tryz.prog p43 43 = some a43 := by decide +kernel
def p63 : Plan := ⟨[], 1, [((0, 0), hB 0)],
 []⟩
def a63 : AFunc := ⟨1, 36, 1, [.tmp 2],
 .seq (.region false [o_ 1 (.boxL 0 (.t 0)),
 o_ 2 (.mv (.c (.bool false)))])
 (.seq (.region false [f_ 3 0 1,
 l_ 4 3,
 c_ 5 .eql 4 0,
 m_ 6 5,
 g_ 7 6 false (.fieldAddr 0 (.t 1)),
 g_ 8 6 false (.load false 1 (.t 7) .copy),
 g_ 9 6 false (.bin .eql (.t 8) (.c (.int .i64 1))),
 g_ 10 6 false (.mv (.t 9)),
 g_ 11 10 true (.fieldAddr 1 (.t 1)),
 g_ 12 10 true (.load false 1 (.t 11) .copy),
 g_ 13 10 true (.bin .geq (.t 12) (.c (.int .i64 1))),
 g_ 14 6 false (.pick (.t 10) (.t 13) (.c (.bool false))),
 g_ 15 6 false (.mv (.t 14)),
 g_ 16 15 true (.fieldAddr 1 (.t 1)),
 g_ 17 15 true (.load false 1 (.t 16) .copy),
 g_ 18 15 true (.bin .leq (.t 17) (.c (.int .i64 200))),
 g_ 19 6 false (.pick (.t 15) (.t 18) (.c (.bool false))),
 o_ 20 (.pick (.t 6) (.c (.bool true)) (.t 19)),
 m_ 21 20,
 g_ 22 21 false (.fieldAddr 0 (.t 1)),
 g_ 23 21 false (.load false 1 (.t 22) .copy),
 g_ 24 21 false (.bin .eql (.t 23) (.c (.int .i64 2))),
 g_ 25 21 false (.mv (.t 24)),
 g_ 26 25 true (.fieldAddr 1 (.t 1)),
 g_ 27 25 true (.load false 1 (.t 26) .copy),
 g_ 28 25 true (.bin .geq (.t 27) (.c (.int .i64 1))),
 g_ 29 21 false (.pick (.t 25) (.t 28) (.c (.bool false))),
 g_ 30 21 false (.mv (.t 29)),
 g_ 31 30 true (.fieldAddr 1 (.t 1)),
 g_ 32 30 true (.load false 1 (.t 31) .copy),
 g_ 33 30 true (.bin .leq (.t 32) (.c (.int .i64 100))),
 g_ 34 21 false (.pick (.t 30) (.t 33) (.c (.bool false))),
 o_ 35 (.pick (.t 21) (.c (.bool true)) (.t 34)),
 m_ 2 35])
 (.ret))⟩
theorem c63 : zaw Go.Proofs.Tryz.prog p63 63 = some a63 := by decide +kernel
def p65 : Plan := ⟨[8], 0, [((6, 4), hP),
 ((12, 1), hT 40),
 ((13, 1), hT 41),
 ((23, 0), hT 8),
 ((23, 3), hT2 89 91),
 ((23, 4), hT 92),
 ((24, 0), hT 7),
 ((24, 3), hT2 93 95),
 ((24, 4), hT 96),
 ((25, 0), { mode := .share }),
 ((25, 1), hU 97),
 ((32, 2), hU 121),
 ((32, 3), hT 123),
 ((34, 1), hU 124),
 ((36, 0), hK 8),
 ((37, 4), hU 133),
 ((37, 5), hS 137),
 ((38, 1), hK 8),
 ((38, 3), hK 8),
 ((38, 8), hU 138),
 ((38, 9), hS 146),
 ((39, 1), hS 147)],
 [[0, 1, 6], [0, 1, 7, 8, 9], [0, 1, 7, 8], [0, 1, 7, 8, 11, 12], [0, 7, 8, 13]]⟩
def a65 : AFunc := ⟨2, 148, 0, [.tmp 4, .tmp 5],
 .seq (.region false [o_ 4 (.mv (.c .nils)),
 i_ 5 0])
 (.seq (.seq (.region false [m_ 14 1,
 o_ 15 (.lenSl (.t 14)),
 c_ 16 .eql 15 0,
 m_ 17 16,
 g_ 18 17 false (.mv (.t 0)),
 g_ 19 17 false (.bin .gtr (.t 18) (.c (.int .i64 200))),
 o_ 20 (.pick (.t 17) (.c (.bool true)) (.t 19))])
 (.cond (.t 20)
 (.seq (.region false [o_ 4 (.mv (.c .nils)),
 i_ 5 1])
 (.ret))
 (.skip)))
 (.seq (.seq (.region false [i_ 6 0])
 (.block 0 (.loop [0, 1, 6] (.seq (.seq (.region false [m_ 21 6,
 m_ 22 1,
 o_ 23 (.lenSl (.t 22)),
 b_ 24 .lss 21 23])
 (.cond (.t 24)
 (.skip)
 (.exit 0)))
 (.seq (.block 1 (.seq (.region false [m_ 27 1,
 m_ 28 6,
 o_ 29 (.indexSl 2 (.t 27) (.t 28)),
 o_ 30 (.load true 2 (.t 29) .copy),
 o_ 31 (.callP 63 [(.t 30)]),
 o_ 32 (.un .not (.t 31))])
 (.cond (.t 32)
 (.seq (.region false [o_ 4 (.mv (.c .nils)),
 i_ 5 1])
 (.ret))
 (.skip))))
 (.region false [m_ 25 6,
 c_ 26 .add 25 1,
 m_ 6 26]))))))
 (.seq (.seq (.region false [m_ 33 1,
 o_ 34 (.lenSl (.t 33)),
 c_ 35 .gtr 34 16])
 (.cond (.t 35)
 (.seq (.region false [o_ 4 (.mv (.c .nils)),
 i_ 5 3])
 (.ret))
 (.skip)))
 (.seq (.seq (.region false [m_ 36 0,
 m_ 37 1,
 o_ 38 (.lenSl (.t 37)),
 b_ 39 .lss 36 38])
 (.cond (.t 39)
 (.seq (.region false [o_ 4 (.mv (.c .nils)),
 i_ 5 90])
 (.ret))
 (.skip)))
 (.seq (.region false [o_ 40 (.buildSlice 1 [(.int .i64 0)] 0 []),
 o_ 7 (.mv (.u 40 .take))])
 (.seq (.region false [o_ 41 (.buildSlice 1 [(.int .i64 0)] 0 []),
 k_ 8 41])
 (.seq (.seq (.region false [i_ 9 0])
 (.block 2 (.loop [0, 1, 7, 8, 9] (.seq (.seq (.region false [m_ 42 9,
 m_ 43 1,
 o_ 44 (.lenSl (.t 43)),
 b_ 45 .lss 42 44])
 (.cond (.t 45)
 (.skip)
 (.exit 2)))
 (.seq (.block 3 (.seq (.region false [i_ 10 1])
 (.seq (.seq (.region false [m_ 48 1,
 m_ 49 9,
 o_ 50 (.indexSl 2 (.t 48) (.t 49)),
 f_ 51 0 50,
 l_ 52 51,
 c_ 53 .eql 52 1])
 (.cond (.t 53)
 (.region false [m_ 54 1,
 m_ 55 9,
 o_ 56 (.indexSl 2 (.t 54) (.t 55)),
 f_ 57 1 56,
 l_ 58 57,
 m_ 10 58])
 (.skip)))
 (.seq (.seq (.region false [m_ 59 1,
 m_ 60 9,
 o_ 61 (.indexSl 2 (.t 59) (.t 60)),
 f_ 62 0 61,
 l_ 63 62,
 c_ 64 .eql 63 2,
 m_ 65 64,
 g_ 66 65 true (.mv (.t 0)),
 g_ 67 65 true (.mv (.t 1)),
 g_ 68 65 true (.mv (.t 9)),
 g_ 69 65 true (.indexSl 2 (.t 67) (.t 68)),
 g_ 70 65 true (.fieldAddr 1 (.t 69)),
 g_ 71 65 true (.load false 1 (.t 70) .copy),
 g_ 72 65 true (.bin .mul (.t 66) (.t 71)),
 g_ 73 65 true (.bin .geq (.t 72) (.c (.int .i64 100))),
 o_ 74 (.pick (.t 65) (.t 73) (.c (.bool false)))])
 (.cond (.t 74)
 (.region false [m_ 75 0,
 m_ 76 1,
 m_ 77 9,
 o_ 78 (.indexSl 2 (.t 76) (.t 77)),
 f_ 79 1 78,
 l_ 80 79,
 b_ 81 .mul 75 80,
 c_ 82 .quo 81 100,
 m_ 10 82])
 (.skip)))
 (.seq (.seq (.region false [m_ 83 1,
 m_ 84 9,
 o_ 85 (.indexSl 2 (.t 83) (.t 84)),
 f_ 86 0 85,
 l_ 87 86,
 c_ 88 .eql 87 0])
 (.cond (.t 88)
 (.region false [o_ 89 (.mv (.u 8 .take)),
 m_ 90 9,
 o_ 91 (.buildSlice 1 [(.int .i64 0)] 1 [(0, (.t 90))]),
 o_ 92 (.append 1 (.u 89 .take) (.u 91 .take)),
 k_ 8 92])
 (.skip)))
 (.region false [o_ 93 (.mv (.u 7 .take)),
 m_ 94 10,
 o_ 95 (.buildSlice 1 [(.int .i64 0)] 1 [(0, (.t 94))]),
 o_ 96 (.append 1 (.u 93 .take) (.u 95 .take)),
 o_ 7 (.mv (.u 96 .take))]))))))
 (.region false [m_ 46 9,
 c_ 47 .add 46 1,
 m_ 9 47]))))))
 (.seq (.block 4 (.loop [0, 1, 7, 8] (.seq (.seq (.region false [o_ 97 (.mvK 7),
 o_ 98 (.callP 82 [(.u 97 .share)]),
 m_ 99 0,
 b_ 100 .gtr 98 99])
 (.cond (.t 100)
 (.skip)
 (.exit 4)))
 (.block 5 (.seq (.region false [i_ 11 0])
 (.seq (.seq (.region false [i_ 12 0])
 (.block 6 (.loop [0, 1, 7, 8, 11, 12] (.seq (.seq (.region false [m_ 101 12,
 m_ 102 7,
 o_ 103 (.lenSl (.t 102)),
 b_ 104 .lss 101 103])
 (.cond (.t 104)
 (.skip)
 (.exit 6)))
 (.seq (.block 7 (.seq (.region false [m_ 107 7,
 m_ 108 12,
 o_ 109 (.indexSl 1 (.t 107) (.t 108)),
 l_ 110 109,
 c_ 111 .gtr 110 1,
 m_ 112 111,
 g_ 113 112 true (.mv (.t 1)),
 g_ 114 112 true (.mv (.t 12)),
 g_ 115 112 true (.indexSl 2 (.t 113) (.t 114)),
 g_ 116 112 true (.fieldAddr 0 (.t 115)),
 g_ 117 112 true (.load false 1 (.t 116) .copy),
 g_ 118 112 true (.bin .neq (.t 117) (.c (.int .i64 0))),
 o_ 119 (.pick (.t 112) (.t 118) (.c (.bool false)))])
 (.cond (.t 119)
 (.region false [m_ 120 12,
 m_ 11 120])
 (.skip))))
 (.region false [m_ 105 12,
 c_ 106 .add 105 1,
 m_ 12 106]))))))
 (.region false [m_ 121 7,
 m_ 122 11,
 o_ 123 (.callP 83 [(.u 121 .share), (.t 122), (.c (.int .i64 (-1)))]),
 o_ 7 (.mv (.u 123 .take))])))))))
 (.seq (.seq (.region false [i_ 13 0])
 (.block 8 (.loop [0, 7, 8, 13] (.seq (.seq (.region false [m_ 124 7,
 o_ 125 (.callP 82 [(.u 124 .share)]),
 m_ 126 0,
 b_ 127 .lss 125 126])
 (.cond (.t 127)
 (.skip)
 (.exit 8)))
 (.seq (.block 9 (.seq (.region false [o_ 130 (.mv (.u 8 .peek)),
 o_ 131 (.lenSl (.t 130)),
 c_ 132 .eql 131 0])
 (.cond (.t 132)
 (.region false [m_ 133 7,
 m_ 134 7,
 o_ 135 (.lenSl (.t 134)),
 c_ 136 .sub 135 1,
 o_ 137 (.callP 83 [(.u 133 .share), (.t 136), (.c (.int .i64 1))]),
 o_ 7 (.mv (.u 137 .share))])
 (.region false [m_ 138 7,
 o_ 139 (.mv (.u 8 .peek)),
 m_ 140 13,
 o_ 141 (.mv (.u 8 .peek)),
 o_ 142 (.lenSl (.t 141)),
 b_ 143 .rem 140 142,
 o_ 144 (.indexSl 1 (.t 139) (.t 143)),
 l_ 145 144,
 o_ 146 (.callP 83 [(.u 138 .share), (.t 145), (.c (.int .i64 1))]),
 o_ 7 (.mv (.u 146 .share))]))))
 (.region false [m_ 128 13,
 c_ 129 .add 128 1,
 m_ 13 129]))))))
 (.seq (.region false [m_ 147 7,
 o_ 4 (.mv (.u 147 .share)),
 i_ 5 0])
 (.ret)))))))))))⟩
theorem c65 : zaw Go.Proofs.Tryz.prog p65 65 = some a65 := by decide +kernel
def p66 : Plan := ⟨[], 1, [((0, 0), hB 0),
 ((1, 1), hT 10),
 ((5, 4), hP),
 ((7, 3), hP),
 ((8, 0), hT 7),
 ((8, 9), hP),
 ((8, 11), hT2 31 41),
 ((8, 12), hT 42),
 ((10, 3), hP),
 ((11, 0), hT 7),
 ((11, 9), hP),
 ((11, 11), hT2 60 70),
 ((11, 12), hT 71),
 ((13, 0), hT 7),
 ((13, 1), hT 85)],
 [[1, 2, 3, 7, 8]]⟩
def a66 : AFunc := ⟨3, 86, 1, [.tmp 6],
 .seq (.region false [o_ 3 (.boxL 0 (.t 0)),
 o_ 6 (.mv (.c .nils))])
 (.seq (.region false [o_ 10 (.buildSlice 4 [(.int .i64 0), (.int .i64 0), (.int .i64 0), (.int .i64 0)] 0 []),
 o_ 7 (.mv (.u 10 .take))])
 (.seq (.seq (.region false [i_ 8 0])
 (.block 0 (.loop [1, 2, 3, 7, 8] (.seq (.seq (.region false [m_ 11 8,
 m_ 12 1,
 o_ 13 (.lenSl (.t 12)),
 b_ 14 .lss 11 13,
 m_ 15 14,
 g_ 16 15 true (.mv (.t 8)),
 g_ 17 15 true (.bin .lss (.t 16) (.c (.int .i64 16))),
 o_ 18 (.pick (.t 15) (.t 17) (.c (.bool false)))])
 (.cond (.t 18)
 (.skip)
 (.exit 0)))
 (.seq (.block 1 (.seq (.region false [m_ 21 1,
 m_ 22 8,
 o_ 23 (.indexSl 1 (.t 21) (.t 22)),
 l_ 24 23,
 o_ 25 (.callP 84 [(.t 24), (.c (.int .i64 0))]),
 m_ 9 25])
 (.seq (.region false [m_ 26 2])
 (.cond (.t 26)
 (.seq (.region false [m_ 27 9,
 f_ 28 3 3,
 l_ 29 28,
 o_ 30 (.callP 68 [(.t 27), (.t 29)]),
 m_ 9 30])
 (.seq (.region false [o_ 31 (.mv (.u 7 .take)),
 f_ 32 0 3,
 l_ 33 32,
 f_ 34 1 3,
 l_ 35 34,
 f_ 36 2 3,
 l_ 37 36,
 m_ 38 9,
 o_ 39 (.build [(.int .i64 0), (.int .i64 0), (.int .i64 0), (.int .i64 0)] [(0, 1, (.t 33)), (1, 1, (.t 35)), (2, 1, (.t 37)), (3, 1, (.t 38))]),
 o_ 40 (.callP 39 [(.t 39)]),
 o_ 41 (.buildSlice 4 [(.int .i64 0), (.int .i64 0), (.int .i64 0), (.int .i64 0)] 1 [(0, (.t 40))]),
 o_ 42 (.append 4 (.u 31 .take) (.u 41 .take)),
 o_ 7 (.mv (.u 42 .take))])
 (.region false [f_ 43 0 3,
 l_ 44 43,
 f_ 45 1 3,
 l_ 46 45,
 m_ 47 9,
 b_ 48 .add 46 47,
 f_ 49 2 3,
 l_ 50 49,
 f_ 51 3 3,
 l_ 52 51,
 m_ 53 9,
 b_ 54 .sub 52 53,
 o_ 55 (.build [(.int .i64 0), (.int .i64 0), (.int .i64 0), (.int .i64 0)] [(0, 1, (.t 44)), (1, 1, (.t 48)), (2, 1, (.t 50)), (3, 1, (.t 54))]),
 ⟨none, none, false, .store 4 (.t 3) (.t 55), .none⟩])))
 (.seq (.region false [m_ 56 9,
 f_ 57 2 3,
 l_ 58 57,
 o_ 59 (.callP 68 [(.t 56), (.t 58)]),
 m_ 9 59])
 (.seq (.region false [o_ 60 (.mv (.u 7 .take)),
 f_ 61 0 3,
 l_ 62 61,
 f_ 63 1 3,
 l_ 64 63,
 m_ 65 9,
 f_ 66 3 3,
 l_ 67 66,
 o_ 68 (.build [(.int .i64 0), (.int .i64 0), (.int .i64 0), (.int .i64 0)] [(0, 1, (.t 62)), (1, 1, (.t 64)), (2, 1, (.t 65)), (3, 1, (.t 67))]),
 o_ 69 (.callP 39 [(.t 68)]),
 o_ 70 (.buildSlice 4 [(.int .i64 0), (.int .i64 0), (.int .i64 0), (.int .i64 0)] 1 [(0, (.t 69))]),
 o_ 71 (.append 4 (.u 60 .take) (.u 70 .take)),
 o_ 7 (.mv (.u 71 .take))])
 (.region false [f_ 72 0 3,
 l_ 73 72,
 m_ 74 9,
 b_ 75 .add 73 74,
 f_ 76 1 3,
 l_ 77 76,
 f_ 78 2 3,
 l_ 79 78,
 m_ 80 9,
 b_ 81 .sub 79 80,
 f_ 82 3 3,
 l_ 83 82,
 o_ 84 (.build [(.int .i64 0), (.int .i64 0), (.int .i64 0), (.int .i64 0)] [(0, 1, (.t 75)), (1, 1, (.t 77)), (2, 1, (.t 81)), (3, 1, (.t 83))]),
 ⟨none, none, false, .store 4 (.t 3) (.t 84), .none⟩])))))))
 (.region false [m_ 19 8,
 c_ 20 .add 19 1,
 m_ 8 20]))))))
 (.seq (.region false [o_ 85 (.mv (.u 7 .take)),
 o_ 6 (.mv (.u 85 .take))])
 (.ret))))⟩
theorem c66 : zaw Go.Proofs.Tryz.prog p66 66 = some a66 := by decide +kernel
def p67 : Plan := ⟨[], 0, [],
 []⟩
def a67 : AFunc := ⟨2, 24, 0, [.tmp 4],
 .seq (.region false [i_ 4 0])
 (.seq (.seq (.region false [m_ 5 1,
 c_ 6 .gtr 5 0,
 m_ 7 6,
 g_ 8 7 true (.mv (.t 0)),
 g_ 9 7 true (.mv (.t 1)),
 g_ 10 7 true (.bin .sub (.c (.int .i64 9223372036854775807)) (.t 9)),
 g_ 11 7 true (.bin .gtr (.t 8) (.t 10)),
 o_ 12 (.pick (.t 7) (.t 11) (.c (.bool false)))])
 (.cond (.t 12)
 (.seq (.region false [i_ 4 9223372036854775807])
 (.ret))
 (.skip)))
 (.seq (.seq (.region false [m_ 13 1,
 c_ 14 .lss 13 0,
 m_ 15 14,
 g_ 16 15 true (.mv (.t 0)),
 g_ 17 15 true (.mv (.t 1)),
 g_ 18 15 true (.bin .sub (.c (.int .i64 (-9223372036854775808))) (.t 17)),
 g_ 19 15 true (.bin .lss (.t 16) (.t 18)),
 o_ 20 (.pick (.t 15) (.t 19) (.c (.bool false)))])
 (.cond (.t 20)
 (.seq (.region false [i_ 4 (-9223372036854775808)])
 (.ret))
 (.skip)))
 (.seq (.region false [m_ 21 0,
 m_ 22 1,
 b_ 23 .add 21 22,
 m_ 4 23])
 (.ret))))⟩
theorem c67 : zaw Go.Proofs.Tryz.prog p67 67 = some a67 := by decide +kernel
def p68 : Plan := ⟨[], 0, [],
 []⟩
def a68 : AFunc := ⟨2, 10, 0, [.tmp 4],
 .seq (.region false [i_ 4 0])
 (.seq (.seq (.region false [m_ 5 0,
 m_ 6 1,
 b_ 7 .lss 5 6])
 (.cond (.t 7)
 (.seq (.region false [m_ 8 0,
 m_ 4 8])
 (.ret))
 (.skip)))
 (.seq (.region false [m_ 9 1,
 m_ 4 9])
 (.ret)))⟩
theorem c68 : zaw Go.Proofs.Tryz.prog p68 68 = some a68 := by decide +kernel
def p82 : Plan := ⟨[], 0, [],
 [[0, 3, 4]]⟩
def a82 : AFunc := ⟨1, 18, 0, [.tmp 2],
 .seq (.region false [i_ 2 0])
 (.seq (.region false [i_ 3 0])
 (.seq (.seq (.region false [i_ 4 0])
 (.block 0 (.loop [0, 3, 4] (.seq (.seq (.region false [m_ 5 4,
 m_ 6 0,
 o_ 7 (.lenSl (.t 6)),
 b_ 8 .lss 5 7])
 (.cond (.t 8)
 (.skip)
 (.exit 0)))
 (.seq (.block 1 (.region false [m_ 11 3,
 m_ 12 0,
 m_ 13 4,
 o_ 14 (.indexSl 1 (.t 12) (.t 13)),
 l_ 15 14,
 b_ 16 .add 11 15,
 m_ 3 16]))
 (.region false [m_ 9 4,
 c_ 10 .add 9 1,
 m_ 4 10]))))))
 (.seq (.region false [m_ 17 3,
 m_ 2 17])
 (.ret))))⟩
theorem c82 : zaw Go.Proofs.Tryz.prog p82 82 = some a82 := by decide +kernel
def p83 : Plan := ⟨[], 0, [((1, 1), hT 9),
 ((6, 0), hT 7),
 ((6, 8), hT2 19 26),
 ((6, 9), hT 27),
 ((7, 0), hT 7),
 ((7, 6), hT2 28 33),
 ((7, 7), hT 34),
 ((8, 0), hT 7),
 ((8, 1), hT 35)],
 [[0, 1, 2, 7, 8]]⟩
def a83 : AFunc := ⟨3, 36, 0, [.tmp 6],
 .seq (.region false [o_ 6 (.mv (.c .nils))])
 (.seq (.region false [o_ 9 (.buildSlice 1 [(.int .i64 0)] 0 []),
 o_ 7 (.mv (.u 9 .take))])
 (.seq (.seq (.region false [i_ 8 0])
 (.block 0 (.loop [0, 1, 2, 7, 8] (.seq (.seq (.region false [m_ 10 8,
 m_ 11 0,
 o_ 12 (.lenSl (.t 11)),
 b_ 13 .lss 10 12])
 (.cond (.t 13)
 (.skip)
 (.exit 0)))
 (.seq (.block 1 (.seq (.region false [m_ 16 8,
 m_ 17 1,
 b_ 18 .eql 16 17])
 (.cond (.t 18)
 (.region false [o_ 19 (.mv (.u 7 .take)),
 m_ 20 0,
 m_ 21 8,
 o_ 22 (.indexSl 1 (.t 20) (.t 21)),
 l_ 23 22,
 m_ 24 2,
 b_ 25 .add 23 24,
 o_ 26 (.buildSlice 1 [(.int .i64 0)] 1 [(0, (.t 25))]),
 o_ 27 (.append 1 (.u 19 .take) (.u 26 .take)),
 o_ 7 (.mv (.u 27 .take))])
 (.region false [o_ 28 (.mv (.u 7 .take)),
 m_ 29 0,
 m_ 30 8,
 o_ 31 (.indexSl 1 (.t 29) (.t 30)),
 l_ 32 31,
 o_ 33 (.buildSlice 1 [(.int .i64 0)] 1 [(0, (.t 32))]),
 o_ 34 (.append 1 (.u 28 .take) (.u 33 .take)),
 o_ 7 (.mv (.u 34 .take))]))))
 (.region false [m_ 14 8,
 c_ 15 .add 14 1,
 m_ 8 15]))))))
 (.seq (.region false [o_ 35 (.mv (.u 7 .take)),
 o_ 6 (.mv (.u 35 .take))])
 (.ret))))⟩
theorem c83 : zaw Go.Proofs.Tryz.prog p83 83 = some a83 := by decide +kernel
def p84 : Plan := ⟨[], 0, [],
 []⟩
def a84 : AFunc := ⟨2, 10, 0, [.tmp 4],
 .seq (.region false [i_ 4 0])
 (.seq (.seq (.region false [m_ 5 0,
 m_ 6 1,
 b_ 7 .gtr 5 6])
 (.cond (.t 7)
 (.seq (.region false [m_ 8 0,
 m_ 4 8])
 (.ret))
 (.skip)))
 (.seq (.region false [m_ 9 1,
 m_ 4 9])
 (.ret)))⟩
theorem c84 : zaw Go.Proofs.Tryz.prog p84 84 = some a84 := by decide +kernel
def znV : List (Nat × AFunc) := [(58, a58), (34, a34), (15, a15), (55, a55), (25, a25), (60, a60), (28, a28), (36, a36), (57, a57), (80, a80), (56, a56), (59, a59), (27, a27), (81, a81), (35, a35), (62, a62), (37, a37), (13, a13), (26, a26), (7, a7), (8, a8), (9, a9), (10, a10), (12, a12), (29, a29), (61, a61), (32, a32), (30, a30), (31, a31), (33, a33), (53, a53), (23, a23), (64, a64), (39, a39), (54, a54), (24, a24), (6, a6), (3, a3), (14, a14), (16, a16), (17, a17), (18, a18), (38, a38), (40, a40), (41, a41), (42, a42), (43, a43), (63, a63), (65, a65), (66, a66), (67, a67), (68, a68), (82, a82), (83, a83), (84, a84)]
def ET : Table := zlm znV lyX
theorem zi9 : znP Go.Proofs.Tryz.prog znV := ⟨zaf LayA.c58, zaf LayA.c34, zaf LayA.c15, zaf LayA.c55, zaf LayA.c25, zaf LayA.c60, zaf LayA.c28, zaf LayA.c36, zaf LayA.c57, zaf LayA.c80, zaf LayA.c56, zaf LayA.c59, zaf LayA.c27, zaf LayA.c81, zaf LayA.c35, zaf LayA.c62, zaf LayA.c37, zaf LayA.c13, zaf LayA.c26, zaf c7, zaf c8, zaf c9, zaf c10, zaf LayA.c12, zaf c29, zaf LayA.c61, zaf c32, zaf c30, zaf c31, zaf c33, zaf LayA.c53, zaf LayA.c23, zaf c64, zaf c39, zaf c54, zaf c24, zaf c6, zaf c3, zaf c14, zaf c16, zaf c17, zaf c18, zaf c38, zaf c40, zaf c41, zaf c42, zaf c43, zaf c63, zaf c65, zaf c66, zaf c67, zaf c68, zaf c82, zaf c83, zaf c84, trivial⟩
end Go.Proofs.YtakdnfneikbjjaaGreatDoor.Am.Lay10

set_option linter.all false
namespace Go.Proofs.YtakdnfneikbjjaaGreatDoor.Am.LayA
theorem zlo {s : List UInt8} {n : Int} (hn : Lib.parseIntB 64 s = .ok n) (hl : s.length ≤ 1000) (m : List (List V)) : zdC Go.Proofs.Tryz.prog 97 [.str s, .int .i64 10, .int .i64 64] m (.tuple [.int .i64 n, .nili]) m := by
 intro g w fr vs hsz hok _ hS
 obtain ⟨v0, v1, v2, rfl⟩ : ∃ v0 v1 v2, vs = #[v0, v1, v2] := by
  have : vs.size = 3 := hsz
  refine ⟨vs[0], vs[1], vs[2], ?_⟩
  apply Array.ext
  ·simpa using this
  ·intro i h1 h2
   have : i = 0 ∨ i = 1 ∨ i = 2 := by omega
   rcases this with rfl | rfl | rfl <;> rfl
 have hS : SR g w 0 fr (fun _ => false) ⟨fun _ => .undef, fun _ => [], m⟩ #[] [(.str s, v0), (.int .i64 10, v1), (.int .i64 64, v2)] := hS
 obtain ⟨b0, rfl, h0⟩ := R3.str (hS.pend _ (.head _))
 have h1 := R3.int (hS.pend _ (.tail _ (.head _)))
 have h2 := R3.int (hS.pend _ (.tail _ (.tail _ (.head _))))
 simp only at h1 h2
 subst h1
 subst h2
 subst h0
 have hb : b0.size ≤ 9223372036854775806 := by
  have : b0.data.toList.length = b0.size := by simp
  omega
 refine (Go.Proofs.Any.strconv_ParseInt_10_at64_ok Go.Proofs.Tryz.laysC174 b0 hb n hn w).mono ?_
 rintro e w' ⟨rfl, hw⟩
 have hB : RowKit.Below w.heap.size w w' := by
  rcases hw with rfl | ⟨t, rfl⟩
  ·exact RowKit.Below.refl _ _
  ·exact Lib.bytesWorld_below _ _ _
 have h5 : ∀ c, c < w.heap.size → Same w w' c := fun c hc => hB.block c hc
 have hD := (hS.world hB.size h5).drop.drop.drop
 refine ⟨_, g, rfl, hD.add (x := .tuple [.int .i64 n, .nili]) ⟨#[.int .i64 n, .nilIface], rfl, rfl, fun k hk => ?_⟩ rfl (fun d hd => by cases hd), ⟨hB.os, hB.tape, hB.output, hB.size, fun c hc => ⟨hc, h5 c (hS.pers_lt hc)⟩, fun c hc => h5 c (hS.fr_lt hc), fun _ _ => rfl⟩, Nat.le_refl _, fun x => by simp [V.root?], fun j o => by simp⟩
 have hk : k = 0 ∨ k = 1 := by simp only [List.length_cons, List.length_nil] at hk; omega
 rcases hk with rfl | rfl
 ·exact ⟨.inl rfl, RB.int _ _⟩
 ·exact ⟨.inl rfl, RB.nili⟩
theorem zpa : Good Go.Proofs.Tryz.prog lyA := by
 intro f args m r m' h
 unfold lyA at h
 split at h
 ·split at h
  ·split at h
   ·simp only [yaa, yac] at h
    obtain ⟨rfl, rfl⟩ := h
    exact ⟨⟨_, Go.Proofs.Tryz.func97, rfl, rfl⟩, zlo (by assumption) (by assumption) m⟩
   ·cases h
  ·cases h
 ·cases h
theorem ET0_ok : TableOK Go.Proofs.Tryz.prog ET0 := ziK zi9 zpa
set_option maxRecDepth 100000 in
theorem alive_true : zi8 (evF ET0 60 60 11 [] []) = true := by decide +kernel
end Go.Proofs.YtakdnfneikbjjaaGreatDoor.Am.LayA
namespace Go.Proofs.YtakdnfneikbjjaaGreatDoor.Am.Lay10
theorem zpZ : Good Go.Proofs.Tryz.prog lyX := by
 intro f args m r m' h
 unfold lyX at h
 split at h
 ·simp only [yaa, yac] at h
  obtain ⟨rfl, rfl⟩ := h
  obtain ⟨h1, h2⟩ := zjH LayA.ET0_ok (zo9 LayA.alive_true)
  exact ⟨h1, h2.anyMem m⟩
 ·cases h
theorem zqM : TableOK Go.Proofs.Tryz.prog ET := ziK zi9 zpZ
end Go.Proofs.YtakdnfneikbjjaaGreatDoor.Am.Lay10

namespace Go.Proofs.YtakdnfneikbjjaaGreatDoor.Am.T
open Go.Proofs.YtakdnfneikbjjaaGreatDoor.Am
inductive TV where
 | undef
 | bool (b : Bool)
 | int (k : IntKind) (n : Int)
 | str (s : List Int)
 | nilp
 | ptr (b off : Nat)
 | loc (j off : Nat)
 | ro (cells : List TV) (off : Nat)
 | el (r : Root) (sz i k : Nat)
 | place (r : Root)
 | nils
 | sl (own : Bool) (sz : Nat) (xs : List (List TV))
 | agg (cells : List TV)
 | tuple (vs : List TV)
 | func (f : Nat) (captured : List TV)
 | nilf
 | nili
 | err (b : Bool)
 deriving Inhabited
inductive Pw {α β : Type} (R : α → β → Prop) : List α → List β → Prop
 | nil : Pw R [] []
 | cons {a b l l'} (h : R a b) (t : Pw R l l') : Pw R (a :: l) (b :: l')
def zet (b : UInt8) : Int := b.toNat
inductive Den0 : TV → V → Prop
 | undef (v : V) : Den0 .undef v
 | bool (b : Bool) : Den0 (.bool b) (.bool b)
 | int (k : IntKind) (n : Int) : Den0 (.int k n) (.int k n)
 | str (s : List UInt8) : Den0 (.str (s.map zet)) (.str s)
 | nilp : Den0 .nilp .nilp
 | nils : Den0 .nils .nils
 | sl (own : Bool) (sz : Nat) {xs ys} (h : Pw (Pw Den0) xs ys) : Den0 (.sl own sz xs) (.slice own sz ys)
 | sln (own : Bool) (sz : Nat) : Den0 (.sl own sz []) .nils
 | func (f : Nat) : Den0 (.func f []) (.func f [])
 | nilf : Den0 .nilf .nilf
 | nili : Den0 .nili .nili
 | erri : Den0 (.err true) .erri
 | errn : Den0 (.err false) .nili
inductive RootR (ρ : List Nat) : Root → Root → Prop
 | mem {i b : Nat} (o : Nat) (h : ρ[i]? = some b) : RootR ρ (.mem i o) (.mem b o)
 | loc (j o : Nat) : RootR ρ (.loc j o) (.loc j o)
 | tmp (s : Nat) : RootR ρ (.tmp s) (.tmp s)
inductive Den (ρ : List Nat) : TV → V → Prop
 | base {t v} (h : Den0 t v) : Den ρ t v
 | ptr {i b : Nat} (o : Nat) (h : ρ[i]? = some b) : Den ρ (.ptr i o) (.ptr b o)
 | loc (j o : Nat) : Den ρ (.loc j o) (.loc j o)
 | ro {cs cs'} (o : Nat) (h : Pw (Den ρ) cs cs') : Den ρ (.ro cs o) (.ro cs' o)
 | el {r r'} (sz i k : Nat) (h : RootR ρ r r') : Den ρ (.el r sz i k) (.el r' sz i k)
 | place {r r'} (h : RootR ρ r r') : Den ρ (.place r) (.place r')
 | agg {cs cs'} (h : Pw (Den ρ) cs cs') : Den ρ (.agg cs) (.agg cs')
 | tuple {cs cs'} (h : Pw (Den ρ) cs cs') : Den ρ (.tuple cs) (.tuple cs')
 | func (f : Nat) {cs cs'} (h : Pw (Den ρ) cs cs') : Den ρ (.func f cs) (.func f cs')
section pw
variable {α β γ : Type} {R : α → β → Prop}
theorem Pw.length {l : List α} {l' : List β} (h : Pw R l l') : l.length = l'.length := by
 induction h with
 | nil => rfl
 | cons _ _ ih => simp [ih]
theorem Pw.get {l : List α} {l' : List β} (h : Pw R l l') : ∀ {i : Nat} {x : α}, l[i]? = some x → ∃ y, l'[i]? = some y ∧ R x y := by
 induction h with
 | nil => intro i x hx; simp at hx
 | cons hr _ ih =>
  intro i x hx
  cases i with
  | zero => simp only [List.getElem?_cons_zero, yaa] at hx; subst hx; exact ⟨_, rfl, hr⟩
  | succ i => simp only [List.getElem?_cons_succ] at hx; exact ih hx
theorem Pw.append {l m : List α} {l' m' : List β} (h : Pw R l l') (g : Pw R m m') : Pw R (l ++ m) (l' ++ m') := by
 induction h with
 | nil => exact g
 | cons hr _ ih => exact .cons hr ih
theorem Pw.drop {l : List α} {l' : List β} (h : Pw R l l') : ∀ n, Pw R (l.drop n) (l'.drop n) := by
 induction h with
 | nil => intro n; simpa using Pw.nil
 | cons hr t ih =>
  intro n
  cases n with
  | zero => exact .cons hr t
  | succ n => exact ih n
theorem Pw.take {l : List α} {l' : List β} (h : Pw R l l') : ∀ n, Pw R (l.take n) (l'.take n) := by
 induction h with
 | nil => intro n; simpa using Pw.nil
 | cons hr t ih =>
  intro n
  cases n with
  | zero => exact .nil
  | succ n => exact .cons hr (ih n)
theorem Pw.set {l : List α} {l' : List β} (h : Pw R l l') {x : α} {y : β} (hxy : R x y) : ∀ n, Pw R (l.set n x) (l'.set n y) := by
 induction h with
 | nil => intro n; simpa using Pw.nil
 | cons hr t ih =>
  intro n
  cases n with
  | zero => exact .cons hxy t
  | succ n => exact .cons hr (ih n)
theorem Pw.mono {R' : α → β → Prop} (hm : ∀ x y, R x y → R' x y) {l : List α} {l' : List β} (h : Pw R l l') : Pw R' l l' := by
 induction h with
 | nil => exact .nil
 | cons hr _ ih => exact .cons (hm _ _ hr) ih
theorem Pw.maps {α' β' : Type} {R' : α' → β' → Prop} {f : α → α'} {g : β → β'} (hm : ∀ x y, R x y → R' (f x) (g y)) {l : List α} {l' : List β} (h : Pw R l l') : Pw R' (l.map f) (l'.map g) := by
 induction h with
 | nil => exact .nil
 | cons hr _ ih => exact .cons (hm _ _ hr) ih
theorem Pw.replicate {x : α} {y : β} (h : R x y) : ∀ n, Pw R (List.replicate n x) (List.replicate n y)
 | 0 => .nil
 | n + 1 => .cons h (Pw.replicate h n)
theorem Pw.all {p : α → Bool} {q : β → Bool} (hm : ∀ x y, R x y → p x = true → q y = true) {l : List α} {l' : List β} (h : Pw R l l') (ha : l.all p = true) : l'.all q = true := by
 induction h with
 | nil => rfl
 | cons hr _ ih =>
  simp only [List.all_cons, yae] at ha ⊢
  exact ⟨hm _ _ hr ha.1, ih ha.2⟩
theorem Pw.any {p : α → Bool} {q : β → Bool} (hm : ∀ x y, R x y → p x = false → q y = false) {l : List α} {l' : List β} (h : Pw R l l') (ha : l.any p = false) : l'.any q = false := by
 induction h with
 | nil => rfl
 | cons hr _ ih =>
  simp only [List.any_cons, Bool.or_eq_false_iff] at ha ⊢
  exact ⟨hm _ _ hr ha.1, ih ha.2⟩
end pw
theorem Den.mono {ρ : List Nat} (e : List Nat) {t : TV} {v : V} (h : Den ρ t v) : Den (ρ ++ e) t v := by
 have key : ∀ {i b : Nat}, ρ[i]? = some b → (ρ ++ e)[i]? = some b := fun {i b} h => by
  rw [yaq (zax h)]; exact h
 have rt : ∀ {r r'}, RootR ρ r r' → RootR (ρ ++ e) r r' := fun h => by
  cases h with
  | mem o h => exact .mem o (key h)
  | loc j o => exact .loc j o
  | tmp s => exact .tmp s
 refine Den.rec (motive_1 := fun t v _ => Den (ρ ++ e) t v) (motive_2 := fun l l' _ => Pw (Den (ρ ++ e)) l l') ?_ ?_ ?_ ?_ ?_ ?_ ?_ ?_ ?_ ?_ ?_ h
 ·intro t v h; exact .base h
 ·intro i b o h; exact .ptr o (key h)
 ·intro j o; exact .loc j o
 ·intro cs cs' o _ h; exact .ro o h
 ·intro r r' sz i k h; exact .el sz i k (rt h)
 ·intro r r' h; exact .place (rt h)
 ·intro cs cs' _ h; exact .agg h
 ·intro cs cs' _ h; exact .tuple h
 ·intro f cs cs' _ h; exact .func f h
 ·exact .nil
 ·intro a b l l' _ _ h1 h2; exact .cons h1 h2
section tv
def TV.cells : TV → List TV
 | .agg cs => cs
 | v => [v]
def TV.own0 : TV → Bool
 | .sl true _ _ => true
 | .undef => true
 | _ => false
def TV.own1 : TV → Bool
 | .agg cs => cs.any TV.own0
 | v => v.own0
def TV.hasOwn : TV → Bool
 | .tuple vs => vs.any TV.own1
 | v => v.own1
def TV.share0 : TV → TV
 | .sl _ sz xs => .sl false sz xs
 | v => v
def TV.share : TV → TV
 | .agg cs => .agg (cs.map TV.share0)
 | v => v.share0
def TV.good : TV → Bool
 | .bool _ | .int _ _ | .str _ | .nilp | .nils | .sl false _ _ | .nilf | .nili | .err _ => true
 | .func _ cs => cs.isEmpty
 | _ => false
def TV.left : TV → TV
 | .sl true _ _ => .undef
 | v => v
def TV.low0 : TV → Bool
 | .bool _ | .int _ _ | .str _ | .nilp | .nils | .sl _ _ _ | .nilf | .nili | .err _ => true
 | .func _ cs => cs.isEmpty
 | _ => false
def TV.low1 : TV → Bool
 | .agg cs => cs.all TV.low0
 | v => v.low0
def TV.low2 : TV → Bool
 | .tuple vs => vs.all TV.low1
 | v => v.low1
def zhF : TV → Bool
 | .ptr _ _ => true
 | _ => false
def TV.ok0 : TV → Bool
 | .bool _ | .int _ _ | .str _ | .nilp | .ptr _ _ | .nils | .sl _ _ _ | .nilf | .nili | .err _ => true
 | .func _ cs => cs.all zhF
 | _ => false
def TV.ok1 : TV → Bool
 | .agg cs => cs.all TV.ok0
 | v => v.ok0
def TV.okArg : TV → Bool
 | .agg cs => cs.all TV.ok0
 | .place (.mem _ _) | .el (.mem _ _) _ _ _ => true
 | v => v.ok0
def zlp (lean : Bool) : TV → Bool
 | .place (.tmp _) | .el (.tmp _) _ _ _ => false
 | .place _ | .el _ _ _ _ => !lean
 | .undef => false
 | _ => true
def zkN : TV → TV
 | .place (.mem _ _) | .place (.loc _ _) | .el (.mem _ _) _ _ _ | .el (.loc _ _) _ _ _ => .undef
 | v => v
def killLocV : TV → TV
 | .place (.loc _ _) | .el (.loc _ _) _ _ _ => .undef
 | v => v
def killAtV (off n : Nat) : TV → TV
 | .place (.mem b o) => bif Nat.ble off o && Nat.ble (o + 1) (off + n) then .undef else .place (.mem b o)
 | .el (.mem b o) z i k => bif Nat.ble off o && Nat.ble (o + 1) (off + n) then .undef else .el (.mem b o) z i k
 | v => v
def killMV : TV → TV
 | .place (.mem _ _) | .el (.mem _ _) _ _ _ => .undef
 | v => v
def killTV (d : Nat) : TV → TV
 | .place (.tmp s) => bif Nat.beq s d then .undef else .place (.tmp s)
 | .el (.tmp s) z i k => bif Nat.beq s d then .undef else .el (.tmp s) z i k
 | v => v
def killLV (j : Nat) : TV → TV
 | .loc j' o => bif Nat.beq j' j then .undef else .loc j' o
 | .place (.loc j' o) => bif Nat.beq j' j then .undef else .place (.loc j' o)
 | .el (.loc j' o) z i k => bif Nat.beq j' j then .undef else .el (.loc j' o) z i k
 | v => v
def zgo (d : Option Nat) : TV → Bool
 | .place (.tmp s) => d == some s
 | .el (.tmp s) _ _ _ => d == some s
 | _ => false
variable {ρ : List Nat} {t : TV} {v : V}
theorem Den.undef' (v : V) : Den ρ .undef v := .base (.undef v)
theorem Den.cells (h : Den ρ t v) (ho : t.ok1 = true) : Pw (Den ρ) t.cells v.cells := by
 cases h with
 | agg h => exact h
 | base h0 =>
  have hh := Den.base (ρ := ρ) h0
  cases h0 with
  | undef v => cases ho
  | _ => exact .cons hh .nil
 | ptr o h => exact .cons (.ptr o h) .nil
 | loc j o => exact .cons (.loc j o) .nil
 | ro o h => exact .cons (.ro o h) .nil
 | el sz i k h => exact .cons (.el sz i k h) .nil
 | place h => exact .cons (.place h) .nil
 | tuple h => exact .cons (.tuple h) .nil
 | func f h => exact .cons (.func f h) .nil
theorem Den.own0 (h : Den ρ t v) (ho : t.own0 = false) : v.own0 = false := by
 cases h with
 | base h0 =>
  cases h0 with
  | undef v => cases ho
  | sl own sz _ => cases own <;> first | rfl | cases ho
  | _ => rfl
 | _ => rfl
theorem Den.own1 (h : Den ρ t v) (ho : t.own1 = false) : v.own1 = false := by
 cases h with
 | agg h => exact Pw.any (p := TV.own0) (q := V.own0) (fun _ _ h ho => Den.own0 h ho) h ho
 | base h0 =>
  cases h0 with
  | undef v => cases ho
  | sl own sz _ => cases own <;> first | rfl | cases ho
  | _ => rfl
 | _ => rfl
theorem Den.hasOwn (h : Den ρ t v) (ho : t.hasOwn = false) : v.hasOwn = false := by
 cases h with
 | tuple h => exact Pw.any (p := TV.own1) (q := V.own1) (fun _ _ h ho => Den.own1 h ho) h ho
 | agg h => exact (Den.agg h).own1 ho
 | base h0 =>
  cases h0 with
  | undef v => cases ho
  | sl own sz _ => cases own <;> first | rfl | cases ho
  | _ => rfl
 | _ => rfl
theorem Den.share0 (h : Den ρ t v) : Den ρ t.share0 v.share0 := by
 cases h with
 | base h0 =>
  cases h0 with
  | undef v => exact .undef' _
  | sl own sz h => exact .base (.sl false sz h)
  | sln own sz => exact .base (.sln false sz)
  | bool b => exact .base (.bool b)
  | int k n => exact .base (.int k n)
  | str s => exact .base (.str s)
  | nilp => exact .base .nilp
  | nils => exact .base .nils
  | func f => exact .base (.func f)
  | nilf => exact .base .nilf
  | nili => exact .base .nili
  | erri => exact .base .erri
  | errn => exact .base .errn
 | ptr o h => exact .ptr o h
 | loc j o => exact .loc j o
 | ro o h => exact .ro o h
 | el sz i k h => exact .el sz i k h
 | place h => exact .place h
 | tuple h => exact .tuple h
 | func f h => exact .func f h
 | agg h => exact .agg h
theorem Den.share (h : Den ρ t v) : Den ρ t.share v.share := by
 cases h with
 | agg h => exact .agg (Pw.maps (f := TV.share0) (g := V.share0) (fun _ _ h => Den.share0 h) h)
 | base h0 =>
  cases h0 with
  | undef v => exact .undef' _
  | sl own sz h => exact .base (.sl false sz h)
  | sln own sz => exact .base (.sln false sz)
  | bool b => exact .base (.bool b)
  | int k n => exact .base (.int k n)
  | str s => exact .base (.str s)
  | nilp => exact .base .nilp
  | nils => exact .base .nils
  | func f => exact .base (.func f)
  | nilf => exact .base .nilf
  | nili => exact .base .nili
  | erri => exact .base .erri
  | errn => exact .base .errn
 | ptr o h => exact .ptr o h
 | loc j o => exact .loc j o
 | ro o h => exact .ro o h
 | el sz i k h => exact .el sz i k h
 | place h => exact .place h
 | tuple h => exact .tuple h
 | func f h => exact .func f h
theorem Den.left (h : Den ρ t v) : Den ρ t.left v.left := by
 cases h with
 | base h0 =>
  cases h0 with
  | undef v => exact .undef' _
  | sl own sz h => cases own with
   | true => exact .undef' _
   | false => exact .base (.sl false sz h)
  | sln own sz => cases own with
   | true => exact .undef' _
   | false => exact .base (.sln false sz)
  | bool b => exact .base (.bool b)
  | int k n => exact .base (.int k n)
  | str s => exact .base (.str s)
  | nilp => exact .base .nilp
  | nils => exact .base .nils
  | func f => exact .base (.func f)
  | nilf => exact .base .nilf
  | nili => exact .base .nili
  | erri => exact .base .erri
  | errn => exact .base .errn
 | ptr o h => exact .ptr o h
 | loc j o => exact .loc j o
 | ro o h => exact .ro o h
 | el sz i k h => exact .el sz i k h
 | place h => exact .place h
 | tuple h => exact .tuple h
 | func f h => exact .func f h
 | agg h => exact .agg h
theorem Den0.good (h : Den0 t v) (hg : t.good = true) : v.good = true := by
 cases h with
 | undef v => cases hg
 | sl own sz _ => cases own <;> first | rfl | cases hg
 | func f => rfl
 | _ => rfl
theorem Den.good (h : Den ρ t v) (hg : t.good = true) : Den0 t v ∧ v.good = true := by
 cases h with
 | base h0 => exact ⟨h0, h0.good hg⟩
 | func f h =>
  cases h with
  | nil => exact ⟨.func f, rfl⟩
  | cons _ _ => cases hg
 | _ => cases hg
theorem Den.okCap (h : Den ρ t v) (hg : zhF t = true) : Am.okCap v = true := by
 cases h with
 | base h0 => cases h0 <;> cases hg
 | ptr o h => rfl
 | _ => cases hg
theorem Den.ok0 (h : Den ρ t v) (hg : t.ok0 = true) : v.ok0 = true := by
 cases h with
 | base h0 => cases h0 <;> first | rfl | cases hg
 | ptr o h => rfl
 | func f h => exact Pw.all (p := zhF) (q := Am.okCap) (fun _ _ h ho => Den.okCap h ho) h hg
 | _ => cases hg
theorem Den.ok1 (h : Den ρ t v) (hg : t.ok1 = true) : v.ok1 = true := by
 cases h with
 | base h0 => cases h0 <;> first | rfl | cases hg
 | ptr o h => rfl
 | func f h => exact Pw.all (p := zhF) (q := Am.okCap) (fun _ _ h ho => Den.okCap h ho) h hg
 | agg h => exact Pw.all (p := TV.ok0) (q := V.ok0) (fun _ _ h ho => Den.ok0 h ho) h hg
 | _ => cases hg
theorem Den.okArg (h : Den ρ t v) (hg : t.okArg = true) : v.okArg = true := by
 cases h with
 | base h0 => cases h0 <;> first | rfl | cases hg
 | ptr o h => rfl
 | func f h => exact Pw.all (p := zhF) (q := Am.okCap) (fun _ _ h ho => Den.okCap h ho) h hg
 | agg h => exact Pw.all (p := TV.ok0) (q := V.ok0) (fun _ _ h ho => Den.ok0 h ho) h hg
 | place h => cases h <;> first | rfl | cases hg
 | el sz i k h => cases h <;> first | rfl | cases hg
 | _ => cases hg
theorem Den.rootOk {lean : Bool} (h : Den ρ t v) (hg : zlp lean t = true) : Am.rootOk lean v = true := by
 cases h with
 | base h0 => cases h0 <;> first | rfl | cases hg
 | place h => cases h <;> first | exact hg | rfl
 | el sz i k h => cases h <;> first | exact hg | rfl
 | _ => rfl
theorem Den.killMV (h : Den ρ t v) : Den ρ (T.killMV t) (Am.killMV v) := by
 cases h with
 | base h0 => cases h0 with
  | undef v => exact .undef' _
  | _ => exact .base (by constructor <;> assumption)
 | place h => cases h with
  | tmp s => exact .place (.tmp s)
  | loc j o => exact .place (.loc j o)
  | mem o h => exact .undef' _
 | el sz i k h => cases h with
  | tmp s => exact .el _ _ _ (.tmp s)
  | loc j o => exact .el _ _ _ (.loc j o)
  | mem o h => exact .undef' _
 | ptr o h => exact .ptr o h
 | loc j o => exact .loc j o
 | ro o h => exact .ro o h
 | tuple h => exact .tuple h
 | func f h => exact .func f h
 | agg h => exact .agg h
theorem Den.killLocV (h : Den ρ t v) : Den ρ (T.killLocV t) (Am.killLocV v) := by
 cases h with
 | base h0 => cases h0 with
  | undef v => exact .undef' _
  | _ => exact .base (by constructor <;> assumption)
 | place h => cases h with
  | tmp s => exact .place (.tmp s)
  | mem o h => exact .place (.mem o h)
  | loc j o => exact .undef' _
 | el sz i k h => cases h with
  | tmp s => exact .el _ _ _ (.tmp s)
  | mem o h => exact .el _ _ _ (.mem o h)
  | loc j o => exact .undef' _
 | ptr o h => exact .ptr o h
 | loc j o => exact .loc j o
 | ro o h => exact .ro o h
 | tuple h => exact .tuple h
 | func f h => exact .func f h
 | agg h => exact .agg h
theorem zpy {α : Type} {off n o : Nat} {x y : α} : (bif Nat.ble off o && Nat.ble (o + 1) (off + n) then x else y) = if off ≤ o ∧ o < off + n then x else y := by
 by_cases h : off ≤ o ∧ o < off + n
 ·rw [if_pos h, Nat.ble_eq_true_of_le h.1, Nat.ble_eq_true_of_le (show o + 1 ≤ off + n from h.2)]; rfl
 ·rw [if_neg h]
  cases h1 : Nat.ble off o with
  | false => rfl
  | true =>
   cases h2 : Nat.ble (o + 1) (off + n) with
   | false => rfl
   | true => exact absurd ⟨Nat.le_of_ble_eq_true h1, Nat.le_of_ble_eq_true h2⟩ h
theorem Den.killAtV (off n : Nat) (h : Den ρ t v) : Den ρ (T.killAtV off n t) (Am.killAtV off n v) := by
 cases h with
 | base h0 => cases h0 with
  | undef v => exact .undef' _
  | _ => exact .base (by constructor <;> assumption)
 | place h => cases h with
  | tmp s => exact .place (.tmp s)
  | mem o h =>
   simp only [T.killAtV, Am.killAtV, zpy]
   split
   ·exact .undef' _
   ·exact .place (.mem o h)
  | loc j o => exact .place (.loc j o)
 | el sz i k h => cases h with
  | tmp s => exact .el _ _ _ (.tmp s)
  | mem o h =>
   simp only [T.killAtV, Am.killAtV, zpy]
   split
   ·exact .undef' _
   ·exact .el _ _ _ (.mem o h)
  | loc j o => exact .el _ _ _ (.loc j o)
 | ptr o h => exact .ptr o h
 | loc j o => exact .loc j o
 | ro o h => exact .ro o h
 | tuple h => exact .tuple h
 | func f h => exact .func f h
 | agg h => exact .agg h
theorem zkg {α : Type} {a b : Nat} {x y : α} : (bif Nat.beq a b then x else y) = if a = b then x else y := by
 by_cases h : a = b
 ·subst h; simp
 ·have : Nat.beq a b = false := by
   cases hb : Nat.beq a b with
   | false => rfl
   | true => exact absurd (yap hb) h
  simp [h, this]
theorem Den.killTV (d : Nat) (h : Den ρ t v) : Den ρ (T.killTV d t) (Am.killTV d v) := by
 cases h with
 | base h0 => cases h0 with
  | undef v => exact .undef' _
  | _ => exact .base (by constructor <;> assumption)
 | place h => cases h with
  | tmp s =>
   show Den ρ (bif Nat.beq s d then .undef else .place (.tmp s)) (if s = d then .undef else .place (.tmp s))
   rw [zkg]; split
   ·exact .undef' _
   ·exact .place (.tmp s)
  | loc j o => exact .place (.loc j o)
  | mem o h => exact .place (.mem o h)
 | el sz i k h => cases h with
  | tmp s =>
   show Den ρ (bif Nat.beq s d then .undef else .el (.tmp s) sz i k) (if s = d then .undef else .el (.tmp s) sz i k)
   rw [zkg]; split
   ·exact .undef' _
   ·exact .el _ _ _ (.tmp s)
  | loc j o => exact .el _ _ _ (.loc j o)
  | mem o h => exact .el _ _ _ (.mem o h)
 | ptr o h => exact .ptr o h
 | loc j o => exact .loc j o
 | ro o h => exact .ro o h
 | tuple h => exact .tuple h
 | func f h => exact .func f h
 | agg h => exact .agg h
theorem Den.killLV (d : Nat) (h : Den ρ t v) : Den ρ (T.killLV d t) (Am.killLV d v) := by
 cases h with
 | base h0 => cases h0 with
  | undef v => exact .undef' _
  | _ => exact .base (by constructor <;> assumption)
 | place h => cases h with
  | loc j o =>
   show Den ρ (bif Nat.beq j d then .undef else .place (.loc j o)) (if j = d then .undef else .place (.loc j o))
   rw [zkg]; split
   ·exact .undef' _
   ·exact .place (.loc j o)
  | tmp s => exact .place (.tmp s)
  | mem o h => exact .place (.mem o h)
 | el sz i k h => cases h with
  | loc j o =>
   show Den ρ (bif Nat.beq j d then .undef else .el (.loc j o) sz i k) (if j = d then .undef else .el (.loc j o) sz i k)
   rw [zkg]; split
   ·exact .undef' _
   ·exact .el _ _ _ (.loc j o)
  | tmp s => exact .el _ _ _ (.tmp s)
  | mem o h => exact .el _ _ _ (.mem o h)
 | ptr o h => exact .ptr o h
 | loc j o =>
  show Den ρ (bif Nat.beq j d then .undef else .loc j o) (if j = d then .undef else .loc j o)
  rw [zkg]; split
  ·exact .undef' _
  ·exact .loc j o
 | ro o h => exact .ro o h
 | tuple h => exact .tuple h
 | func f h => exact .func f h
 | agg h => exact .agg h
theorem Den.selfPlace {d : Option Nat} (h : Den ρ t v) (hu : t ≠ .undef) (hg : zgo d t = false) : Am.selfPlace d v = false := by
 cases h with
 | base h0 => cases h0 <;> first | rfl | exact absurd rfl hu
 | place h => cases h <;> first | exact hg | rfl
 | el sz i k h => cases h <;> first | exact hg | rfl
 | _ => rfl
theorem Den0.low (h : Den0 t v) (hg : t.low0 = true) : v.top = 0 := by
 cases h <;> first | rfl | cases hg
theorem Den.low (h : Den ρ t v) (hg : t.low0 = true) : v.top = 0 := by
 cases h with
 | base h0 => exact h0.low hg
 | func f h => cases h with
  | nil => rfl
  | cons _ _ => cases hg
 | _ => cases hg
theorem zg2 {cs : List TV} {cs' : List V} (h : Pw (Den ρ) cs cs') (hg : cs.all TV.low0 = true) : tops cs' = 0 := by
 induction h with
 | nil => rfl
 | cons hr _ ih =>
  simp only [List.all_cons, yae] at hg
  have e1 := hr.low hg.1
  have e2 := ih hg.2
  unfold tops at e2 ⊢
  simp only [List.foldr_cons, e1, e2]; rfl
theorem Den.low1 (h : Den ρ t v) (hg : t.low1 = true) : v.top1 = 0 := by
 cases h with
 | base h0 => cases h0 <;> first | rfl | cases hg
 | func f h => cases h with
  | nil => rfl
  | cons _ _ => cases hg
 | agg h => exact zg2 h hg
 | _ => cases hg
theorem Den.low2 (h : Den ρ t v) (hg : t.low2 = true) : v.top2 = 0 := by
 cases h with
 | base h0 => cases h0 <;> first | rfl | cases hg
 | func f h => cases h with
  | nil => rfl
  | cons _ _ => cases hg
 | agg h => exact zg2 h hg
 | tuple h =>
  show List.foldr (fun (v : V) (n : Nat) => max v.top1 n) 0 _ = 0
  have hg' : List.all _ TV.low1 = true := hg
  clear hg
  induction h with
  | nil => rfl
  | cons hr _ ih =>
   simp only [List.all_cons, yae] at hg'
   simp only [List.foldr_cons, hr.low1 hg'.1, ih hg'.2]; rfl
 | _ => cases hg
theorem Den.bool_inv {b : Bool} (h : Den ρ (.bool b) v) : v = .bool b := by
 cases h with
 | base h0 => cases h0; rfl
theorem Den.int_inv {k : IntKind} {n : Int} (h : Den ρ (.int k n) v) : v = .int k n := by
 cases h with
 | base h0 => cases h0; rfl
theorem Den.str_inv {s : List Int} (h : Den ρ (.str s) v) : ∃ b : List UInt8, v = .str b ∧ s = b.map zet := by
 cases h with
 | base h0 => cases h0 with
  | str b => exact ⟨b, rfl, rfl⟩
theorem Den.agg_inv {cs : List TV} (h : Den ρ (.agg cs) v) : ∃ cs', v = .agg cs' ∧ Pw (Den ρ) cs cs' := by
 cases h with
 | base h0 => cases h0
 | agg h => exact ⟨_, rfl, h⟩
theorem Den.tuple_inv {cs : List TV} (h : Den ρ (.tuple cs) v) : ∃ cs', v = .tuple cs' ∧ Pw (Den ρ) cs cs' := by
 cases h with
 | base h0 => cases h0
 | tuple h => exact ⟨_, rfl, h⟩
theorem Den.ptr_inv {i o : Nat} (h : Den ρ (.ptr i o) v) : ∃ b, v = .ptr b o ∧ ρ[i]? = some b := by
 cases h with
 | base h0 => cases h0
 | ptr o h => exact ⟨_, rfl, h⟩
theorem Den.loc_inv {i o : Nat} (h : Den ρ (.loc i o) v) : v = .loc i o := by
 cases h with
 | base h0 => cases h0
 | loc j o => rfl
theorem Den.ro_inv {cs : List TV} {o : Nat} (h : Den ρ (.ro cs o) v) : ∃ cs', v = .ro cs' o ∧ Pw (Den ρ) cs cs' := by
 cases h with
 | base h0 => cases h0
 | ro o h => exact ⟨_, rfl, h⟩
theorem Den.el_inv {r : Root} {sz i k : Nat} (h : Den ρ (.el r sz i k) v) : ∃ r', v = .el r' sz i k ∧ RootR ρ r r' := by
 cases h with
 | base h0 => cases h0
 | el sz i k h => exact ⟨_, rfl, h⟩
theorem Den.place_inv {r : Root} (h : Den ρ (.place r) v) : ∃ r', v = .place r' ∧ RootR ρ r r' := by
 cases h with
 | base h0 => cases h0
 | place h => exact ⟨_, rfl, h⟩
theorem Den.func_inv {f : Nat} {cs : List TV} (h : Den ρ (.func f cs) v) : ∃ cs', v = .func f cs' ∧ Pw (Den ρ) cs cs' := by
 cases h with
 | base h0 => cases h0 with
  | func f => exact ⟨_, rfl, .nil⟩
 | func f h => exact ⟨_, rfl, h⟩
theorem Den.nils_inv (h : Den ρ .nils v) : v = .nils := by
 cases h with
 | base h0 => cases h0; rfl
theorem Den.nilp_inv (h : Den ρ .nilp v) : v = .nilp := by
 cases h with
 | base h0 => cases h0; rfl
theorem Den.nilf_inv (h : Den ρ .nilf v) : v = .nilf := by
 cases h with
 | base h0 => cases h0; rfl
theorem Den.sl_inv {own : Bool} {sz : Nat} {xs : List (List TV)} (h : Den ρ (.sl own sz xs) v) : (∃ ys, v = .slice own sz ys ∧ Pw (Pw Den0) xs ys) ∨ (v = .nils ∧ xs = []) := by
 cases h with
 | base h0 => cases h0 with
  | sl own sz h => exact .inl ⟨_, rfl, h⟩
  | sln own sz => exact .inr ⟨rfl, rfl⟩
theorem Pw.base {cs : List TV} {cs' : List V} (h : Pw Den0 cs cs') : Pw (Den ρ) cs cs' := h.mono fun _ _ h => .base h
end tv
end Go.Proofs.YtakdnfneikbjjaaGreatDoor.Am.T

namespace Go.Proofs.YtakdnfneikbjjaaGreatDoor.Am.T
open Go.Proofs.YtakdnfneikbjjaaGreatDoor.Am
abbrev Ts := List (Nat × TV)
abbrev Bs := List (Nat × List TV)
abbrev Ms := List (List TV)
def mapK (f : TV → TV) : Ts → (Ts → Prop) → Prop
 | [], k => k []
 | (s, v) :: r, k => mapK f r fun r' => k ((s, f v) :: r')
def rdP (v : TV) (p : Prop) : Prop :=
 match v with
 | .undef => False
 | .sl true _ _ => False
 | .agg cs => bif cs.any TV.own0 then False else p
 | .tuple vs => bif vs.any TV.own1 then False else p
 | _ => p
def rdV (v : TV) (k : TV → Prop) : Prop := rdP v (k v)
def cV0 : V → TV
 | .bool b => .bool b
 | .int k n => .int k n
 | .str s => .str (s.map zet)
 | _ => .undef
def cV : V → TV
 | .slice false z xs => .sl false z (xs.map fun cs => cs.map cV0)
 | .bool b => .bool b
 | .int k n => .int k n
 | .str s => .str (s.map zet)
 | .nilp => .nilp
 | .nils => .nils
 | .func f [] => .func f []
 | .nilf => .nilf
 | .nili => .nili
 | _ => .undef
inductive NilOk : TV → Prop
 | nils : NilOk .nils
 | sl (o : Bool) (z : Nat) : NilOk (.sl o z [])
def cK (v : V) (k : TV → Prop) : Prop :=
 match v with
 | .nils => ∃ t, NilOk t ∧ k t
 | v => k (cV v)
def zlq : List V → (List TV → Prop) → Prop
 | [], k => k []
 | v :: r, k => cK v fun t => zlq r fun ts => k (t :: ts)
def zb5 {α : Type} : List α → (List α → Prop) → Prop
 | [], k => k []
 | x :: r, k => zb5 r fun r' => k (x :: r')
def rdC (L : Ts) (o : Opd) (k : TV → Prop) : Prop :=
 match o with
 | .c v => k (cV v)
 | .t s => match fnd L s with
  | some v => rdV v k
  | none => False
 | .u s .peek => k (.place (.tmp s))
 | .u _ _ => False
def rd (L : Ts) (o : Opd) (k : TV → Ts → Prop) : Prop :=
 match o with
 | .c v => cK v fun t => k t L
 | .t s => match fnd L s with
  | some v => rdV v fun v => k v L
  | none => False
 | .u s .take => match fnd L s with
  | some v => k v ((s, .undef) :: L)
  | none => False
 | .u s .share => match fnd L s with
  | some v => k v.share ((s, .undef) :: L)
  | none => False
 | .u s .peek => k (.place (.tmp s)) L
 | .u s .copy => match fnd L s with
  | some v => rdV v fun v => k v L
  | none => False
def rds (L : Ts) : List Opd → (List TV → Ts → Prop) → Prop
 | [], k => k [] L
 | x :: xs, k => rd L x fun v L1 => rds L1 xs fun vs L2 => k (v :: vs) L2
def rdCs (L : Ts) : List Opd → (List TV → Prop) → Prop
 | [], k => k []
 | x :: xs, k => rdC L x fun v => rdCs L xs fun vs => k (v :: vs)
def zlr (L : Ts) (B : Bs) (m : Ms) (r : Root) (k : TV → Prop) : Prop :=
 match r with
 | .mem b o => match m[b]? with
  | some cs => match cs[o]? with
   | some v => k v
   | none => False
  | none => False
 | .loc j o => match fnd B j with
  | some cs => match cs[o]? with
   | some v => k v
   | none => False
  | none => False
 | .tmp s => match fnd L s with
  | some v => k v
  | none => False
def znW (v : TV) (k : List (List TV) → Prop) : Prop :=
 match v with
 | .sl _ _ xs => k xs
 | .nils => k []
 | _ => False
def zl2 (L : Ts) (B : Bs) (m : Ms) (v : TV) (k : List (List TV) → Prop) : Prop :=
 match v with
 | .sl _ _ xs => k xs
 | .nils => k []
 | .place r => zlr L B m r fun v => znW v k
 | _ => False
def znX (sz : Nat) (v : TV) (k : List (List TV) → Prop) : Prop :=
 match v with
 | .nils => k []
 | .sl _ z xs => bif Nat.beq z sz then k xs else False
 | _ => False
def by8 (b : Int) : List TV := [.int .u8 b]
def zja (sz : Nat) (L : Ts) (B : Bs) (m : Ms) (v : TV) (k : List (List TV) → Prop) : Prop :=
 match v with
 | .nils => k []
 | .str s => bif Nat.beq sz 1 then k (s.map by8) else False
 | .sl _ z xs => bif Nat.beq z sz then k xs else False
 | .place r => zlr L B m r fun v => znX sz v k
 | _ => False
def zqq (sz : Nat) (L : Ts) (B : Bs) (m : Ms) (v : TV) (k : List (List TV) → Prop) : Prop :=
 match v with
 | .str _ => False
 | v => zja sz L B m v k
def TV.bare : TV → Bool
 | .int _ _ | .bool _ | .str _ => true
 | _ => false
def setT (cs : List TV) (off : Nat) (vs : List TV) : List TV := cs.take off ++ vs ++ cs.drop (off + vs.length)
def ldW (mode : Use) (root : Root) (agg : Bool) (n : Nat) (cs : List TV) (off : Nat) (k : TV → Option (List TV) → Prop) : Prop :=
 match agg with
 | false => bif Nat.beq n 1 then match cs[off]? with
  | some v => match mode with
   | .copy => bif v.own0 then False else k v none
   | .take => zb5 (cs.set off v.left) fun c => k v (some c)
   | .share => zb5 (cs.set off v.share0) fun c => k v.share0 (some c)
   | .peek => k (.place root) none
  | none => False
  else False
 | true => bif Nat.ble (off + n) cs.length then match mode with
   | .copy => bif ((cs.drop off).take n).any TV.own0 then False else zb5 ((cs.drop off).take n) fun d => k (.agg d) none
   | .take => zb5 ((cs.drop off).take n) fun d => zb5 (setT cs off (d.map TV.left)) fun c => k (.agg d) (some c)
   | .share => zb5 (((cs.drop off).take n).map TV.share0) fun d => zb5 (setT cs off d) fun c => k (.agg d) (some c)
   | .peek => False
  else False
def loadW (agg : Bool) (n : Nat) (mode : Use) (L : Ts) (B : Bs) (m : Ms) (a : TV) (k : TV → Bs → Ms → Prop) : Prop :=
 match a with
 | .ptr b off => match m[b]? with
  | some cs => ldW mode (.mem b off) agg n cs off fun v c => match c with
   | none => k v B m
   | some c => zb5 (m.set b c) fun m' => k v B m'
  | none => False
 | .loc j off => match mode with
  | .share => False
  | mode => match fnd B j with
   | some cs => ldW mode (.loc j off) agg n cs off fun v c => match c with
    | none => k v B m
    | some c => k v ((j, c) :: B) m
   | none => False
 | .ro cs off => match mode with
  | .copy => match agg with
   | false => bif Nat.beq n 1 then (match cs[off]? with
    | some v => k v B m
    | none => False) else False
   | true => bif Nat.ble (off + n) cs.length then zb5 ((cs.drop off).take n) fun d => k (.agg d) B m else False
  | _ => False
 | .el r z i o => match mode with
  | .copy => zlr L B m r fun v => match v with
   | .sl true sz xs => bif Nat.beq z sz then ∃ cs, xs[i]? = some cs ∧ match agg with
     | false => bif Nat.beq n 1 then (match cs[o]? with
      | some v => k v B m
      | none => False) else False
     | true => bif Nat.ble (o + n) cs.length then zb5 ((cs.drop o).take n) fun d => k (.agg d) B m else False
    else False
   | _ => False
  | _ => False
 | _ => False
def znY (n : Nat) (cells : List TV) (L : Ts) (B : Bs) (m : Ms) (a : TV) (k : Ts → Bs → Ms → Prop) : Prop :=
 match a with
 | .ptr b off => match m[b]? with
  | some old => bif Nat.ble (off + n) old.length && Nat.beq cells.length n && cells.all TV.ok0 && cells.all TV.low0 then mapK (killAtV off n) L fun L' => zb5 (setT old off cells) fun c => zb5 (m.set b c) fun m' => k L' B m' else False
  | none => False
 | .loc j off => match fnd B j with
  | some old => bif Nat.ble (off + n) old.length && Nat.beq cells.length n && cells.all TV.ok0 then mapK killLocV L fun L' => zb5 (setT old off cells) fun c => k L' ((j, c) :: B) m else False
  | none => False
 | .el r z i o => bif Nat.beq cells.length n && cells.all TV.good then (match r with
  | .mem b q => match m[b]? with
   | some old => match old[q]? with
    | some (.sl true sz xs) => bif Nat.beq z sz then ∃ cs, xs[i]? = some cs ∧ bif Nat.ble (o + n) cs.length then ∃ zs, zs = xs.set i (setT cs o cells) ∧ zb5 (old.set q (.sl true sz zs)) fun c => zb5 (m.set b c) fun m' => k L B m' else False else False
    | _ => False
   | none => False
  | .loc j q => match fnd B j with
   | some old => match old[q]? with
    | some (.sl true sz xs) => bif Nat.beq z sz then ∃ cs, xs[i]? = some cs ∧ bif Nat.ble (o + n) cs.length then ∃ zs, zs = xs.set i (setT cs o cells) ∧ zb5 (old.set q (.sl true sz zs)) fun c => k L ((j, c) :: B) m else False else False
    | _ => False
   | none => False
  | .tmp s => match fnd L s with
   | some (.sl true sz xs) => bif Nat.beq z sz then ∃ cs, xs[i]? = some cs ∧ bif Nat.ble (o + n) cs.length then ∃ zs, zs = xs.set i (setT cs o cells) ∧ k ((s, .sl true sz zs) :: L) B m else False else False
   | _ => False) else False
 | _ => False
def zpb (L : Ts) (cells : List TV) : List (Nat × Nat × Opd) → (List TV → Ts → Prop) → Prop
 | [], k => k cells L
 | (off, n, x) :: r, k => rd L x fun v L1 => bif Nat.beq v.cells.length n && Nat.ble (off + n) cells.length && v.ok1 then zb5 (setT cells off v.cells) fun c => zpb L1 c r k else False
def zl3 (L : Ts) (sz : Nat) (xs : List (List TV)) : List (Nat × Opd) → (List (List TV) → Ts → Prop) → Prop
 | [], k => k xs L
 | (i, x) :: r, k => rd L x fun v L1 => bif Nat.beq v.cells.length sz && Nat.blt i xs.length && v.ok1 && v.cells.all TV.good then zb5 (xs.set i v.cells) fun ys => zl3 L1 sz ys r k else False
def bndW (L : Ts) (dflt : Nat) (o : Option Opd) (k : Nat → Prop) : Prop :=
 match o with
 | none => k dflt
 | some x => rdC L x fun v => match v with
  | .int _ i => 0 ≤ i ∧ k i.toNat
  | _ => False
def tell (b : Bool) (k : TV → Prop) : Prop := ∀ c : Bool, b = c → k (.bool c)
def binW (op : BinOp) (x y : TV) (k : TV → Prop) : Prop :=
 match x, y with
 | .int a n, .int b p => match op with
  | .shl => 0 ≤ p ∧ k (.int a (a.wrap (n * 2 ^ min p.toNat a.bits)))
  | .shr => 0 ≤ p ∧ k (.int a (n.fdiv (2 ^ min p.toNat a.bits)))
  | .add => bif decide (a = b) then k (.int a (a.wrap (n + p))) else False
  | .sub => bif decide (a = b) then k (.int a (a.wrap (n - p))) else False
  | .mul => bif decide (a = b) then k (.int a (a.wrap (n * p))) else False
  | .quo => bif decide (a = b) then p ≠ 0 ∧ k (.int a (a.wrap (n.tdiv p))) else False
  | .rem => bif decide (a = b) then p ≠ 0 ∧ k (.int a (n.tmod p)) else False
  | .and => bif decide (a = b) then k (.int a (a.wrap ((BitVec.ofInt a.bits n &&& BitVec.ofInt a.bits p).toNat))) else False
  | .or => bif decide (a = b) then k (.int a (a.wrap ((BitVec.ofInt a.bits n ||| BitVec.ofInt a.bits p).toNat))) else False
  | .xor => bif decide (a = b) then k (.int a (a.wrap ((BitVec.ofInt a.bits n ^^^ BitVec.ofInt a.bits p).toNat))) else False
  | .andNot => bif decide (a = b) then k (.int a (a.wrap ((BitVec.ofInt a.bits n &&& ~~~ (BitVec.ofInt a.bits p)).toNat))) else False
  | .eql => bif decide (a = b) then tell (decide (n = p)) k else False
  | .neq => bif decide (a = b) then tell (decide (n ≠ p)) k else False
  | .lss => bif decide (a = b) then tell (decide (n < p)) k else False
  | .leq => bif decide (a = b) then tell (decide (n ≤ p)) k else False
  | .gtr => bif decide (a = b) then tell (decide (n > p)) k else False
  | .geq => bif decide (a = b) then tell (decide (n ≥ p)) k else False
 | .str s, .str t => match op with
  | .add => s.length + t.length ≤ 4611686018427387904 ∧ ∃ u, u = s ++ t ∧ k (.str u)
  | .eql => tell (decide (s = t)) k
  | .neq => tell (decide (s ≠ t)) k
  | _ => False
 | _, _ => False
def zpc : LK → TV → TV → Option Bool
 | .int, .int k a, .int k' b => bif decide (k = k') then some (decide (a = b)) else none
 | .bool, .bool a, .bool b => some (a == b)
 | .str, .str a, .str b => some (decide (a = b))
 | _, _, _ => none
def zhG : List LK → List TV → List TV → Option Bool
 | [], [], [] => some true
 | k :: ks, x :: xs, y :: ys => match zpc k x y with
  | some b => match zhG ks xs ys with
   | some c => some (b && c)
   | none => none
  | none => none
 | _, _, _ => none
def eqT (kind : EqK) (x y : TV) : Option Bool :=
 match kind, x, y with
 | .ptr, .nilp, .nilp => some true
 | .ptr, .nilp, .ptr _ _ | .ptr, .ptr _ _, .nilp | .ptr, .nilp, .loc _ _ | .ptr, .loc _ _, .nilp => some false
 | .slice, .nils, .nils => some true
 | .func, .nilf, .nilf => some true
 | .func, .nilf, .func _ _ | .func, .func _ _, .nilf => some false
 | _, _, _ => none
def eqW (neg : Bool) (kind : EqK) (x y : TV) (k : TV → Prop) : Prop :=
 match kind with
 | .bool => match x, y with
  | .bool a, .bool b => tell (bif neg then !(a == b) else (a == b)) k
  | _, _ => False
 | .plain ks => match x, y with
  | .agg xs, .agg ys => match zhG ks xs ys with
   | some b => tell (bif neg then !b else b) k
   | none => False
  | _, _ => False
 | .slice => match x, y with
  | .sl _ _ xs, .nils => ∀ c : Bool, (c = true → xs = []) → k (.bool (bif neg then !c else c))
  | .nils, .sl _ _ xs => ∀ c : Bool, (c = true → xs = []) → k (.bool (bif neg then !c else c))
  | .nils, .nils => k (.bool (bif neg then !true else true))
  | _, _ => False
 | .iface => match x, y with
  | .err a, .nili => tell (bif neg then a else !a) k
  | _, _ => False
 | kind => match eqT kind x y with
  | some b => k (.bool (bif neg then !b else b))
  | none => False
def unW (op : UnOp) (x : TV) (k : TV → Prop) : Prop :=
 match op, x with
 | .neg, .int kd n => k (.int kd (kd.wrap (0 - n)))
 | .not, .bool b => k (.bool !b)
 | .xor, .int kd n => k (.int kd (kd.wrap ((BitVec.ofInt kd.bits (if kd.signed then -1 else kd.max) ^^^ BitVec.ofInt kd.bits n).toNat)))
 | _, _ => False
def appW (sz : Nat) (ys : List (List TV)) (xs : List (List TV)) (z : Nat) (k : TV → Prop) : Prop :=
 bif Nat.beq z sz then xs.length + ys.length ≤ most ∧ ∃ zs, zs = xs ++ ys ∧ k (.sl true sz zs) else False
def zi7 (mx : Bool) (v : TV) (vs : List TV) (k : TV → Prop) : Prop :=
 match v, vs with
 | .int kd a, [.int kd' b] => bif decide (kd = kd') then (match mx with
  | false => k (.int kd (min a b))
  | true => k (.int kd (max a b))) else False
 | _, _ => False
def Mg (ρ : List Nat) (M : Ms) (m : Am.Ms) : Prop := ρ.Nodup ∧ ρ.length = M.length ∧ ∀ (i b : Nat), ρ[i]? = some b → ∃ (cs : List TV) (cs' : List V), M[i]? = some cs ∧ m[b]? = some cs' ∧ Pw (Den ρ) cs cs'
def Fr (ρ : List Nat) (m : Am.Ms) (ρ' : List Nat) (m' : Am.Ms) : Prop := (∃ e, ρ' = ρ ++ e ∧ ∀ b ∈ e, m.length ≤ b) ∧ m.length ≤ m'.length ∧ ∀ c : Nat, c < m.length → c ∉ ρ → m'[c]? = m[c]?
def zak (q : Bool) (cf : CF) (f : Nat) (args : List TV) (M : Ms) (r : TV) (M' : Ms) : Prop :=
 ∀ ρ m args', Mg ρ M m → Pw (Den ρ) args args' → ∃ r' m' ρ', cf f args' m = some (r', m') ∧ Den ρ' r r' ∧ Mg ρ' M' m' ∧ Fr ρ m ρ' m' ∧ (r.low2 = true → m'.length = m.length) ∧ (q = true → m' = m)
def zqN (n : Int) : List Int := (Utf8.encode n).data.toList.map zet
def TV.flatA0 : TV → Bool
 | .bool _ | .int _ _ | .str _ | .nilp | .nils | .sl _ _ _ | .nilf | .nili | .err _ => true
 | .func _ cs => cs.isEmpty
 | _ => false
def TV.flatA : TV → Bool
 | .agg cs => cs.all TV.flatA0
 | v => v.flatA0
def znZ (L : Ts) (B : Bs) (m : Ms) (v : TV) (k : TV → Prop) : Prop :=
 match v with
 | .place r => zlr L B m r fun v => match v with
  | .nils => k .nils
  | .sl _ z xs => k (.sl false z xs)
  | _ => False
 | v => bif v.flatA && !v.hasOwn then k v else False
def zpd (L : Ts) (B : Bs) (m : Ms) : List TV → (List TV → Prop) → Prop
 | [], k => k []
 | v :: vs, k => znZ L B m v fun u => zpd L B m vs fun us => k (u :: us)
def TV.flatR : TV → Bool
 | .tuple vs => vs.all TV.flatA
 | v => v.flatA
def zbK (q : Bool) (cf : CF) (op : AOp) (L : Ts) (B : Bs) (m : Ms) (k : TV → Ts → Bs → Ms → Prop) : Prop :=
 match op with
 | .mv x => rd L x fun v L' => k v L' B m
 | .mvK s => match fnd L s with
  | some (.sl _ z xs) => k (.sl false z xs) ((s, .sl false z xs) :: L) B m
  | some .nils => k .nils L B m
  | _ => False
 | .pick c a b => rdC L c fun v => match v with
  | .bool t => rdC L (bif t then a else b) fun w => k w L B m
  | _ => False
 | .allocL j zero => bif zero.all V.ok0 then zlq zero fun z => mapK (killLV j) L fun L' => k (.loc j 0) L' ((j, z) :: B) m else False
 | .allocM zero => bif zero.all V.ok0 then zlq zero fun z => bif z.all TV.low0 then zb5 (m ++ [z]) fun m' => k (.ptr m.length 0) L B m' else False else False
 | .boxL j x => rd L x fun v L1 => bif v.ok1 then mapK (killLV j) L1 fun L' => k (.loc j 0) L' ((j, v.cells) :: B) m else False
 | .boxM x => rd L x fun v L1 => bif v.ok1 then zb5 (m ++ [v.cells]) fun m' => k (.ptr m.length 0) L1 B m' else False
 | .build zero parts => zlq zero fun z => zpb L z parts fun cs L' => k (.agg cs) L' B m
 | .buildSlice sz zero len parts => bif Nat.beq zero.length sz && zero.all V.good then zlq zero fun z => bif z.all TV.good then zl3 L sz (List.replicate len z) parts fun xs L' => ∃ zs, zs = xs ∧ k (.sl true sz zs) L' B m else False else False
 | .load agg n p mode => rdC L p fun a => loadW agg n mode L B m a fun v B' m' => k v L B' m'
 | .store n p x => rd L x fun v L1 => rdC L1 p fun a => bif v.ok1 then znY n v.cells L1 B m a fun L' B' m' => k .undef L' B' m' else False
 | .nilCheck x => rdC L x fun v => match v with
  | .ptr .. | .loc .. | .ro .. | .el .. | .func .. => k v L B m
  | _ => False
 | .bin op x y => rdC L x fun a => rdC L y fun b => binW op a b fun v => k v L B m
 | .eq neg kind x y => rdC L x fun a => rdC L y fun b => eqW neg kind a b fun v => k v L B m
 | .un op x => rdC L x fun a => unW op a fun v => k v L B m
 | .conv kd x => rdC L x fun a => match a with
  | .int _ n => k (.int kd (kd.wrap n)) L B m
  | _ => False
 | .strStr x => rdC L x fun a => match a with
  | .str s => k (.str s) L B m
  | _ => False
 | .strBytes x => rdC L x fun a => match a with
  | .str s => k (.sl true 1 (s.map by8)) L B m
  | _ => False
 | .bytesStr x => rdC L x fun a => zl2 L B m a fun xs => ∃ s : List Int, (xs = s.map by8 ∧ ∀ b ∈ s, 0 ≤ b ∧ b < 256) ∧ k (.str s) L B m
 | .intStr x => rdC L x fun a => match a with
  | .int _ n => k (.str (zqN n)) L B m
  | _ => False
 | .convB x => rd L x fun v L1 => match v with
  | .sl true z xs => bif Nat.beq z 1 then xs ≠ [] ∧ k (.sl true 1 xs) L1 B m else False
  | _ => False
 | .makeSlice sz zero l c => rdC L l fun a => rdC L c fun b => match a, b with
  | .int _ n, .int _ q => (0 ≤ n ∧ n ≤ q ∧ q ≤ (most : Int)) ∧ bif Nat.beq zero.length sz && zero.all V.good then zlq zero fun z => bif z.all TV.good then ∃ zs, zs = List.replicate n.toNat z ∧ k (.sl true sz zs) L B m else False else False
  | _, _ => False
 | .sliceS x lo hi => rdC L x fun a => match a with
  | .str s => bndW L s.length hi fun h => bndW L 0 lo fun l => (l ≤ h ∧ h ≤ s.length) ∧ ∃ t, t = (s.drop l).take (h - l) ∧ k (.str t) L B m
  | _ => False
 | .sliceV sz x lo hi => rd L x fun v L1 => match v with
  | .nils => bndW L1 0 hi fun h => bndW L1 0 lo fun l => (l = 0 ∧ h = 0) ∧ k .nils L1 B m
  | .sl o z xs => bif Nat.beq z sz then bndW L1 xs.length hi fun h => bndW L1 0 lo fun l => (l ≤ h ∧ h ≤ xs.length) ∧ ∃ zs, zs = (xs.drop l).take (h - l) ∧ k (.sl o sz zs) L1 B m else False
  | _ => False
 | .fieldAddr off x => rdC L x fun v => match v with
  | .ptr b o => k (.ptr b (o + off)) L B m
  | .loc j o => k (.loc j (o + off)) L B m
  | .ro cs o => k (.ro cs (o + off)) L B m
  | .el r z i q => k (.el r z i (q + off)) L B m
  | _ => False
 | .field agg n off x => rdC L x fun v => match v with
  | .agg cs => match agg with
   | false => bif Nat.beq n 1 then (match cs[off]? with
    | some v => k v L B m
    | none => False) else False
   | true => bif Nat.ble (off + n) cs.length then zb5 ((cs.drop off).take n) fun d => k (.agg d) L B m else False
  | _ => False
 | .indexArr len sz x i => rdC L x fun v => rdC L i fun n => match n with
  | .int _ i => (0 ≤ i ∧ i < len) ∧ match v with
   | .ptr b o => k (.ptr b (o + i.toNat * sz)) L B m
   | .loc j o => k (.loc j (o + i.toNat * sz)) L B m
   | .ro cs o => k (.ro cs (o + i.toNat * sz)) L B m
   | .el r z e q => k (.el r z e (q + i.toNat * sz)) L B m
   | _ => False
  | _ => False
 | .indexSl sz x i => rdC L x fun v => rdC L i fun n => match n with
  | .int _ i => match v with
   | .sl false z xs => bif Nat.beq z sz then 0 ≤ i ∧ ∃ cs, xs[i.toNat]? = some cs ∧ k (.ro cs 0) L B m else False
   | .place r => zlr L B m r fun v => match v with
    | .sl false z xs => bif Nat.beq z sz then 0 ≤ i ∧ ∃ cs, xs[i.toNat]? = some cs ∧ k (.ro cs 0) L B m else False
    | .sl true z xs => bif Nat.beq z sz then (0 ≤ i ∧ i.toNat < xs.length) ∧ k (.el r sz i.toNat 0) L B m else False
    | _ => False
   | _ => False
  | _ => False
 | .indexAgg agg len sz x i => rdC L x fun v => rdC L i fun n => match v, n with
  | .agg cs, .int _ i => (0 ≤ i ∧ i < len ∧ i.toNat * sz + sz ≤ cs.length) ∧ match agg with
   | false => bif Nat.beq sz 1 then ∃ v, cs[i.toNat * sz]? = some v ∧ k v L B m else False
   | true => k (.agg ((cs.drop (i.toNat * sz)).take sz)) L B m
  | _, _ => False
 | .indexStr x i => rdC L x fun v => rdC L i fun n => match v, n with
  | .str s, .int _ i => 0 ≤ i ∧ ∃ c, s[i.toNat]? = some c ∧ k (.int .u8 c) L B m
  | _, _ => False
 | .extract x i => rd L x fun v L1 => match v with
  | .tuple vs => match vs[i]? with
   | some v => k v L1 B m
   | none => False
  | _ => False
 | .lend f sz x lo => rdC L x fun a => zqq sz L B m a fun xs => lo < xs.length ∧ ∃ zs, zs = xs.drop lo ∧ ∃ r, zak true cf f [.sl false sz zs] [] r [] ∧ bif Nat.ble 1 sz && r.bare then k r L B m else False
 | .callN _ _ _ => False
 | .tOp _ _ => False
 | .loadW _ _ _ _ _ _ => False
 | .callL f args => rdCs L args fun vs => zpd L B m vs fun us => ∃ r, zak true cf f us [] r [] ∧ bif r.bare then k r L B m else False
 | .callP f args => rds L args fun vs L1 => bif vs.all TV.flatA then ∃ r, zak true cf f vs [] r [] ∧ bif r.flatR then k r L1 B m else False else False
 | .callF f args => rds L args fun vs L1 => bif vs.all TV.okArg then ∃ r m', zak q cf f vs m r m' ∧ mapK killMV L1 fun L' => k r L' B m' else False
 | .callV f args => rdC L f fun v => match v with
  | .func g cap => rds L args fun vs L1 => bif vs.all TV.okArg then cap.all TV.okArg = true ∧ ∃ r m', zak q cf g (vs ++ cap) m r m' ∧ mapK killMV L1 fun L' => k r L' B m' else False
  | _ => False
 | .lenStr x => rdC L x fun a => match a with
  | .str s => k (.int .i64 s.length) L B m
  | _ => False
 | .lenSl x => rdC L x fun a => zl2 L B m a fun xs => ∃ n : Nat, n = xs.length ∧ k (.int .i64 n) L B m
 | .lenC n => k (.int .i64 n) L B m
 | .append sz x y => rd L x fun p L1 => rd L1 y fun q L2 => zja sz L2 B m q fun ys => match p with
  | .nils => appW sz ys [] sz fun v => k v L2 B m
  | .sl true z xs => appW sz ys xs z fun v => k v L2 B m
  | .place (.tmp s) => match fnd L2 s with
   | some (.sl true z xs) => appW sz ys xs z fun v => k v ((s, .undef) :: L2) B m
   | some .nils => appW sz ys [] sz fun v => k v L2 B m
   | _ => False
  | .place (.mem b o) => match m[b]? with
   | some cs => match cs[o]? with
    | some (.sl true z xs) => appW sz ys xs z fun v => zb5 (cs.set o .undef) fun c => zb5 (m.set b c) fun m' => k v L2 B m'
    | some .nils => appW sz ys [] sz fun v => k v L2 B m
    | _ => False
   | none => False
  | .place (.loc j o) => match fnd B j with
   | some cs => match cs[o]? with
    | some (.sl true z xs) => appW sz ys xs z fun v => zb5 (cs.set o .undef) fun c => k v L2 ((j, c) :: B) m
    | some .nils => appW sz ys [] sz fun v => k v L2 B m
    | _ => False
   | none => False
  | _ => False
 | .minMax mx x ys => rdC L x fun v => rdCs L ys fun vs => zi7 mx v vs fun r => k r L B m
 | .mkFunc f captured => rdCs L captured fun vs => bif vs.all zhF then k (.func f vs) L B m else False
def putW (o : AOper) (v : TV) (L : Ts) (k : Ts → Prop) : Prop :=
 match o.dst with
 | none => bif o.kt then (bif zgo none v then False else match v with
  | .undef => False
  | _ => k L) else k L
 | some d => bif o.kt then (bif zgo (some d) v then False else match v with
  | .undef => False
  | v => mapK (killTV d) L fun L' => k ((d, v) :: L')) else k ((d, v) :: L)
def zkh (o : AOper) (L : Ts) (k : Ts → Prop) : Prop :=
 match o.dst with
 | none => k L
 | some d => bif o.kt then mapK (killTV d) L fun L' => k ((d, .tuple []) :: L') else k ((d, .tuple []) :: L)
def elAt (s : Nat) : TV → Bool
 | .el (.tmp s') _ _ _ => Nat.beq s' s
 | _ => false
def zls (s : Nat) : TV → Bool
 | .place (.tmp s') => Nat.beq s' s
 | _ => false
def zlt (s : Nat) (kk : TOp) (L : Ts) (k : Prop) : Prop :=
 match kk with
 | .place => k
 | .index _ x _ | .len x => match fnd L x with
  | some v => bif zls s v then k else False
  | none => False
 | .load _ _ p => match fnd L p with
  | some v => bif elAt s v then k else False
  | none => False
 | .store _ p x => rd L x fun _ L1 => match fnd L1 p with
  | some v => bif elAt s v then k else False
  | none => False
def wpOp (q : Bool) (cf : CF) (op : AOp) (L : Ts) (B : Bs) (m : Ms) (k : TV → Ts → Bs → Ms → Prop) : Prop :=
 match op with
 | .tOp s kk => zlt s kk L (zbK q cf (kk.under s) L B m k)
 | op => zbK q cf op L B m k
def wpOps (cf : CF) : List AOper → Ts → Bs → Ms → (Ts → Bs → Ms → Prop) → Prop
 | [], L, B, m, k => k L B m
 | o :: os, L, B, m, k => match o.guard with
  | none => wpOp false cf o.op L B m fun v L1 B1 m1 => putW o v L1 fun L2 => wpOps cf os L2 B1 m1 k
  | some (g, want) => match fnd L g with
   | some (.bool b) => bif b == want then wpOp false cf o.op L B m fun v L1 B1 m1 => putW o v L1 fun L2 => wpOps cf os L2 B1 m1 k
    else zkh o L fun L2 => wpOps cf os L2 B m k
   | some (.tuple []) => zkh o L fun L2 => wpOps cf os L2 B m k
   | _ => False
def zl4 (lean : Bool) (L : Ts) : List Nat → Bool
 | [] => true
 | s :: r => match fnd L s with
  | some v => zlp lean v && zl4 lean L r
  | none => false
def zlu (op : AOp) : Bool := match op with
 | .store _ _ _ => true
 | _ => false
def zpz (o : AOper) : Bool := zlu o.op && (match o.mark with
 | .fa _ => false
 | _ => true)
def zn0 (mk : Mark) : Bool := match mk with
 | .quiet => true
 | _ => false
def zjb : TV → Bool
 | .loc _ _ => false
 | .undef => false
 | _ => true
def zpe (L : Ts) : List Nat → Bool
 | [] => true
 | s :: r => match fnd L s with
  | some v => zjb v && zpe L r
  | none => false
def zn1 (j : Nat) : TV → Bool
 | .loc i _ => i == j
 | _ => false
def faW (j : Nat) (L : Ts) : List Nat → Bool
 | [] => true
 | s :: r => match fnd L s with
  | some v => zn1 j v && faW j L r
  | none => false
def zn2 (o : AOper) (v : TV) : Bool := zlp o.lean v && (match o.mark with
 | .none => true
 | .quiet | .mem => zjb v && (match v with
  | .place _ | .el _ _ _ _ => false
  | _ => true)
 | .fa j => zn1 j v
 | _ => zjb v)
def zn3 (op : AOp) (L : Ts) (k : Prop) : Prop :=
 match op with
 | .callP _ _ => k
 | .append _ (.u s .take) _ => match fnd L s with
  | some (.sl _ _ _) => k
  | some .nils => k
  | _ => False
 | _ => False
def zp0 (o : AOper) (L : Ts) (k : Prop) : Prop :=
 match o.mark with
 | .none => k
 | .cool => match o.op.ptr? with
  | none => bif zpe L (slots o.op.opds) then k else False
  | some _ => False
 | .quiet => bif o.op.isCall then k else zn3 o.op L k
 | .fa j => bif faW j L (slots o.op.opds) then k else False
 | mk => match o.op.ptr? with
  | none => k
  | some p => rdC L p fun v => match v with
   | .loc i _ => bif mk == .loc i then k else False
   | .ptr _ _ => bif mk == .mem then k else False
   | .ro _ _ => bif mk == .free then k else False
   | _ => False
def doD (cf : CF) (o : AOper) (L : Ts) (B : Bs) (m : Ms) (k : Ts → Bs → Ms → Prop) : Prop :=
 bif o.op.isT then wpOp false cf o.op L B m fun v L1 B1 m1 => putW o v L1 fun L2 => k L2 B1 m1 else
 bif zl4 o.lean L (slots o.op.opds) then wpOp (zn0 o.mark) cf o.op L B m fun v L1 B1 m1 => bif zpz o || zn2 o v then zp0 o L (putW o v L1 fun L2 => k L2 B1 m1) else False else False
def wpD (cf : CF) : List AOper → Ts → Bs → Ms → (Ts → Bs → Ms → Prop) → Prop
 | [], L, B, m, k => k L B m
 | o :: os, L, B, m, k => match o.guard with
  | none => doD cf o L B m fun L2 B1 m1 => wpD cf os L2 B1 m1 k
  | some (g, want) => match fnd L g with
   | some (.bool b) => bif b == want then doD cf o L B m fun L2 B1 m1 => wpD cf os L2 B1 m1 k
    else zkh o L fun L2 => wpD cf os L2 B m k
   | some (.tuple []) => zkh o L fun L2 => wpD cf os L2 B m k
   | _ => False
def Ag (ρ : List Nat) (L : Ts) (σ : Nat → V) : Prop := ∀ s t, fnd L s = some t → Den ρ t (σ s)
def AgB (ρ : List Nat) (B : Bs) (l : Nat → List V) : Prop := ∀ s t, fnd B s = some t → Pw (Den ρ) t (l s)
structure Rel (ρ : List Nat) (L : Ts) (B : Bs) (M : Ms) (st : St) : Prop where
 a : Ag ρ L st.σ
 b : AgB ρ B st.l
 m : Mg ρ M st.m
structure WP (cf : CF) (c : ACode) (L : Ts) (B : Bs) (M : Ms) (Q : Ex → Ts → Bs → Ms → Prop) : Prop where
 go : ∀ ρ st, Rel ρ L B M st → ∃ e st', exec cf c st = some (e, st') ∧ ∃ ρ' L' B' M', Rel ρ' L' B' M' st' ∧ Fr ρ st.m ρ' st'.m ∧ Q e L' B' M'
end Go.Proofs.YtakdnfneikbjjaaGreatDoor.Am.T

namespace Go.Proofs.YtakdnfneikbjjaaGreatDoor.Am.T
open Go.Proofs.YtakdnfneikbjjaaGreatDoor.Am
theorem zp1 (v : V) : Den0 (cV0 v) v := by
 unfold cV0
 split
 ·exact .bool _
 ·exact .int _ _
 ·exact .str _
 ·exact .undef _
theorem zn4 : ∀ cs : List V, Pw Den0 (cs.map cV0) cs
 | [] => .nil
 | c :: cs => .cons (zp1 c) (zn4 cs)
theorem zl5 : ∀ xs : List (List V), Pw (Pw Den0) (xs.map fun cs => cs.map cV0) xs
 | [] => .nil
 | c :: cs => .cons (zn4 c) (zl5 cs)
theorem zpA {ρ : List Nat} (v : V) : Den ρ (cV v) v := by
 unfold cV
 split
 ·exact .base (.sl _ _ (zl5 _))
 ·exact .base (.bool _)
 ·exact .base (.int _ _)
 ·exact .base (.str _)
 ·exact .base .nilp
 ·exact .base .nils
 ·exact .base (.func _)
 ·exact .base .nilf
 ·exact .base .nili
 ·exact .undef' _
theorem NilOk.den {ρ : List Nat} {t : TV} (h : NilOk t) : Den ρ t .nils := by
 cases h with
 | nils => exact .base .nils
 | sl o z => exact .base (.sln o z)
theorem zl6 {ρ : List Nat} {v : V} {k : TV → Prop} (h : cK v k) : ∃ t, Den ρ t v ∧ k t := by
 unfold cK at h
 split at h
 ·obtain ⟨t, h1, h2⟩ := h; exact ⟨t, h1.den, h2⟩
 ·exact ⟨_, zpA v, h⟩
theorem zc1 {ρ : List Nat} : ∀ {z : List V} {k : List TV → Prop}, zlq z k → ∃ ts, Pw (Den ρ) ts z ∧ k ts
 | [], k, h => ⟨[], .nil, h⟩
 | v :: z, k, h => by
  obtain ⟨t, h1, h2⟩ := zl6 (ρ := ρ) h
  obtain ⟨ts, h3, h4⟩ := zc1 h2
  exact ⟨t :: ts, .cons h1 h3, h4⟩
theorem zav {α : Type} : ∀ {l : List α} {k : List α → Prop}, zb5 l k ↔ k l
 | [], _ => Iff.rfl
 | x :: r, k => by
  unfold zb5
  exact zav
theorem zpf {ρ : List Nat} {cs : List TV} {cs' : List V} (h : Pw (Den ρ) cs cs') (hg : cs.all TV.good = true) : Pw Den0 cs cs' ∧ cs'.all V.good = true := by
 induction h with
 | nil => exact ⟨.nil, rfl⟩
 | cons hr _ ih =>
  simp only [List.all_cons, yae] at hg
  obtain ⟨a, b⟩ := hr.good hg.1
  obtain ⟨c, d⟩ := ih hg.2
  exact ⟨.cons a c, by simp only [List.all_cons, b, d, Bool.and_self]⟩
theorem bifT {c : Bool} {p : Prop} (h : bif c then p else False) : c = true ∧ p := zdH h
theorem bifF {c : Bool} {p : Prop} (h : bif c then False else p) : c = false ∧ p := by
 cases c with
 | true => exact h.elim
 | false => exact ⟨rfl, h⟩
theorem zl7 {f : TV → TV} : ∀ {L : Ts} {k : Ts → Prop}, mapK f L k ↔ k (L.map fun p => (p.1, f p.2))
 | [], _ => Iff.rfl
 | (s, v) :: r, k => by
  unfold mapK
  rw [zl7]; rfl
theorem zn5 {f : TV → TV} : ∀ {L : Ts} {s : Nat}, fnd (L.map fun p => (p.1, f p.2)) s = (fnd L s).map f
 | [], _ => rfl
 | (k, v) :: r, s => by
  rw [List.map_cons, zcO, zcO, zn5]
  split <;> rfl
section
variable {ρ : List Nat} {L : Ts} {B : Bs} {M : Ms} {st : St}
theorem Ag.upd {σ : Nat → V} (h : Ag ρ L σ) (d : Nat) {t : TV} {v : V} (hv : Den ρ t v) : Ag ρ ((d, t) :: L) (Am.upd σ d v) := fun s x hx => by
 rw [zcO] at hx
 unfold Am.upd
 split at hx
 ·rename_i e; rw [if_pos e]; cases hx; exact hv
 ·rename_i e; rw [if_neg e]; exact h s x hx
theorem AgB.upd {l : Nat → List V} (h : AgB ρ B l) (d : Nat) {t : List TV} {v : List V} (hv : Pw (Den ρ) t v) : AgB ρ ((d, t) :: B) (Am.upd l d v) := fun s x hx => by
 rw [zcO] at hx
 unfold Am.upd
 split at hx
 ·rename_i e; rw [if_pos e]; cases hx; exact hv
 ·rename_i e; rw [if_neg e]; exact h s x hx
theorem Ag.map {σ : Nat → V} (h : Ag ρ L σ) {f : TV → TV} {g : V → V} (hf : ∀ t v, Den ρ t v → Den ρ (f t) (g v)) : Ag ρ (L.map fun p => (p.1, f p.2)) (fun i => g (σ i)) := fun s x hx => by
 rw [zn5, yah] at hx
 obtain ⟨y, hy, rfl⟩ := hx
 exact hf _ _ (h s y hy)
theorem Ag.mono {σ : Nat → V} (e : List Nat) (h : Ag ρ L σ) : Ag (ρ ++ e) L σ := fun s t ht => (h s t ht).mono e
theorem AgB.mono {l : Nat → List V} (e : List Nat) (h : AgB ρ B l) : AgB (ρ ++ e) B l := fun s t ht => (h s t ht).mono fun _ _ h => h.mono e
theorem Fr.refl (ρ : List Nat) (m : Am.Ms) : Fr ρ m ρ m := ⟨⟨[], by simp, by simp⟩, Nat.le_refl _, fun _ _ _ => rfl⟩
theorem Fr.trans {ρ ρ1 ρ2 : List Nat} {m m1 m2 : Am.Ms} (h : Fr ρ m ρ1 m1) (g : Fr ρ1 m1 ρ2 m2) : Fr ρ m ρ2 m2 := by
 obtain ⟨⟨e1, rfl, h1⟩, h2, h3⟩ := h
 obtain ⟨⟨e2, rfl, g1⟩, g2, g3⟩ := g
 refine ⟨⟨e1 ++ e2, by simp, fun b hb => ?_⟩, by omega, fun c hc hn => ?_⟩
 ·rcases yak.1 hb with hb | hb
  ·exact h1 b hb
  ·have := g1 b hb; omega
 ·rw [g3 c (by omega) (fun hh => ?_), h3 c hc hn]
  rcases yak.1 hh with hh | hh
  ·exact hn hh
  ·have := h1 c hh; omega
theorem Mg.lt {m : Am.Ms} (h : Mg ρ M m) {b : Nat} (hb : b ∈ ρ) : b < m.length := by
 obtain ⟨i, hi, rfl⟩ := List.getElem_of_mem hb
 obtain ⟨_, cs', _, h2, _⟩ := h.2.2 i ρ[i] (yai hi)
 exact zax h2
theorem Mg.get {m : Am.Ms} (h : Mg ρ M m) {i b : Nat} (hi : ρ[i]? = some b) {cs : List TV} (hM : M[i]? = some cs) : ∃ cs', m[b]? = some cs' ∧ Pw (Den ρ) cs cs' := by
 obtain ⟨cs2, cs', h1, h2, h3⟩ := h.2.2 i b hi
 rw [hM] at h1; cases h1
 exact ⟨cs', h2, h3⟩
theorem Mg.has {m : Am.Ms} (h : Mg ρ M m) {i : Nat} {cs : List TV} (hM : M[i]? = some cs) : ∃ b cs', ρ[i]? = some b ∧ m[b]? = some cs' ∧ Pw (Den ρ) cs cs' := by
 have hi : i < ρ.length := by rw [h.2.1]; exact zax hM
 have e := yai hi
 obtain ⟨cs', h1, h2⟩ := h.get e hM
 exact ⟨_, cs', e, h1, h2⟩
theorem zki (h : ρ.Nodup) {i j b : Nat} (hi : ρ[i]? = some b) (hj : ρ[j]? = some b) : i = j := by
 obtain ⟨h1, e1⟩ := List.getElem?_eq_some_iff.1 hi
 obtain ⟨h2, e2⟩ := List.getElem?_eq_some_iff.1 hj
 exact (List.getElem_inj (h₀ := h1) (h₁ := h2) h).1 (by rw [e1, e2])
theorem Mg.set {m : Am.Ms} (h : Mg ρ M m) {i b : Nat} (hi : ρ[i]? = some b) {cs : List TV} {cs' : List V} (hc : Pw (Den ρ) cs cs') : Mg ρ (M.set i cs) (m.set b cs') := by
 refine ⟨h.1, by rw [List.length_set]; exact h.2.1, fun j c hj => ?_⟩
 obtain ⟨x, y, h1, h2, h3⟩ := h.2.2 j c hj
 by_cases e : i = j
 ·subst e
  have : b = c := by rw [hi] at hj; exact Option.some.inj hj
  subst this
  exact ⟨cs, cs', List.getElem?_set_self (zax h1), List.getElem?_set_self (zax h2), hc⟩
 ·have hne : b ≠ c := fun hh => e (zki h.1 hi (by rw [hh]; exact hj))
  exact ⟨x, y, by rw [List.getElem?_set_ne e]; exact h1, by rw [List.getElem?_set_ne hne]; exact h2, h3⟩
theorem Fr.set {m : Am.Ms} {i b : Nat} (hi : ρ[i]? = some b) (cs' : List V) : Fr ρ m ρ (m.set b cs') :=
 ⟨⟨[], by simp, by simp⟩, by simp, fun c _ hn => by
  rw [List.getElem?_set_ne]
  rintro rfl
  exact hn (List.mem_of_getElem? hi)⟩
theorem Mg.alloc {m : Am.Ms} (h : Mg ρ M m) {cs : List TV} {cs' : List V} (hc : Pw (Den ρ) cs cs') : Mg (ρ ++ [m.length]) (M ++ [cs]) (m ++ [cs']) := by
 refine ⟨?_, by simp [h.2.1], fun j c hj => ?_⟩
 ·rw [List.nodup_append]
  refine ⟨h.1, by simp, fun a ha b hb => ?_⟩
  rw [yao.1 hb]
  exact Nat.ne_of_lt (h.lt ha)
 ·by_cases e : j < ρ.length
  ·rw [yaq e] at hj
   obtain ⟨x, y, h1, h2, h3⟩ := h.2.2 j c hj
   exact ⟨x, y, by rw [yaq (zax h1)]; exact h1, by rw [yaq (zax h2)]; exact h2, h3.mono fun _ _ h => h.mono _⟩
  ·have hl := zax hj
   simp only [yar, List.length_singleton] at hl
   have ej : j = ρ.length := by omega
   subst ej
   simp only [List.getElem?_concat_length, yaa] at hj
   subst hj
   refine ⟨cs, cs', ?_, List.getElem?_concat_length .., hc.mono fun _ _ h => h.mono _⟩
   rw [h.2.1]; exact List.getElem?_concat_length ..
theorem Fr.alloc (ρ : List Nat) (m : Am.Ms) (cs' : List V) : Fr ρ m (ρ ++ [m.length]) (m ++ [cs']) :=
 ⟨⟨[m.length], rfl, fun b hb => by rw [yao.1 hb]; exact Nat.le_refl _⟩, by simp, fun c hc _ => yaq hc⟩
theorem Rel.sig {σ : Nat → V} {L' : Ts} (h : Rel ρ L B M st) (ha : Ag ρ L' σ) : Rel ρ L' B M { st with σ := σ } := ⟨ha, h.b, h.m⟩
theorem zn6 {t : TV} {v : V} {k : TV → Prop} (hd : Den ρ t v) (h : rdV t k) : v.hasOwn = false ∧ k t := by
 have key : t.hasOwn = false ∧ k t := by
  unfold rdV rdP at h
  split at h
  ·exact h.elim
  ·exact h.elim
  ·obtain ⟨a, b⟩ := bifF h; exact ⟨a, b⟩
  ·obtain ⟨a, b⟩ := bifF h; exact ⟨a, b⟩
  ·rename_i h0 h1 h2 h3
   refine ⟨?_, h⟩
   cases t with
   | undef => exact (h0 rfl).elim
   | sl o z xs => cases o with
    | true => exact (h1 _ _ rfl).elim
    | false => rfl
   | agg cs => exact (h2 _ rfl).elim
   | tuple vs => exact (h3 _ rfl).elim
   | _ => rfl
 exact ⟨hd.hasOwn key.1, key.2⟩
theorem zas (h : Ag ρ L st.σ) {o : Opd} {k : TV → Prop} (hk : rdC L o k) : ∃ v t, getC st o = some v ∧ Den ρ t v ∧ k t := by
 unfold rdC at hk
 cases o with
 | c v => exact ⟨v, cV v, rfl, zpA v, hk⟩
 | t s =>
  simp only at hk
  cases hs : fnd L s with
  | none => rw [hs] at hk; exact hk.elim
  | some t =>
   rw [hs] at hk
   have hd := h s t hs
   obtain ⟨h1, h2⟩ := zn6 hd hk
   refine ⟨st.σ s, t, ?_, hd, h2⟩
   simp [getC, h1]
 | u s how =>
  cases how with
  | peek => exact ⟨_, _, rfl, .place (.tmp s), hk⟩
  | _ => exact hk.elim
theorem zcp (h : Ag ρ L st.σ) {o : Opd} {k : TV → Ts → Prop} (hk : rd L o k) : ∃ v σ', getO st o = some (v, { st with σ := σ' }) ∧ ∃ t L', Den ρ t v ∧ Ag ρ L' σ' ∧ k t L' := by
 unfold rd at hk
 have copy : ∀ s, (match fnd L s with | some v => rdV v fun v => k v L | none => False) → (st.σ s).hasOwn = false ∧ ∃ t, Den ρ t (st.σ s) ∧ k t L := fun s hk => by
  cases hs : fnd L s with
  | none => rw [hs] at hk; exact hk.elim
  | some v =>
   rw [hs] at hk
   have hd := h s v hs
   obtain ⟨h1, h2⟩ := zn6 hd hk
   exact ⟨h1, v, hd, h2⟩
 have mv : ∀ (f : TV → TV) (g : V → V) s, (∀ t v, Den ρ t v → Den ρ (f t) (g v)) → (match fnd L s with | some v => k (f v) ((s, .undef) :: L) | none => False) → ∃ t, Den ρ t (g (st.σ s)) ∧ k t ((s, .undef) :: L) := fun f g s hf hk => by
  cases hs : fnd L s with
  | none => rw [hs] at hk; exact hk.elim
  | some v => rw [hs] at hk; exact ⟨f v, hf _ _ (h s v hs), hk⟩
 cases o with
 | c v =>
  obtain ⟨t, h1, h2⟩ := zl6 hk
  exact ⟨v, st.σ, rfl, t, L, h1, h, h2⟩
 | t s =>
  obtain ⟨h1, t, h2, h3⟩ := copy s hk
  exact ⟨_, st.σ, by simp [getO, h1], t, L, h2, h, h3⟩
 | u s how =>
  cases how with
  | copy =>
   obtain ⟨h1, t, h2, h3⟩ := copy s hk
   exact ⟨_, st.σ, by simp [getO, h1], t, L, h2, h, h3⟩
  | take =>
   obtain ⟨t, h1, h2⟩ := mv id id s (fun _ _ h => h) hk
   exact ⟨_, _, rfl, t, _, h1, h.upd s (.undef' _), h2⟩
  | share =>
   obtain ⟨t, h1, h2⟩ := mv TV.share V.share s (fun _ _ h => h.share) hk
   exact ⟨_, _, rfl, t, _, h1, h.upd s (.undef' _), h2⟩
  | peek => exact ⟨_, st.σ, rfl, _, L, .place (.tmp s), h, hk⟩
theorem zfW : ∀ {xs : List Opd} {L : Ts} {st : St} (_ : Ag ρ L st.σ) {k : List TV → Ts → Prop} (_ : rds L xs k), ∃ vs σ', getOs st xs = some (vs, { st with σ := σ' }) ∧ ∃ ts L', Pw (Den ρ) ts vs ∧ Ag ρ L' σ' ∧ k ts L'
 | [], L, st, h, k, hk => ⟨[], st.σ, rfl, [], L, .nil, h, hk⟩
 | x :: xs, L, st, h, k, hk => by
  unfold rds at hk
  obtain ⟨v, σ1, e1, t, L1, hd, h1, hk1⟩ := zcp h hk
  obtain ⟨vs, σ2, e2, ts, L2, hd2, h2, hk2⟩ := zfW (st := { st with σ := σ1 }) (L := L1) h1 hk1
  exact ⟨v :: vs, σ2, by simp [getOs, e1, e2], t :: ts, L2, .cons hd hd2, h2, hk2⟩
theorem zfc (h : Ag ρ L st.σ) : ∀ {xs : List Opd} {k : List TV → Prop} (_ : rdCs L xs k), ∃ vs ts, getCs st xs = some vs ∧ Pw (Den ρ) ts vs ∧ k ts
 | [], k, hk => ⟨[], [], rfl, .nil, hk⟩
 | x :: xs, k, hk => by
  unfold rdCs at hk
  obtain ⟨v, t, e1, hd, hk1⟩ := zas h hk
  obtain ⟨vs, ts, e2, hd2, hk2⟩ := zfc h hk1
  exact ⟨v :: vs, t :: ts, by simp [getCs, e1, e2], .cons hd hd2, hk2⟩
theorem RootR.look (h : Rel ρ L B M st) {r r' : Root} (hr : RootR ρ r r') {k : TV → Prop} (hk : zlr L B M r k) : ∃ t, Den ρ t (look st r') ∧ k t := by
 unfold zlr at hk
 cases hr with
 | @mem i b o hi =>
  simp only at hk
  split at hk
  ·rename_i cs hcs
   split at hk
   ·rename_i v hv
    obtain ⟨cs', h1, h2⟩ := h.m.get hi hcs
    obtain ⟨v', h3, h4⟩ := h2.get hv
    refine ⟨v, ?_, hk⟩
    show Den ρ v ((st.m.getD b []).getD o .undef)
    rw [zbZ h1, zbZ h3]; exact h4
   ·exact hk.elim
  ·exact hk.elim
 | loc j o =>
  simp only at hk
  split at hk
  ·rename_i cs hcs
   split at hk
   ·rename_i v hv
    obtain ⟨v', h3, h4⟩ := (h.b j cs hcs).get hv
    refine ⟨v, ?_, hk⟩
    show Den ρ v ((st.l j).getD o .undef)
    rw [zbZ h3]; exact h4
   ·exact hk.elim
  ·exact hk.elim
 | tmp s =>
  simp only at hk
  split at hk
  ·rename_i v hv; exact ⟨v, h.a s v hv, hk⟩
  ·exact hk.elim
theorem zkj {t : TV} {v : V} (hd : Den ρ t v) {k : List (List TV) → Prop} (hk : znW t k) : ∃ xs, (v = .nils ∧ xs = [] ∨ ∃ o z, v = .slice o z xs) ∧ ∃ ys, Pw (Pw Den0) ys xs ∧ k ys := by
 unfold znW at hk
 cases t with
 | nils => rw [hd.nils_inv]; exact ⟨[], .inl ⟨rfl, rfl⟩, [], .nil, hk⟩
 | sl o z xs =>
  rcases hd.sl_inv with ⟨ys, rfl, h⟩ | ⟨rfl, rfl⟩
  ·exact ⟨ys, .inr ⟨_, _, rfl⟩, xs, h, hk⟩
  ·exact ⟨[], .inl ⟨rfl, rfl⟩, [], .nil, hk⟩
 | _ => exact hk.elim
theorem zgO (h : Rel ρ L B M st) {t : TV} {v : V} (hd : Den ρ t v) {k : List (List TV) → Prop} (hk : zl2 L B M t k) : ∃ xs, elems st v = some xs ∧ ∃ ys, Pw (Pw Den0) ys xs ∧ k ys := by
 unfold zl2 at hk
 cases t with
 | nils => rw [hd.nils_inv]; exact ⟨[], rfl, [], .nil, hk⟩
 | sl o z xs =>
  rcases hd.sl_inv with ⟨ys, rfl, h⟩ | ⟨rfl, rfl⟩
  ·exact ⟨ys, rfl, xs, h, hk⟩
  ·exact ⟨[], rfl, [], .nil, hk⟩
 | place r =>
  obtain ⟨r', rfl, hr⟩ := hd.place_inv
  obtain ⟨t, hd2, hk2⟩ := hr.look h hk
  obtain ⟨xs, hx, ys, h1, h2⟩ := zkj hd2 hk2
  refine ⟨xs, ?_, ys, h1, h2⟩
  unfold elems
  rcases hx with ⟨e, rfl⟩ | ⟨o, z, e⟩
  ·simp only [e]
  ·simp only [e]
 | _ => exact hk.elim
theorem zlv : ∀ (s : List UInt8), Pw (Pw Den0) ((s.map zet).map by8) (zcL s)
 | [] => .nil
 | b :: s => .cons (.cons (.int .u8 _) .nil) (zlv s)
theorem zdt (h : Rel ρ L B M st) {sz : Nat} {t : TV} {v : V} (hd : Den ρ t v) {k : List (List TV) → Prop} (hk : zja sz L B M t k) : ∃ xs, zde sz st v = some xs ∧ ∃ ys, Pw (Pw Den0) ys xs ∧ k ys := by
 unfold zja at hk
 cases t with
 | nils => rw [hd.nils_inv]; exact ⟨[], rfl, [], .nil, hk⟩
 | str s =>
  obtain ⟨e, hk⟩ := zcg hk
  obtain ⟨b, rfl, rfl⟩ := hd.str_inv
  exact ⟨_, by simp [zde, e], _, zlv b, hk⟩
 | sl o z xs =>
  obtain ⟨e, hk⟩ := zcg hk
  rcases hd.sl_inv with ⟨ys, rfl, h⟩ | ⟨rfl, rfl⟩
  ·exact ⟨ys, by simp [zde, e], xs, h, hk⟩
  ·exact ⟨[], rfl, [], .nil, hk⟩
 | place r =>
  obtain ⟨r', rfl, hr⟩ := hd.place_inv
  obtain ⟨t, hd2, hk2⟩ := hr.look h hk
  unfold znX at hk2
  unfold zde
  cases t with
  | nils => exact ⟨[], by simp only [hd2.nils_inv], [], .nil, hk2⟩
  | sl o z xs =>
   obtain ⟨e, hk⟩ := zcg hk2
   rcases hd2.sl_inv with ⟨ys, e2, h⟩ | ⟨e2, rfl⟩
   ·exact ⟨ys, by simp only [e2, e, if_true], xs, h, hk⟩
   ·exact ⟨[], by simp only [e2], [], .nil, hk⟩
  | _ => exact hk2.elim
 | _ => exact hk.elim
theorem zlw (h : Rel ρ L B M st) {sz : Nat} {t : TV} {v : V} (hd : Den ρ t v) {k : List (List TV) → Prop} (hk : zqq sz L B M t k) : ∃ xs, lendS sz st v = some xs ∧ ∃ ys, Pw (Pw Den0) ys xs ∧ k ys := by
 cases t with
 | str s => exact hk.elim
 | undef => exact hk.elim
 | nils => obtain ⟨xs, e, r⟩ := zdt (sz := sz) h hd hk; rw [hd.nils_inv] at e ⊢; exact ⟨xs, e, r⟩
 | sl o z xs =>
  obtain ⟨ys, e, r⟩ := zdt (sz := sz) h hd hk
  rcases hd.sl_inv with ⟨zs, rfl, _⟩ | ⟨rfl, _⟩ <;> exact ⟨ys, e, r⟩
 | place r =>
  obtain ⟨ys, e, q⟩ := zdt (sz := sz) h hd hk
  obtain ⟨r', rfl, _⟩ := hd.place_inv
  exact ⟨ys, e, q⟩
 | _ => exact hk.elim
theorem zl8 {ρ : List Nat} {t : TV} {v : V} (hd : Den ρ t v) (hb : t.bare = true) : v.bare = true ∧ ∀ ρ', Den ρ' t v := by
 cases t with
 | int k n => cases hd with | base h => cases h; exact ⟨rfl, fun _ => .base (.int _ _)⟩
 | bool b => cases hd with | base h => cases h; exact ⟨rfl, fun _ => .base (.bool _)⟩
 | str s => cases hd with | base h => cases h; exact ⟨rfl, fun _ => .base (.str _)⟩
 | _ => cases hb
theorem zfX {cs : List TV} {cs' : List V} (h : Pw (Den ρ) cs cs') (off : Nat) {vs : List TV} {vs' : List V} (g : Pw (Den ρ) vs vs') : Pw (Den ρ) (setT cs off vs) (zaJ cs' off vs') := by
 unfold setT zaJ
 rw [g.length]
 exact ((h.take _).append g).append (h.drop _)
theorem zhH {cs : List TV} {cs' : List V} (h : Pw Den0 cs cs') (off : Nat) {vs : List TV} {vs' : List V} (g : Pw Den0 vs vs') : Pw Den0 (setT cs off vs) (zaJ cs' off vs') := by
 unfold setT zaJ
 rw [g.length]
 exact ((h.take _).append g).append (h.drop _)
theorem zeV {a b : Nat} (h : Nat.ble a b = true) : a ≤ b := Nat.le_of_ble_eq_true h
theorem zkk {mode : Use} {root root' : Root} (hr : RootR ρ root root') {agg : Bool} {n : Nat} {cs : List TV} {cs' : List V} (hc : Pw (Den ρ) cs cs') {off : Nat} {k : TV → Option (List TV) → Prop} (hk : ldW mode root agg n cs off k) :
  off + n ≤ cs'.length ∧ ∃ v t c, zee mode root' agg ((cs'.drop off).take n) = some v ∧ Den ρ t v ∧ (mode.writes = true → ∃ d, c = some d ∧ Pw (Den ρ) d (zaJ cs' off (zia mode ((cs'.drop off).take n)))) ∧ (mode.writes = false → c = none) ∧ k t c := by
 unfold ldW at hk
 cases agg with
 | false =>
  obtain ⟨rfl, hk'⟩ := zcg hk
  clear hk
  have hk := hk'
  split at hk
  ·rename_i t ht
   obtain ⟨v, hv, hd⟩ := hc.get ht
   refine ⟨zax hv, ?_⟩
   rw [znO hv]
   cases mode with
   | copy =>
    obtain ⟨h1, h2⟩ := bifF hk
    exact ⟨v, t, none, by simp [zee, agg?, hd.own0 h1], hd, (fun hh => by cases hh), fun _ => rfl, h2⟩
   | take =>
    refine ⟨v, t, _, by simp [zee, agg?], hd, fun _ => ⟨_, rfl, ?_⟩, (fun hh => by cases hh), (by have hk' := zav.1 hk; exact hk')⟩
    show Pw (Den ρ) _ (zaJ cs' off [v.left])
    rw [zpw hv]; exact hc.set hd.left _
   | share =>
    refine ⟨v.share0, t.share0, _, by simp [zee, agg?], hd.share0, fun _ => ⟨_, rfl, ?_⟩, (fun hh => by cases hh), (by have hk' := zav.1 hk; exact hk')⟩
    show Pw (Den ρ) _ (zaJ cs' off [v.share0])
    rw [zpw hv]; exact hc.set hd.share0 _
   | peek => exact ⟨.place root', .place root, none, by simp [zee], .place hr, (fun hh => by cases hh), fun _ => rfl, hk⟩
  ·exact hk.elim
 | true =>
  obtain ⟨hl, hk⟩ := bifT hk
  have hl := zeV hl
  refine ⟨by rw [← hc.length]; exact hl, ?_⟩
  have hd : Pw (Den ρ) ((cs.drop off).take n) ((cs'.drop off).take n) := (hc.drop _).take _
  cases mode with
  | copy =>
   obtain ⟨h1, h2⟩ := bifF hk
   have h3 := Pw.any (p := TV.own0) (q := V.own0) (fun _ _ h ho => Den.own0 h ho) hd h1
   exact ⟨_, _, none, by simp only [zee, h3, yas, if_false, agg?, if_true], .agg hd, (fun hh => by cases hh), fun _ => rfl, zav.1 h2⟩
  | take => exact ⟨_, _, _, rfl, .agg hd, fun _ => ⟨_, rfl, zfX hc off (Pw.maps (f := TV.left) (g := V.left) (fun _ _ h => h.left) hd)⟩, (fun hh => by cases hh), (by have hk' := zav.1 hk; have hk2 := zav.1 hk'; exact hk2)⟩
  | share => exact ⟨_, _, _, rfl, .agg (Pw.maps (f := TV.share0) (g := V.share0) (fun _ _ h => h.share0) hd), fun _ => ⟨_, rfl, zfX hc off (Pw.maps (f := TV.share0) (g := V.share0) (fun _ _ h => h.share0) hd)⟩, (fun hh => by cases hh), (by have hk' := zav.1 hk; have hk2 := zav.1 hk'; exact hk2)⟩
  | peek => exact hk.elim
theorem zhI (h : Rel ρ L B M st) {agg : Bool} {n : Nat} {mode : Use} {a : TV} {a' : V} (ha : Den ρ a a') {k : TV → Bs → Ms → Prop} (hk : loadW agg n mode L B M a k) :
  ∃ v st', za4 st agg n mode a' = some (v, st') ∧ ∃ t B' M', Den ρ t v ∧ Rel ρ L B' M' st' ∧ Fr ρ st.m ρ st'.m ∧ k t B' M' := by
 unfold loadW at hk
 cases a with
 | ptr i off =>
  obtain ⟨b, rfl, hi⟩ := ha.ptr_inv
  simp only at hk
  split at hk
  ·rename_i cs hcs
   obtain ⟨cs', h1, h2⟩ := h.m.get hi hcs
   obtain ⟨h3, v, t, c, e, hd, hw, hw2, hk⟩ := zkk (.mem off hi) h2 hk
   have e1 := zbZ (d := []) h1
   simp only [za4, e1]
   rw [if_pos ⟨zax h1, h3⟩, e]
   refine ⟨v, _, rfl, t, ?_⟩
   cases hm : mode.writes with
   | true =>
    obtain ⟨d, rfl, hd2⟩ := hw hm
    exact ⟨B, M.set i d, hd, ⟨h.a, h.b, h.m.set hi hd2⟩, .set hi _, (by have hk' := zav.1 hk; exact hk')⟩
   | false =>
    rw [hw2 hm] at hk
    exact ⟨B, M, hd, h, .refl _ _, hk⟩
  ·exact hk.elim
 | loc j off =>
  rw [ha.loc_inv]
  have key : ∀ cs, fnd B j = some cs → mode ≠ .share → ldW mode (.loc j off) agg n cs off (fun v c => match c with | none => k v B M | some c => k v ((j, c) :: B) M) →
    ∃ v st', za4 st agg n mode (.loc j off) = some (v, st') ∧ ∃ t B' M', Den ρ t v ∧ Rel ρ L B' M' st' ∧ Fr ρ st.m ρ st'.m ∧ k t B' M' := fun cs hj hm hk => by
   obtain ⟨h3, v, t, c, e, hd, hw, hw2, hk⟩ := zkk (.loc j off) (h.b j cs hj) hk
   simp only [za4]
   rw [if_pos ⟨h3, hm⟩, e]
   refine ⟨v, _, rfl, t, ?_⟩
   cases hm : mode.writes with
   | true =>
    obtain ⟨d, rfl, hd2⟩ := hw hm
    exact ⟨(j, d) :: B, M, hd, ⟨h.a, h.b.upd j hd2, h.m⟩, .refl _ _, hk⟩
   | false =>
    rw [hw2 hm] at hk
    exact ⟨B, M, hd, h, .refl _ _, hk⟩
  cases hj : fnd B j with
  | none => simp only [hj] at hk; cases mode <;> exact hk.elim
  | some cs =>
   simp only [hj] at hk
   cases mode with
   | share => exact hk.elim
   | _ => exact key cs hj (by simp) hk
 | ro cs off =>
  obtain ⟨cs', rfl, hc⟩ := ha.ro_inv
  cases mode with
  | copy =>
   cases agg with
   | false =>
    obtain ⟨rfl, hk'⟩ := zcg hk
    clear hk
    have hk := hk'
    split at hk
    ·rename_i t ht
     obtain ⟨v, hv, hd⟩ := hc.get ht
     exact ⟨v, st, by simp only [za4]; rw [if_pos ⟨trivial, Nat.succ_le_of_lt (zax hv)⟩, znO hv]; rfl, t, B, M, hd, h, .refl _ _, hk⟩
    ·exact hk.elim
   | true =>
    obtain ⟨hl, hk⟩ := bifT hk
    have hl := zeV hl
    rw [hc.length] at hl
    exact ⟨_, st, by simp only [za4]; rw [if_pos ⟨trivial, hl⟩]; rfl, _, B, M, .agg ((hc.drop _).take _), h, .refl _ _, (by have hk' := zav.1 hk; exact hk')⟩
  | _ => exact hk.elim
 | el r z i o =>
  obtain ⟨r', rfl, hr⟩ := ha.el_inv
  cases mode with
  | copy =>
   obtain ⟨t, hd, hk⟩ := hr.look h hk
   simp only [za4]
   cases t with
   | sl own sz xs =>
    cases own with
    | false => exact hk.elim
    | true =>
     obtain ⟨rfl, cs, hcs, hk⟩ := zcg hk
     rcases hd.sl_inv with ⟨ys, e2, hxy⟩ | ⟨e2, rfl⟩
     ·obtain ⟨cs', hcs', hc⟩ := hxy.get hcs
      have e := zbZ (d := []) hcs'
      simp only [e2, e]
      cases agg with
      | false =>
       obtain ⟨rfl, hk'⟩ := zcg hk
       clear hk
       have hk := hk'
       split at hk
       ·rename_i t ht
        obtain ⟨v, hv, hd⟩ := hc.get ht
        exact ⟨v, st, by simp only [if_true]; rw [if_pos ⟨trivial, zax hcs', Nat.succ_le_of_lt (zax hv)⟩, znO hv]; rfl, t, B, M, .base hd, h, .refl _ _, hk⟩
       ·exact hk.elim
      | true =>
       obtain ⟨hl, hk⟩ := bifT hk
       have hl := zeV hl
       rw [hc.length] at hl
       exact ⟨_, st, by simp only [if_true]; rw [if_pos ⟨trivial, zax hcs', hl⟩]; rfl, _, B, M, .agg (((hc.drop _).take _).base), h, .refl _ _, (by have hk' := zav.1 hk; exact hk')⟩
     ·simp at hcs
   | _ => exact hk.elim
  | _ => exact hk.elim
 | _ => exact hk.elim
theorem zcJ {σ : Nat → V} (h : Ag ρ L σ) {f : TV → TV} {g : V → V} (hf : ∀ t v, Den ρ t v → Den ρ (f t) (g v)) {k : Ts → Prop} (hk : mapK f L k) : ∃ L', Ag ρ L' (fun i => g (σ i)) ∧ k L' := ⟨_, h.map hf, zl7.1 hk⟩
theorem zkl (h : Rel ρ L B M st) {n : Nat} {cells : List TV} {cells' : List V} (hcl : Pw (Den ρ) cells cells') {a : TV} {a' : V} (ha : Den ρ a a') {k : Ts → Bs → Ms → Prop} (hk : znY n cells L B M a k) :
  ∃ st', zbV st n cells' a' = some st' ∧ ∃ L' B' M', Rel ρ L' B' M' st' ∧ Fr ρ st.m ρ st'.m ∧ k L' B' M' := by
 unfold znY at hk
 have ok : cells.all TV.ok0 = true → cells'.all V.ok0 = true := fun hh => Pw.all (p := TV.ok0) (q := V.ok0) (fun _ _ h ho => Den.ok0 h ho) hcl hh
 cases a with
 | ptr i off =>
  obtain ⟨b, rfl, hi⟩ := ha.ptr_inv
  simp only at hk
  split at hk
  ·rename_i old hold
   obtain ⟨hb, hk⟩ := bifT hk
   simp only [yae] at hb
   obtain ⟨⟨⟨h1, h2⟩, h3⟩, h4⟩ := hb
   have h1 := zeV h1
   have h2 := yap h2
   obtain ⟨old', ho1, ho2⟩ := h.m.get hi hold
   have e1 := zbZ (d := []) ho1
   obtain ⟨L', hL', hk⟩ := zcJ h.a (fun _ _ h => Den.killAtV off n h) hk
   simp only [zbV, e1]
   rw [if_pos ⟨zax ho1, by rw [← ho2.length]; exact h1, by rw [← hcl.length]; exact h2, ok h3, by rw [zg2 hcl h4]; omega⟩]
   exact ⟨_, rfl, L', B, _, ⟨hL', h.b, h.m.set hi (zfX ho2 off hcl)⟩, .set hi _, (by have hk' := zav.1 hk; have hk2 := zav.1 hk'; exact hk2)⟩
  ·exact hk.elim
 | loc j off =>
  rw [ha.loc_inv]
  simp only at hk
  split at hk
  ·rename_i old hold
   obtain ⟨hb, hk⟩ := bifT hk
   simp only [yae] at hb
   obtain ⟨⟨h1, h2⟩, h3⟩ := hb
   have h1 := zeV h1
   have h2 := yap h2
   have ho2 := h.b j old hold
   obtain ⟨L', hL', hk⟩ := zcJ h.a (fun _ _ h => Den.killLocV h) hk
   simp only [zbV]
   rw [if_pos ⟨by rw [← ho2.length]; exact h1, by rw [← hcl.length]; exact h2, ok h3⟩]
   exact ⟨_, rfl, L', _, M, ⟨hL', h.b.upd j (zfX ho2 off hcl), h.m⟩, .refl _ _, (by have hk' := zav.1 hk; exact hk')⟩
  ·exact hk.elim
 | el r z i o =>
  obtain ⟨r', rfl, hr⟩ := ha.el_inv
  obtain ⟨hg, hk⟩ := bifT hk
  simp only [yae] at hg
  obtain ⟨hn, hg⟩ := hg
  have hn := yap hn
  obtain ⟨hc0, hg'⟩ := zpf hcl hg
  have hn' : cells'.length = n := by rw [← hcl.length]; exact hn
  simp only [zbV]
  rw [if_pos ⟨hn', hg'⟩]
  cases hr with
  | @mem q b off hi =>
   simp only at hk
   split at hk
   ·rename_i old hold
    split at hk
    ·rename_i sz xs hxs
     obtain ⟨rfl, cs, hcs, hk⟩ := zcg hk
     obtain ⟨hl, _, rfl, hk⟩ := bifT hk
     have hl := zeV hl
     obtain ⟨old', ho1, ho2⟩ := h.m.get hi hold
     obtain ⟨v', hv1, hv2⟩ := ho2.get hxs
     have e1 := zbZ (d := []) ho1
     have e2 := zbZ (d := V.undef) hv1
     rcases hv2.sl_inv with ⟨ys, rfl, hxy⟩ | ⟨_, rfl⟩
     ·obtain ⟨cs', hcs', hc⟩ := hxy.get hcs
      have e3 := zbZ (d := []) hcs'
      simp only [look, e1, e2, e3]
      rw [if_pos ⟨trivial, zax hcs', by rw [← hc.length]; exact hl⟩]
      exact ⟨_, rfl, L, B, _, ⟨h.a, h.b, h.m.set hi (ho2.set (.base (.sl true _ (hxy.set (zhH hc o hc0) i))) off)⟩, .set hi _, (by have hk' := zav.1 hk; have hk2 := zav.1 hk'; exact hk2)⟩
     ·simp at hcs
    ·exact hk.elim
   ·exact hk.elim
  | loc j q =>
   simp only at hk
   split at hk
   ·rename_i old hold
    split at hk
    ·rename_i sz xs hxs
     obtain ⟨rfl, cs, hcs, hk⟩ := zcg hk
     obtain ⟨hl, _, rfl, hk⟩ := bifT hk
     have hl := zeV hl
     have ho2 := h.b j old hold
     obtain ⟨v', hv1, hv2⟩ := ho2.get hxs
     have e2 := zbZ (d := V.undef) hv1
     rcases hv2.sl_inv with ⟨ys, rfl, hxy⟩ | ⟨_, rfl⟩
     ·obtain ⟨cs', hcs', hc⟩ := hxy.get hcs
      have e3 := zbZ (d := []) hcs'
      simp only [look, e2, e3]
      rw [if_pos ⟨trivial, zax hcs', by rw [← hc.length]; exact hl⟩]
      exact ⟨_, rfl, L, _, M, ⟨h.a, h.b.upd j (ho2.set (.base (.sl true _ (hxy.set (zhH hc o hc0) i))) q), h.m⟩, .refl _ _, (by have hk' := zav.1 hk; exact hk')⟩
     ·simp at hcs
    ·exact hk.elim
   ·exact hk.elim
  | tmp s =>
   simp only at hk
   split at hk
   ·rename_i sz xs hxs
    obtain ⟨rfl, cs, hcs, hk⟩ := zcg hk
    obtain ⟨hl, _, rfl, hk⟩ := bifT hk
    have hl := zeV hl
    have hv2 := h.a s _ hxs
    rcases hv2.sl_inv with ⟨ys, e2, hxy⟩ | ⟨_, rfl⟩
    ·obtain ⟨cs', hcs', hc⟩ := hxy.get hcs
     have e3 := zbZ (d := []) hcs'
     simp only [look, e2, e3]
     rw [if_pos ⟨trivial, zax hcs', by rw [← hc.length]; exact hl⟩]
     exact ⟨_, rfl, _, B, M, ⟨h.a.upd s (.base (.sl true _ (hxy.set (zhH hc o hc0) i))), h.b, h.m⟩, .refl _ _, hk⟩
    ·simp at hcs
   ·exact hk.elim
 | _ => exact hk.elim
theorem zhJ : ∀ {ps : List (Nat × Nat × Opd)} {L : Ts} {st : St} (_ : Ag ρ L st.σ) {cells : List TV} {cells' : List V} (_ : Pw (Den ρ) cells cells') {k : List TV → Ts → Prop} (_ : zpb L cells ps k), ∃ cs' σ', zbp st cells' ps = some (cs', { st with σ := σ' }) ∧ ∃ cs L', Pw (Den ρ) cs cs' ∧ Ag ρ L' σ' ∧ k cs L'
 | [], L, st, h, cells, cells', hc, k, hk => ⟨cells', st.σ, rfl, cells, L, hc, h, hk⟩
 | (off, n, x) :: r, L, st, h, cells, cells', hc, k, hk => by
  unfold zpb at hk
  obtain ⟨v, σ1, e1, t, L1, hd, h1, hk⟩ := zcp h hk
  obtain ⟨hb, hk⟩ := bifT hk
  simp only [yae] at hb
  obtain ⟨⟨b1, b2⟩, b3⟩ := hb
  have hcd := hd.cells b3
  obtain ⟨cs, σ2, e2, cs2, L2, hd2, h2, hk2⟩ := zhJ (st := { st with σ := σ1 }) h1 (zfX hc off hcd) (by have hk' := zav.1 hk; exact hk')
  refine ⟨cs, σ2, ?_, cs2, L2, hd2, h2, hk2⟩
  simp only [zbp, e1, Option.bind_some]
  rw [if_pos ⟨by rw [← hcd.length]; exact yap b1, by rw [← hc.length]; exact zeV b2, hd.ok1 b3⟩]; exact e2
theorem zgP {sz : Nat} : ∀ {ps : List (Nat × Opd)} {L : Ts} {st : St} (_ : Ag ρ L st.σ) {xs : List (List TV)} {xs' : List (List V)} (_ : Pw (Pw Den0) xs xs') {k : List (List TV) → Ts → Prop} (_ : zl3 L sz xs ps k), ∃ ys' σ', zbq st sz xs' ps = some (ys', { st with σ := σ' }) ∧ ∃ ys L', Pw (Pw Den0) ys ys' ∧ Ag ρ L' σ' ∧ k ys L'
 | [], L, st, h, xs, xs', hx, k, hk => ⟨xs', st.σ, rfl, xs, L, hx, h, hk⟩
 | (i, x) :: r, L, st, h, xs, xs', hx, k, hk => by
  unfold zl3 at hk
  obtain ⟨v, σ1, e1, t, L1, hd, h1, hk⟩ := zcp h hk
  obtain ⟨hb, hk⟩ := bifT hk
  simp only [yae] at hb
  obtain ⟨⟨⟨b1, b2⟩, b3⟩, b4⟩ := hb
  have hcd := hd.cells b3
  obtain ⟨hc0, hg⟩ := zpf hcd b4
  obtain ⟨cs, σ2, e2, cs2, L2, hd2, h2, hk2⟩ := zgP (st := { st with σ := σ1 }) h1 (hx.set hc0 i) (by have hk' := zav.1 hk; exact hk')
  refine ⟨cs, σ2, ?_, cs2, L2, hd2, h2, hk2⟩
  simp only [zbq, e1, Option.bind_some]
  have b2' : i < xs.length := zeV b2
  rw [if_pos ⟨by rw [← hcd.length]; exact yap b1, by rw [← hx.length]; exact b2', hg⟩]; exact e2
theorem zdz (h : Ag ρ L st.σ) {d : Nat} {o : Option Opd} {k : Nat → Prop} (hk : bndW L d o k) : ∃ n, zaZ st d o = some n ∧ k n := by
 unfold bndW at hk
 cases o with
 | none => exact ⟨d, rfl, hk⟩
 | some x =>
  obtain ⟨v, t, e, hd, hk⟩ := zas h hk
  cases t with
  | int kd i => rw [hd.int_inv] at e; exact ⟨_, by simp [zaZ, e, hk.1], hk.2⟩
  | _ => exact hk.elim
end
end Go.Proofs.YtakdnfneikbjjaaGreatDoor.Am.T

namespace Go.Proofs.YtakdnfneikbjjaaGreatDoor.Am.T
open Go.Proofs.YtakdnfneikbjjaaGreatDoor.Am
section
variable {ρ : List Nat} {L : Ts} {B : Bs} {M : Ms} {st : St}
theorem zjc {α : Type} {l : List α} {i : Nat} {v : α} (h : l[i]? = some v) : l.set i v = l := by
 obtain ⟨hi, rfl⟩ := List.getElem?_eq_some_iff.1 h
 exact List.set_getElem_self hi
theorem zcP {b : Bool} {k : TV → Prop} (h : tell b k) : k (.bool b) := h b rfl
theorem zn7 {a b : UInt8} (h : zet a = zet b) : a = b := by
 unfold zet at h
 exact UInt8.toNat_inj.1 (by omega)
theorem zfY : ∀ {s t : List UInt8}, s.map zet = t.map zet → s = t
 | [], [], _ => rfl
 | [], _ :: _, h => by cases h
 | _ :: _, [], h => by cases h
 | a :: s, b :: t, h => by
  simp only [List.map_cons, List.cons.injEq] at h
  rw [zn7 h.1, zfY h.2]
theorem zn8 {a k : Int} : (a == k) = decide (a = k) := by rw [Bool.eq_iff_iff]; simp
theorem zlx {s t : List UInt8} : (s == t) = decide (s.map zet = t.map zet) := by
 rw [Bool.eq_iff_iff]
 simp only [beq_iff_eq, decide_eq_true_eq]
 exact ⟨fun h => by rw [h], zfY⟩
theorem zmZ {op : BinOp} {x y : TV} {x' y' : V} (hx : Den ρ x x') (hy : Den ρ y y') {k : TV → Prop} (hk : binW op x y k) : ∃ v t, zef op x' y' = some v ∧ Den ρ t v ∧ k t := by
 unfold binW at hk
 split at hk
 ·rename_i a n b p
  rw [hx.int_inv, hy.int_inv]
  have I : ∀ (k : IntKind) (n : Int), Den ρ (.int k n) (.int k n) := fun k n => .base (.int k n)
  have Bo : ∀ b : Bool, Den ρ (.bool b) (.bool b) := fun b => .base (.bool b)
  cases op with
  | shl => exact ⟨_, _, by simp only [zef, zfH]; rw [if_neg (by omega)], I _ _, hk.2⟩
  | shr => exact ⟨_, _, by simp only [zef, zfH]; rw [if_neg (by omega)], I _ _, hk.2⟩
  | quo => obtain ⟨e, h0, hk⟩ := zdH hk; exact ⟨_, _, by simp only [zef, zdO, of_decide_eq_true e, if_true, if_neg h0], I _ _, hk⟩
  | rem => obtain ⟨e, h0, hk⟩ := zdH hk; exact ⟨_, _, by simp only [zef, zdO, of_decide_eq_true e, if_true, if_neg h0], I _ _, hk⟩
  | eql => obtain ⟨e, hk⟩ := zdH hk; exact ⟨_, _, by simp only [zef, zdO, of_decide_eq_true e, if_true, zn8], Bo _, zcP hk⟩
  | neq =>
   obtain ⟨e, hk⟩ := zdH hk
   refine ⟨_, _, by simp only [zef, zdO, of_decide_eq_true e, if_true]; rfl, Bo _, ?_⟩
   have h1 := zcP hk
   have e2 : decide (n ≠ p) = (n != p) := by simp [bne, decide_not]; rfl
   rwa [e2] at h1
  | lss => obtain ⟨e, hk⟩ := zdH hk; exact ⟨_, _, by simp only [zef, zdO, of_decide_eq_true e, if_true], Bo _, zcP hk⟩
  | leq => obtain ⟨e, hk⟩ := zdH hk; exact ⟨_, _, by simp only [zef, zdO, of_decide_eq_true e, if_true], Bo _, zcP hk⟩
  | gtr => obtain ⟨e, hk⟩ := zdH hk; exact ⟨_, _, by simp only [zef, zdO, of_decide_eq_true e, if_true], Bo _, zcP hk⟩
  | geq => obtain ⟨e, hk⟩ := zdH hk; exact ⟨_, _, by simp only [zef, zdO, of_decide_eq_true e, if_true], Bo _, zcP hk⟩
  | _ => obtain ⟨e, hk⟩ := zdH hk; exact ⟨_, _, by simp only [zef, zdO, of_decide_eq_true e, if_true], I _ _, hk⟩
 ·rename_i s t
  obtain ⟨s', rfl, rfl⟩ := hx.str_inv
  obtain ⟨t', rfl, rfl⟩ := hy.str_inv
  cases op with
  | add =>
   simp only [yal] at hk
   obtain ⟨hk1, _, rfl, hk2⟩ := hk
   exact ⟨_, _, by simp only [zef, zlH]; rw [if_pos hk1], by rw [← List.map_append]; exact .base (.str _), hk2⟩
  | eql => exact ⟨_, _, rfl, by rw [zlx]; exact .base (.bool _), zcP hk⟩
  | neq =>
   refine ⟨_, _, rfl, .base (.bool _), ?_⟩
   have h1 := zcP hk
   rwa [show decide (s'.map zet ≠ t'.map zet) = !(s' == t') from by rw [zlx]; simp] at h1
  | _ => exact hk.elim
 ·exact hk.elim
theorem zly {k : LK} {x y : TV} {x' y' : V} (hx : Den ρ x x') (hy : Den ρ y y') {b : Bool} (h : zpc k x y = some b) : zgB k x' y' = some b := by
 unfold zpc at h
 split at h
 ·rename_i a c k' d
  rw [hx.int_inv, hy.int_inv]
  cases hk : decide (a = k') with
  | true =>
   rw [hk] at h
   simp only [cond_true, yaa] at h
   simp only [zgB, of_decide_eq_true hk, if_true, zn8, h]
  | false => rw [hk] at h; cases h
 ·rw [hx.bool_inv, hy.bool_inv]; exact h
 ·obtain ⟨s', rfl, rfl⟩ := hx.str_inv
  obtain ⟨t', rfl, rfl⟩ := hy.str_inv
  simp only [yaa] at h
  simp only [zgB, zlx, h]
 ·cases h
theorem zfZ : ∀ {ks : List LK} {xs ys : List TV} {xs' ys' : List V} (_ : Pw (Den ρ) xs xs') (_ : Pw (Den ρ) ys ys') {b : Bool} (_ : zhG ks xs ys = some b), zbJ ks xs' ys' = some b
 | [], [], [], xs', ys', hx, hy, b, h => by
  cases hx; cases hy; exact h
 | k :: ks, x :: xs, y :: ys, xs', ys', hx, hy, b, h => by
  cases hx with
  | cons h1 t1 =>
   cases hy with
   | cons h2 t2 =>
    simp only [zhG] at h
    cases h3 : zpc k x y with
    | none => simp only [h3] at h; cases h
    | some c =>
     simp only [h3] at h
     cases h4 : zhG ks xs ys with
     | none => simp only [h4] at h; cases h
     | some d =>
      simp only [h4] at h
      have e1 := zly h1 h2 h3
      have e2 := zfZ t1 t2 h4
      rw [zbJ, e1, Option.bind_some, e2, Option.bind_some]; exact h
 | [], _ :: _, _, xs', ys', hx, hy, b, h => by cases h
 | [], [], _ :: _, xs', ys', hx, hy, b, h => by cases h
 | _ :: _, [], _, xs', ys', hx, hy, b, h => by cases h
 | _ :: _, _ :: _, [], xs', ys', hx, hy, b, h => by cases h
theorem zn9 {kind : EqK} {x y : TV} {x' y' : V} (hx : Den ρ x x') (hy : Den ρ y y') {b : Bool} (h : eqT kind x y = some b) : eqV kind x' y' = some b := by
 unfold eqT at h
 split at h
 ·rw [hx.nilp_inv, hy.nilp_inv]; exact h
 ·obtain ⟨b, rfl, _⟩ := hy.ptr_inv; rw [hx.nilp_inv]; exact h
 ·obtain ⟨b, rfl, _⟩ := hx.ptr_inv; rw [hy.nilp_inv]; exact h
 ·rw [hx.nilp_inv, hy.loc_inv]; exact h
 ·rw [hx.loc_inv, hy.nilp_inv]; exact h
 ·rw [hx.nils_inv, hy.nils_inv]; exact h
 ·rw [hx.nilf_inv, hy.nilf_inv]; exact h
 ·obtain ⟨b, rfl, _⟩ := hy.func_inv; rw [hx.nilf_inv]; exact h
 ·obtain ⟨b, rfl, _⟩ := hx.func_inv; rw [hy.nilf_inv]; exact h
 ·cases h
theorem zf0 {c : Bool} {x y : Bool} : (bif c then x else y) = if c then x else y := by cases c <;> rfl
theorem zoa {neg : Bool} {kind : EqK} {x y : TV} {x' y' : V} (hx : Den ρ x x') (hy : Den ρ y y') {k : TV → Prop} (hk : eqW neg kind x y k) : ∃ b, eqV kind x' y' = some b ∧ k (.bool (if neg then !b else b)) := by
 unfold eqW at hk
 split at hk
 ·split at hk
  ·rw [hx.bool_inv, hy.bool_inv]
   have := zcP hk
   rw [zf0] at this
   exact ⟨_, rfl, this⟩
  ·exact hk.elim
 ·split at hk
  ·obtain ⟨xs', rfl, h1⟩ := hx.agg_inv
   obtain ⟨ys', rfl, h2⟩ := hy.agg_inv
   split at hk
   ·rename_i b hb
    have := zcP hk
    rw [zf0] at this
    exact ⟨b, zfZ h1 h2 hb, this⟩
   ·exact hk.elim
  ·exact hk.elim
 ·split at hk
  ·rw [hy.nils_inv]
   rcases hx.sl_inv with ⟨ys, rfl, _⟩ | ⟨rfl, rfl⟩
   ·have := hk false (fun h => by cases h)
    rw [zf0] at this
    exact ⟨false, rfl, this⟩
   ·have := hk true (fun _ => rfl)
    rw [zf0] at this
    exact ⟨true, rfl, this⟩
  ·rw [hx.nils_inv]
   rcases hy.sl_inv with ⟨ys, rfl, _⟩ | ⟨rfl, rfl⟩
   ·have := hk false (fun h => by cases h)
    rw [zf0] at this
    exact ⟨false, rfl, this⟩
   ·have := hk true (fun _ => rfl)
    rw [zf0] at this
    exact ⟨true, rfl, this⟩
  ·rw [hx.nils_inv, hy.nils_inv]
   rw [zf0] at hk
   exact ⟨true, rfl, hk⟩
  ·exact hk.elim
 ·split at hk
  ·rename_i a
   have hy' : y' = .nili := by cases hy with | base h => cases h; rfl
   subst hy'
   have := zcP hk
   rw [zf0] at this
   cases hx with
   | base h =>
    cases h with
    | erri => exact ⟨false, rfl, by cases neg <;> exact this⟩
    | errn => exact ⟨true, rfl, by cases neg <;> exact this⟩
  ·exact hk.elim
 ·split at hk
  ·rename_i b hb
   rw [zf0] at hk
   exact ⟨b, zn9 hx hy hb, hk⟩
  ·exact hk.elim
theorem zob {op : UnOp} {x : TV} {x' : V} (hx : Den ρ x x') {k : TV → Prop} (hk : unW op x k) : ∃ v t, doUn op x' = some v ∧ Den ρ t v ∧ k t := by
 unfold unW at hk
 split at hk
 ·rw [hx.int_inv]; exact ⟨_, _, rfl, .base (.int _ _), hk⟩
 ·rw [hx.bool_inv]; exact ⟨_, _, rfl, .base (.bool _), hk⟩
 ·rw [hx.int_inv]; exact ⟨_, _, rfl, .base (.int _ _), hk⟩
 ·exact hk.elim
theorem zjd {mx : Bool} {t : TV} {ts : List TV} {v : V} {vs : List V} (h1 : Den ρ t v) (h2 : Pw (Den ρ) ts vs) {k : TV → Prop} (hk : zi7 mx t ts k) : ∃ r w, zdj mx v vs = some r ∧ Den ρ w r ∧ k w := by
 unfold zi7 at hk
 split at hk
 ·rename_i kd a kd' b
  rw [h1.int_inv]
  cases h2 with
  | cons h3 h4 =>
   cases h4
   rw [h3.int_inv]
   obtain ⟨_, hk⟩ := bifT hk
   cases mx with
   | false => exact ⟨_, _, by simp only [zdj, zf9, Option.bind_some, yas, if_false], .base (.int kd (if b < a then b else a)), by rw [show (if b < a then b else a) = min a b from by rw [Int.min_def]; split <;> split <;> omega]; exact hk⟩
   | true => exact ⟨_, _, by simp only [zdj, zf9, Option.bind_some, if_true], .base (.int kd (if a < b then b else a)), by rw [show (if a < b then b else a) = max a b from by rw [Int.max_def]; split <;> split <;> omega]; exact hk⟩
 ·exact hk.elim
theorem zhK : ∀ {s : List Int} {xs : List (List V)}, Pw (Pw Den0) (s.map by8) xs → (∀ b ∈ s, 0 ≤ b ∧ b < 256) → ∃ b : List UInt8, bytesOf xs = some b ∧ s = b.map zet
 | [], xs, h, _ => by cases h; exact ⟨[], rfl, rfl⟩
 | n :: s, xs, h, hr => by
  cases h with
  | cons h1 h2 =>
   cases h1 with
   | cons h3 h4 =>
    cases h4
    cases h3 with
    | int k n =>
     obtain ⟨b, e1, e2⟩ := zhK h2 fun b hb => hr b (.tail _ hb)
     have hn := hr n (.head _)
     refine ⟨UInt8.ofNat n.toNat :: b, by simp only [bytesOf]; rw [if_pos hn, e1]; rfl, ?_⟩
     rw [List.map_cons, ← e2]
     congr 1
     unfold zet
     rw [UInt8.toNat_ofNat']
     omega
theorem zm0 {ρ : List Nat} {t : TV} {v : V} (h : Den ρ t v) (hf : t.flatA0 = true) : Den0 t v ∧ v.flat0 = true := by
 cases h with
 | base h0 =>
  refine ⟨h0, ?_⟩
  cases h0 with
  | undef v => cases hf
  | _ => rfl
 | func f h =>
  cases h with
  | nil => exact ⟨.func f, rfl⟩
  | cons _ _ => cases hf
 | _ => cases hf
theorem zlz {ρ : List Nat} {cs : List TV} {cs' : List V} (h : Pw (Den ρ) cs cs') (hf : cs.all TV.flatA0 = true) : Pw Den0 cs cs' ∧ cs'.all V.flat0 = true := by
 induction h with
 | nil => exact ⟨.nil, rfl⟩
 | cons hr _ ih =>
  simp only [List.all_cons, yae] at hf
  obtain ⟨a, b⟩ := zm0 hr hf.1
  obtain ⟨c, d⟩ := ih hf.2
  exact ⟨.cons a c, by simp only [List.all_cons, b, d, Bool.and_self]⟩
theorem zf1 {ρ : List Nat} {t : TV} {v : V} (h : Den ρ t v) (hf : t.flatA = true) : (∀ ρ', Den ρ' t v) ∧ v.flat1 = true := by
 cases h with
 | agg h =>
  have := zlz h hf
  exact ⟨fun ρ' => .agg this.1.base, this.2⟩
 | base h0 =>
  refine ⟨fun ρ' => .base h0, ?_⟩
  cases h0 with
  | undef v => cases hf
  | _ => rfl
 | func f h =>
  cases h with
  | nil => exact ⟨fun ρ' => .base (.func f), rfl⟩
  | cons _ _ => cases hf
 | _ => cases hf
theorem zgp {ρ : List Nat} {ts : List TV} {vs : List V} (h : Pw (Den ρ) ts vs) (hf : ts.all TV.flatA = true) : (∀ ρ', Pw (Den ρ') ts vs) ∧ vs.all V.flat1 = true := by
 induction h with
 | nil => exact ⟨fun _ => .nil, rfl⟩
 | cons hr _ ih =>
  simp only [List.all_cons, yae] at hf
  obtain ⟨a, b⟩ := zf1 hr hf.1
  obtain ⟨c, d⟩ := ih hf.2
  exact ⟨fun ρ' => .cons (a ρ') (c ρ'), by simp only [List.all_cons, b, d, Bool.and_self]⟩
theorem zkm {ρ : List Nat} {ts : List TV} {vs : List V} (h : Pw (Den ρ) ts vs) (hf : ts.all TV.flatA = true) : Pw (Den []) ts vs ∧ vs.all V.flat1 = true :=
 ⟨(zgp h hf).1 [], (zgp h hf).2⟩
theorem zkn {ρ : List Nat} {L : Ts} {B : Bs} {M : Ms} {st : St} (h : Rel ρ L B M st) {t : TV} {v : V} (hd : Den ρ t v) {k : TV → Prop} (hk : znZ L B M t k) : ∃ u t', lentV st v = some u ∧ Den [] t' u ∧ k t' := by
 have plain : (∀ r, v ≠ .place r) → t.flatA = true → t.hasOwn = false → k t → ∃ u t', lentV st v = some u ∧ Den [] t' u ∧ k t' := fun hn ha ho hk => by
  have h1 := zf1 hd ha
  refine ⟨v, t, ?_, h1.1 [], hk⟩
  cases v with
  | place r => exact absurd rfl (hn r)
  | _ => simp only [lentV]; rw [if_pos (by rw [h1.2, hd.hasOwn ho]; rfl)]
 cases t with
 | place r =>
  obtain ⟨r', rfl, hr⟩ := hd.place_inv
  obtain ⟨t2, hd2, hk2⟩ := hr.look h hk
  cases t2 with
  | nils => exact ⟨.nils, .nils, by simp only [lentV, hd2.nils_inv], .base .nils, hk2⟩
  | sl o z xs =>
   rcases hd2.sl_inv with ⟨ys, e, h3⟩ | ⟨e, rfl⟩
   ·exact ⟨.slice false z ys, .sl false z xs, by simp only [lentV, e], .base (.sl _ _ h3), hk2⟩
   ·exact ⟨.nils, .sl false z [], by simp only [lentV, e], .base (.sln _ _), hk2⟩
  | _ => exact hk2.elim
 | _ =>
  dsimp only [znZ] at hk
  obtain ⟨hc, hk⟩ := bifT hk
  simp only [yae, Bool.not_eq_true'] at hc
  exact plain (fun r e => by subst e; cases hd with | base h0 => cases h0 <;> cases hc.1) hc.1 hc.2 hk
theorem zhL {ρ : List Nat} {L : Ts} {B : Bs} {M : Ms} {st : St} (h : Rel ρ L B M st) : ∀ {ts : List TV} {vs : List V} (_ : Pw (Den ρ) ts vs) {k : List TV → Prop} (_ : zpd L B M ts k), ∃ us ts', zew st vs = some us ∧ Pw (Den []) ts' us ∧ k ts'
 | [], _, .nil, k, hk => ⟨[], [], rfl, .nil, hk⟩
 | t :: ts, _, .cons hd hds, k, hk => by
  unfold zpd at hk
  obtain ⟨u, t', e1, h1, hk⟩ := zkn h hd hk
  obtain ⟨us, ts', e2, h2, hk⟩ := zhL h hds hk
  exact ⟨u :: us, t' :: ts', by simp [zew, e1, e2], .cons h1 h2, hk⟩
theorem zoc {ρ : List Nat} {t : TV} {v : V} (h : Den ρ t v) (hf : t.flatR = true) : (∀ ρ', Den ρ' t v) ∧ v.flat2 = true := by
 cases h with
 | tuple h =>
  have := zgp h hf
  exact ⟨fun ρ' => .tuple (this.1 ρ'), this.2⟩
 | base h0 =>
  refine ⟨fun ρ' => .base h0, ?_⟩
  cases h0 with
  | undef v => cases hf
  | _ => rfl
 | agg h => exact zf1 (.agg h) hf
 | func f h => exact zf1 (.func f h) hf
 | _ => cases hf
theorem zhM {q : Bool} {cf : CF} (h : Rel ρ L B M st) {op : AOp} {k : TV → Ts → Bs → Ms → Prop} (hk : zbK q cf op L B M k) :
  ∃ v st', evalOp cf st op = some (v, st') ∧ (op.isCall = true → st'.l = st.l ∧ (q = true → st'.m = st.m)) ∧ ∃ ρ' t L' B' M', Den ρ' t v ∧ Rel ρ' L' B' M' st' ∧ Fr ρ st.m ρ' st'.m ∧ k t L' B' M' := by
 have fin : ∀ {v : V} {t : TV}, evalOp cf st op = some (v, st) → op.isCall = false → Den ρ t v → k t L B M →
   ∃ v st', evalOp cf st op = some (v, st') ∧ (op.isCall = true → st'.l = st.l ∧ (q = true → st'.m = st.m)) ∧ ∃ ρ' t L' B' M', Den ρ' t v ∧ Rel ρ' L' B' M' st' ∧ Fr ρ st.m ρ' st'.m ∧ k t L' B' M' :=
  fun {v t} he hc hd hk => ⟨v, st, he, (fun hh => by rw [hc] at hh; cases hh), ρ, t, L, B, M, hd, h, .refl _ _, hk⟩
 have fin2 : ∀ {v : V} {σ' : Nat → V} {t : TV} {L' : Ts}, evalOp cf st op = some (v, { st with σ := σ' }) → op.isCall = false → Den ρ t v → Ag ρ L' σ' → k t L' B M →
   ∃ v st', evalOp cf st op = some (v, st') ∧ (op.isCall = true → st'.l = st.l ∧ (q = true → st'.m = st.m)) ∧ ∃ ρ' t L' B' M', Den ρ' t v ∧ Rel ρ' L' B' M' st' ∧ Fr ρ st.m ρ' st'.m ∧ k t L' B' M' :=
  fun {v σ' t L'} he hc hd ha hk => ⟨v, _, he, (fun hh => by rw [hc] at hh; cases hh), ρ, t, L', B, M, hd, h.sig ha, .refl _ _, hk⟩
 cases op with
 | mv x =>
  dsimp only [zbK] at hk
  obtain ⟨v, σ', e, t, L', hd, h1, hk⟩ := zcp h.a hk
  exact fin2 e rfl hd h1 hk
 | mvK s =>
  dsimp only [zbK] at hk
  split at hk
  ·rename_i o z xs hv
   have hd := h.a s _ hv
   rcases hd.sl_inv with ⟨ys, e, hxy⟩ | ⟨e, rfl⟩
   ·exact fin2 (v := .slice false z ys) (σ' := upd st.σ s (.slice false z ys)) (by simp only [evalOp, e]) rfl (.base (.sl false z hxy)) (h.a.upd s (.base (.sl false z hxy))) hk
   ·refine fin2 (v := .nils) (σ' := st.σ) (t := .sl false z []) (by simp only [evalOp, e]) rfl (.base (.sln false z)) (fun s' t' ht' => ?_) hk
    rw [zcO] at ht'
    split at ht'
    ·rename_i e2; subst e2; cases ht'; rw [e]; exact .base (.sln false z)
    ·exact h.a s' t' ht'
  ·rename_i hv
   have hd := h.a s _ hv
   exact fin (by simp only [evalOp, hd.nils_inv]) rfl (.base .nils) hk
  ·exact hk.elim
 | pick c a b =>
  dsimp only [zbK] at hk
  obtain ⟨v, t, e, hd, hk⟩ := zas h.a hk
  cases t with
  | bool c =>
   obtain ⟨w, t, e2, hd2, hk⟩ := zas h.a hk
   rw [hd.bool_inv] at e
   exact fin (v := w) (by simp only [evalOp, e, Option.bind_some]; cases c <;> simp_all) rfl hd2 hk
  | _ => exact hk.elim
 | allocL j zero =>
  dsimp only [zbK] at hk
  obtain ⟨hz, hk⟩ := bifT hk
  obtain ⟨zs, hzs, hk⟩ := zc1 (ρ := ρ) hk
  obtain ⟨L', h1, hk⟩ := zcJ h.a (fun _ _ h => Den.killLV j h) hk
  exact ⟨.loc j 0, { st with l := upd st.l j zero, σ := killL j st.σ }, by simp only [evalOp]; rw [if_pos hz], (fun hh => by cases hh), ρ, .loc j 0, L', _, M, .loc j 0, ⟨h1, h.b.upd j hzs, h.m⟩, .refl _ _, hk⟩
 | allocM zero =>
  dsimp only [zbK] at hk
  obtain ⟨hz, hk⟩ := bifT hk
  obtain ⟨zs, hzs, hk⟩ := zc1 (ρ := ρ) hk
  obtain ⟨hz2, hk⟩ := bifT hk
  refine ⟨.ptr st.m.length 0, { st with m := st.m ++ [zero] }, by simp only [evalOp]; rw [if_pos ⟨hz, zg2 hzs hz2⟩], (fun hh => by cases hh), ρ ++ [st.m.length], .ptr M.length 0, L, B, _, .ptr 0 ?_, ⟨h.a.mono _, h.b.mono _, h.m.alloc hzs⟩, .alloc _ _ _, (by have hk' := zav.1 hk; exact hk')⟩
  rw [← h.m.2.1]; exact List.getElem?_concat_length ..
 | boxL j x =>
  dsimp only [zbK] at hk
  obtain ⟨v, σ', e, t, L1, hd, h1, hk⟩ := zcp h.a hk
  obtain ⟨ho, hk⟩ := bifT hk
  obtain ⟨L', h2, hk⟩ := zcJ h1 (fun _ _ h => Den.killLV j h) hk
  exact ⟨.loc j 0, { st with l := upd st.l j v.cells, σ := killL j σ' }, by simp only [evalOp, e, Option.bind_some]; rw [if_pos (hd.ok1 ho)], (fun hh => by cases hh), ρ, .loc j 0, L', _, M, .loc j 0, ⟨h2, h.b.upd j (hd.cells ho), h.m⟩, .refl _ _, hk⟩
 | boxM x =>
  dsimp only [zbK] at hk
  obtain ⟨v, σ', e, t, L1, hd, h1, hk⟩ := zcp h.a hk
  obtain ⟨ho, hk⟩ := bifT hk
  refine ⟨.ptr st.m.length 0, { st with σ := σ', m := st.m ++ [v.cells] }, by simp only [evalOp, e, Option.bind_some]; rw [if_pos (hd.ok1 ho)], (fun hh => by cases hh), ρ ++ [st.m.length], .ptr M.length 0, L1, B, _, .ptr 0 ?_, ⟨h1.mono _, h.b.mono _, h.m.alloc (hd.cells ho)⟩, .alloc _ _ _, (by have hk' := zav.1 hk; exact hk')⟩
  rw [← h.m.2.1]; exact List.getElem?_concat_length ..
 | build zero parts =>
  dsimp only [zbK] at hk
  obtain ⟨zs, hzs, hk⟩ := zc1 (ρ := ρ) hk
  obtain ⟨cs', σ', e, cs, L', hd, h1, hk⟩ := zhJ h.a hzs hk
  exact fin2 (v := .agg cs') (by simp only [evalOp, e, Option.bind_some]) rfl (.agg hd) h1 hk
 | buildSlice sz zero len parts =>
  dsimp only [zbK] at hk
  obtain ⟨hz, hk⟩ := bifT hk
  simp only [yae] at hz
  obtain ⟨z1, z2⟩ := hz
  obtain ⟨zs, hzs, hk⟩ := zc1 (ρ := ρ) hk
  obtain ⟨z3, hk⟩ := bifT hk
  obtain ⟨hz0, _⟩ := zpf hzs z3
  obtain ⟨cs', σ', e, cs, L', hd, h1, _, rfl, hk⟩ := zgP h.a (Pw.replicate hz0 len) hk
  exact fin2 (v := .slice true sz cs') (by simp only [evalOp]; rw [if_pos ⟨yap z1, z2⟩, e]; rfl) rfl (.base (.sl true sz hd)) h1 hk
 | load agg n p mode =>
  dsimp only [zbK] at hk
  obtain ⟨a, ta, e, hd, hk⟩ := zas h.a hk
  obtain ⟨v, st', e2, t, B', M', hd2, h2, hf, hk⟩ := zhI h hd hk
  exact ⟨v, st', by simp only [evalOp, e, Option.bind_some, e2], (fun hh => by cases hh), ρ, t, L, B', M', hd2, h2, hf, hk⟩
 | store n p x =>
  dsimp only [zbK] at hk
  obtain ⟨v, σ', e, t, L1, hd, h1, hk⟩ := zcp h.a hk
  obtain ⟨a, ta, e1, hda, hk⟩ := zas (st := { st with σ := σ' }) h1 hk
  obtain ⟨ho, hk⟩ := bifT hk
  obtain ⟨st', e2, L', B', M', h2, hf, hk⟩ := zkl (h.sig h1) (hd.cells ho) hda hk
  exact ⟨_, st', by simp only [evalOp, e, Option.bind_some, e1]; rw [if_pos (hd.ok1 ho), e2]; rfl, (fun hh => by cases hh), ρ, .undef, L', B', M', .undef' _, h2, hf, hk⟩
 | nilCheck x =>
  dsimp only [zbK] at hk
  obtain ⟨a, t, e, hd, hk⟩ := zas h.a hk
  cases t with
  | ptr i o => obtain ⟨b, rfl, _⟩ := hd.ptr_inv; exact fin (by simp only [evalOp, e, Option.bind_some]) rfl hd hk
  | loc i o => have := hd.loc_inv; subst this; exact fin (by simp only [evalOp, e, Option.bind_some]) rfl hd hk
  | ro i o => obtain ⟨b, rfl, _⟩ := hd.ro_inv; exact fin (by simp only [evalOp, e, Option.bind_some]) rfl hd hk
  | el i o _ _ => obtain ⟨b, rfl, _⟩ := hd.el_inv; exact fin (by simp only [evalOp, e, Option.bind_some]) rfl hd hk
  | func i o => obtain ⟨b, rfl, _⟩ := hd.func_inv; exact fin (by simp only [evalOp, e, Option.bind_some]) rfl hd hk
  | _ => exact hk.elim
 | bin op x y =>
  dsimp only [zbK] at hk
  obtain ⟨a, ta, e, hd, hk⟩ := zas h.a hk
  obtain ⟨b, tb, e1, hd1, hk⟩ := zas h.a hk
  obtain ⟨v, t, e2, hd2, hk⟩ := zmZ hd hd1 hk
  exact fin (by simp only [evalOp, e, e1, e2, Option.bind_some]) rfl hd2 hk
 | eq neg kind x y =>
  dsimp only [zbK] at hk
  obtain ⟨a, ta, e, hd, hk⟩ := zas h.a hk
  obtain ⟨b, tb, e1, hd1, hk⟩ := zas h.a hk
  obtain ⟨v, e2, hk⟩ := zoa hd hd1 hk
  exact fin (by simp only [evalOp, e, e1, e2, Option.bind_some]) rfl (.base (.bool _)) hk
 | un op x =>
  dsimp only [zbK] at hk
  obtain ⟨a, ta, e, hd, hk⟩ := zas h.a hk
  obtain ⟨v, t, e2, hd2, hk⟩ := zob hd hk
  exact fin (by simp only [evalOp, e, e2, Option.bind_some]) rfl hd2 hk
 | conv kd x =>
  dsimp only [zbK] at hk
  obtain ⟨a, ta, e, hd, hk⟩ := zas h.a hk
  cases ta with
  | int _ n => rw [hd.int_inv] at e; exact fin (by simp only [evalOp, e, Option.bind_some]) rfl (.base (.int _ _)) hk
  | _ => exact hk.elim
 | strStr x =>
  dsimp only [zbK] at hk
  obtain ⟨a, ta, e, hd, hk⟩ := zas h.a hk
  cases ta with
  | str s => obtain ⟨b, rfl, rfl⟩ := hd.str_inv; exact fin (by simp only [evalOp, e, Option.bind_some]) rfl hd hk
  | _ => exact hk.elim
 | strBytes x =>
  dsimp only [zbK] at hk
  obtain ⟨a, ta, e, hd, hk⟩ := zas h.a hk
  cases ta with
  | str s => obtain ⟨b, rfl, rfl⟩ := hd.str_inv; exact fin (by simp only [evalOp, e, Option.bind_some]) rfl (.base (.sl true 1 (zlv b))) hk
  | _ => exact hk.elim
 | bytesStr x =>
  dsimp only [zbK] at hk
  obtain ⟨a, ta, e, hd, hk⟩ := zas h.a hk
  obtain ⟨xs, e1, ys, hxy, s, ⟨rfl, hr⟩, hk⟩ := zgO h hd hk
  obtain ⟨b, e2, rfl⟩ := zhK hxy hr
  exact fin (by simp only [evalOp, e, e1, e2, Option.bind_some]) rfl (.base (.str b)) hk
 | intStr x =>
  dsimp only [zbK] at hk
  obtain ⟨a, ta, e, hd, hk⟩ := zas h.a hk
  cases ta with
  | int _ n => rw [hd.int_inv] at e; exact fin (by simp only [evalOp, e, Option.bind_some]) rfl (.base (.str _)) hk
  | _ => exact hk.elim
 | convB x =>
  dsimp only [zbK] at hk
  obtain ⟨v, σ', e, t, L1, hd, h1, hk⟩ := zcp h.a hk
  cases t with
  | sl o z xs =>
   cases o with
   | false => exact hk.elim
   | true =>
    obtain ⟨hz, hne, hk⟩ := zcg hk
    rcases hd.sl_inv with ⟨ys, rfl, hxy⟩ | ⟨_, rfl⟩
    ·exact fin2 (v := .slice true 1 ys) (by simp only [evalOp, e, Option.bind_some]; rw [if_pos hz]) rfl (.base (.sl true 1 hxy)) h1 hk
    ·exact absurd rfl hne
  | _ => exact hk.elim
 | makeSlice sz zero l c =>
  dsimp only [zbK] at hk
  obtain ⟨a, ta, e, hd, hk⟩ := zas h.a hk
  obtain ⟨b, tb, e1, hd1, hk⟩ := zas h.a hk
  cases ta <;> try exact hk.elim
  cases tb <;> try exact hk.elim
  rw [hd.int_inv] at e
  rw [hd1.int_inv] at e1
  obtain ⟨hc, hk⟩ := hk
  obtain ⟨hz, hk⟩ := bifT hk
  simp only [yae] at hz
  obtain ⟨z1, z2⟩ := hz
  obtain ⟨zs, hzs, hk⟩ := zc1 (ρ := ρ) hk
  obtain ⟨z3, _, rfl, hk⟩ := bifT hk
  obtain ⟨hz0, _⟩ := zpf hzs z3
  exact fin (by simp only [evalOp, e, e1, Option.bind_some]; rw [if_pos ⟨hc.1, hc.2.1, hc.2.2, yap z1, z2⟩]) rfl (.base (.sl true sz (Pw.replicate hz0 _))) hk
 | sliceS x lo hi =>
  dsimp only [zbK] at hk
  obtain ⟨a, ta, e, hd, hk⟩ := zas h.a hk
  cases ta <;> try exact hk.elim
  obtain ⟨b, rfl, rfl⟩ := hd.str_inv
  obtain ⟨n, e1, hk⟩ := zdz h.a hk
  obtain ⟨l, e2, hc, _, rfl, hk⟩ := zdz h.a hk
  simp only [yal] at hc e1
  exact fin (by simp only [evalOp, e, e1, e2, Option.bind_some]; rw [if_pos hc]) rfl (.base (.str _)) (by rw [List.map_take, List.map_drop]; exact hk)
 | sliceV sz x lo hi =>
  dsimp only [zbK] at hk
  obtain ⟨v, σ', e, t, L1, hd, h1, hk⟩ := zcp h.a hk
  cases t <;> try exact hk.elim
  ·obtain ⟨q, e1, hk⟩ := zdz (st := { st with σ := σ' }) h1 hk
   obtain ⟨l, e2, hc, hk⟩ := zdz (st := { st with σ := σ' }) h1 hk
   rw [hd.nils_inv] at e
   exact fin2 (v := .nils) (by simp only [evalOp, e, e1, e2, Option.bind_some]; rw [if_pos hc]) rfl (.base .nils) h1 hk
  ·obtain ⟨hz, hk⟩ := zcg hk
   obtain ⟨n, e1, hk⟩ := zdz (st := { st with σ := σ' }) h1 hk
   obtain ⟨l, e2, hc, _, rfl, hk⟩ := zdz (st := { st with σ := σ' }) h1 hk
   rcases hd.sl_inv with ⟨ys, rfl, hxy⟩ | ⟨rfl, rfl⟩
   ·rw [hxy.length] at hc e1
    exact fin2 (v := .slice _ sz ((ys.drop l).take (n - l))) (by simp only [evalOp, e, e1, e2, Option.bind_some]; rw [if_pos ⟨hc.1, hc.2, hz⟩]) rfl (.base (.sl _ _ ((hxy.drop _).take _))) h1 hk
   ·simp only [List.length_nil] at hc e1
    refine fin2 (v := .nils) (by simp only [evalOp, e, e1, e2, Option.bind_some]; rw [if_pos (by omega)]) rfl ?_ h1 hk
    simp only [List.drop_nil, List.take_nil]
    exact .base (.sln _ _)
 | fieldAddr off x =>
  dsimp only [zbK] at hk
  obtain ⟨a, t, e, hd, hk⟩ := zas h.a hk
  cases t with
  | ptr i o => obtain ⟨b, rfl, hb⟩ := hd.ptr_inv; exact fin (by simp only [evalOp, e, Option.bind_some]) rfl (.ptr _ hb) hk
  | loc i o => have := hd.loc_inv; subst this; exact fin (by simp only [evalOp, e, Option.bind_some]) rfl (.loc _ _) hk
  | ro i o => obtain ⟨b, rfl, hb⟩ := hd.ro_inv; exact fin (by simp only [evalOp, e, Option.bind_some]) rfl (.ro _ hb) hk
  | el i o _ _ => obtain ⟨b, rfl, hb⟩ := hd.el_inv; exact fin (by simp only [evalOp, e, Option.bind_some]) rfl (.el _ _ _ hb) hk
  | _ => exact hk.elim
 | field agg n off x =>
  dsimp only [zbK] at hk
  obtain ⟨a, t, e, hd, hk⟩ := zas h.a hk
  cases t <;> try exact hk.elim
  rename_i cs
  obtain ⟨cs', rfl, hc⟩ := hd.agg_inv
  cases agg with
  | false =>
   obtain ⟨rfl, hk2⟩ := zcg hk
   cases hv : cs[off]? with
   | none => simp only [hv] at hk2
   | some v =>
    simp only [hv] at hk2
    obtain ⟨v', hv', hd2⟩ := hc.get hv
    exact fin (v := v') (by simp only [evalOp, e, Option.bind_some]; rw [if_pos (Nat.succ_le_of_lt (zax hv')), znO hv']; rfl) rfl hd2 hk2
  | true =>
   obtain ⟨hl, hk⟩ := bifT hk
   have hl := zeV hl
   rw [hc.length] at hl
   exact fin (v := .agg _) (by simp only [evalOp, e, Option.bind_some]; rw [if_pos hl]; rfl) rfl (.agg ((hc.drop _).take _)) (by have hk' := zav.1 hk; exact hk')
 | indexArr len sz x i =>
  dsimp only [zbK] at hk
  obtain ⟨a, t, e, hd, hk⟩ := zas h.a hk
  obtain ⟨b, ti, e1, hd1, hk⟩ := zas h.a hk
  cases ti <;> try exact hk.elim
  rw [hd1.int_inv] at e1
  obtain ⟨hc, hk⟩ := hk
  cases t with
  | ptr i o => obtain ⟨b, rfl, hb⟩ := hd.ptr_inv; exact fin (by simp only [evalOp, e, e1, Option.bind_some]; rw [if_pos hc]) rfl (.ptr _ hb) hk
  | loc i o => have := hd.loc_inv; subst this; exact fin (by simp only [evalOp, e, e1, Option.bind_some]; rw [if_pos hc]) rfl (.loc _ _) hk
  | ro i o => obtain ⟨b, rfl, hb⟩ := hd.ro_inv; exact fin (by simp only [evalOp, e, e1, Option.bind_some]; rw [if_pos hc]) rfl (.ro _ hb) hk
  | el i o _ _ => obtain ⟨b, rfl, hb⟩ := hd.el_inv; exact fin (by simp only [evalOp, e, e1, Option.bind_some]; rw [if_pos hc]) rfl (.el _ _ _ hb) hk
  | _ => exact hk.elim
 | indexSl sz x i =>
  dsimp only [zbK] at hk
  obtain ⟨a, t, e, hd, hk⟩ := zas h.a hk
  obtain ⟨b, ti, e1, hd1, hk⟩ := zas h.a hk
  cases ti <;> try exact hk.elim
  rename_i kd n
  rw [hd1.int_inv] at e1
  cases t with
  | place r =>
   obtain ⟨r', rfl, hr⟩ := hd.place_inv
   obtain ⟨w, hd2, hk⟩ := hr.look h hk
   cases w with
   | sl own z xs =>
    cases own with
    | false =>
     obtain ⟨hz, h0, cs, hcs, hk⟩ := zcg hk
     rcases hd2.sl_inv with ⟨ys, e3, hxy⟩ | ⟨_, rfl⟩
     ·obtain ⟨cs', hcs', hc⟩ := hxy.get hcs
      have e2 := zbZ (d := []) hcs'
      exact fin (v := .ro cs' 0) (by simp only [evalOp, e, e1, Option.bind_some, e3]; rw [if_pos ⟨h0, by have := zax hcs'; omega, hz⟩, e2]) rfl (.ro 0 hc.base) hk
     ·simp at hcs
    | true =>
     obtain ⟨hz, h0, hk⟩ := zcg hk
     rcases hd2.sl_inv with ⟨ys, e3, hxy⟩ | ⟨_, rfl⟩
     ·rw [hxy.length] at h0
      exact fin (v := .el r' sz n.toNat 0) (by simp only [evalOp, e, e1, Option.bind_some, e3]; rw [if_pos ⟨h0.1, by omega, hz⟩]) rfl (.el _ _ _ hr) hk
     ·simp at h0
   | _ => exact hk.elim
  | sl own z xs =>
   cases own with
   | false =>
    obtain ⟨hz, h0, cs, hcs, hk⟩ := zcg hk
    rcases hd.sl_inv with ⟨ys, rfl, hxy⟩ | ⟨_, rfl⟩
    ·obtain ⟨cs', hcs', hc⟩ := hxy.get hcs
     have e2 := zbZ (d := []) hcs'
     exact fin (v := .ro cs' 0) (by simp only [evalOp, e, e1, Option.bind_some]; rw [if_pos ⟨h0, by have := zax hcs'; omega, hz⟩, e2]) rfl (.ro 0 hc.base) hk
    ·simp at hcs
   | true => exact hk.elim
  | _ => exact hk.elim
 | indexAgg agg len sz x i =>
  dsimp only [zbK] at hk
  obtain ⟨a, t, e, hd, hk⟩ := zas h.a hk
  obtain ⟨b, ti, e1, hd1, hk⟩ := zas h.a hk
  cases t <;> try exact hk.elim
  cases ti <;> try exact hk.elim
  rw [hd1.int_inv] at e1
  obtain ⟨cs', rfl, hcs⟩ := hd.agg_inv
  obtain ⟨hc, hk⟩ := hk
  rw [hcs.length] at hc
  cases agg with
  | false =>
   obtain ⟨rfl, v, hv, hk⟩ := zcg hk
   obtain ⟨v', hv', hd2⟩ := hcs.get hv
   exact fin (v := v') (by simp only [evalOp, e, e1, Option.bind_some]; rw [if_pos hc, znO hv']; rfl) rfl hd2 hk
  | true => exact fin (v := .agg _) (by simp only [evalOp, e, e1, Option.bind_some]; rw [if_pos hc]; rfl) rfl (.agg ((hcs.drop _).take _)) hk
 | indexStr x i =>
  dsimp only [zbK] at hk
  obtain ⟨a, t, e, hd, hk⟩ := zas h.a hk
  obtain ⟨b, ti, e1, hd1, hk⟩ := zas h.a hk
  cases t <;> try exact hk.elim
  cases ti <;> try exact hk.elim
  rename_i n
  rw [hd1.int_inv] at e1
  obtain ⟨s', rfl, rfl⟩ := hd.str_inv
  obtain ⟨h0, c, hc, hk⟩ := hk
  rw [List.getElem?_map, yah] at hc
  obtain ⟨u, hu, rfl⟩ := hc
  have hlt := zax hu
  exact fin (v := .int .u8 (zet u)) (by simp only [evalOp, e, e1, Option.bind_some]; rw [if_pos ⟨h0, by omega⟩, zbZ hu]; rfl) rfl (.base (.int _ _)) hk
 | extract x i =>
  dsimp only [zbK] at hk
  obtain ⟨v, σ', e, t, L1, hd, h1, hk⟩ := zcp h.a hk
  cases t <;> try exact hk.elim
  rename_i vs
  obtain ⟨vs', rfl, hvs⟩ := hd.tuple_inv
  cases hv : vs[i]? with
  | none => simp only [hv] at hk
  | some v =>
   simp only [hv] at hk
   obtain ⟨v', hv', hd2⟩ := hvs.get hv
   exact fin2 (v := v') (by simp only [evalOp, e, Option.bind_some]; rw [if_pos (zax hv'), zbZ hv']) rfl hd2 h1 hk
 | lend f sz x lo =>
  dsimp only [zbK] at hk
  obtain ⟨a, ta, e, hd, hk⟩ := zas h.a hk
  obtain ⟨xs, e1, ys, hxy, hlo, zs, rfl, r, hr, hk⟩ := zlw h hd hk
  obtain ⟨hb, hk⟩ := bifT hk
  simp only [yae, Nat.ble_eq] at hb
  rw [hxy.length] at hlo
  obtain ⟨r', m', ρ', hcf, hd2, _, _, _, hq⟩ := hr [] [] [.slice false sz (xs.drop lo)] ⟨List.nodup_nil, rfl, fun i b h => by cases h⟩ (.cons (.base (.sl _ _ (hxy.drop lo))) .nil)
  obtain ⟨hb2, hd3⟩ := zl8 hd2 hb.2
  exact fin (v := r') (by simp only [evalOp, e, e1, Option.bind_some]; rw [if_pos ⟨hlo, hb.1⟩, hcf, hq rfl]; simp [hb2]) rfl (hd3 ρ) hk
 | callN f args w => exact hk.elim
 | tOp _ _ => exact hk.elim
 | loadW _ _ _ _ _ _ => exact hk.elim
 | callL f args =>
  dsimp only [zbK] at hk
  obtain ⟨vs, ts, e, hd, hk⟩ := zfc h.a hk
  obtain ⟨us, ts', e1, hd1, r, hr, hk⟩ := zhL h hd hk
  obtain ⟨hb, hk⟩ := bifT hk
  obtain ⟨r', m', ρ', hcf, hd2, _, _, _, hq⟩ := hr [] [] us ⟨List.nodup_nil, rfl, fun i b h => by cases h⟩ hd1
  obtain ⟨hb2, hd3⟩ := zl8 hd2 hb
  exact fin (v := r') (by simp only [evalOp, e, e1, Option.bind_some]; rw [hcf, hq rfl]; simp [hb2]) rfl (hd3 ρ) hk
 | callP f args =>
  dsimp only [zbK] at hk
  obtain ⟨vs, σ', e, ts, L1, hd, h1, hk⟩ := zfW h.a hk
  obtain ⟨ha, r, hr, hk⟩ := bifT hk
  obtain ⟨hrf, hk⟩ := bifT hk
  obtain ⟨r', m', ρ', hcf, hd2, _, _, _, hq⟩ := hr [] [] vs ⟨List.nodup_nil, rfl, fun i b h => by cases h⟩ (zkm hd ha).1
  have hm : m' = [] := hq rfl
  subst hm
  obtain ⟨hd3, hf3⟩ := zoc hd2 hrf
  exact ⟨r', { st with σ := σ' }, by simp only [evalOp, e, Option.bind_some]; rw [if_pos (zkm hd ha).2, hcf]; simp [hf3], (fun hh => by cases hh), _, r, L1, B, M, hd3 ρ, ⟨h1, h.b, h.m⟩, .refl _ _, hk⟩
 | callF f args =>
  dsimp only [zbK] at hk
  obtain ⟨vs, σ', e, ts, L1, hd, h1, hk⟩ := zfW h.a hk
  obtain ⟨ha, r, M', hr, hk⟩ := bifT hk
  obtain ⟨r', m', ρ', hcf, hd2, hm, hf, _, hq⟩ := hr ρ st.m vs h.m hd
  have ⟨⟨ex, hex, _⟩, _, _⟩ := hf
  subst hex
  obtain ⟨L', h2, hk⟩ := zcJ (h1.mono ex) (fun _ _ h => Den.killMV h) hk
  exact ⟨r', { st with σ := killM σ', m := m' }, by simp only [evalOp, e, Option.bind_some]; rw [if_pos (Pw.all (p := TV.okArg) (q := V.okArg) (fun _ _ h ho => Den.okArg h ho) hd ha), hcf]; rfl, fun _ => ⟨rfl, hq⟩, _, r, L', B, M', hd2, ⟨h2, h.b.mono ex, hm⟩, hf, hk⟩
 | callV f args =>
  dsimp only [zbK] at hk
  obtain ⟨fv, t, e0, hd0, hk⟩ := zas h.a hk
  cases t <;> try exact hk.elim
  obtain ⟨cs', rfl, hcs⟩ := hd0.func_inv
  obtain ⟨vs, σ', e, ts, L1, hd, h1, hk⟩ := zfW h.a hk
  obtain ⟨ha, ha2, r, M', hr, hk⟩ := bifT hk
  obtain ⟨r', m', ρ', hcf, hd2, hm, hf, _, hq⟩ := hr ρ st.m _ h.m (hd.append hcs)
  have ⟨⟨ex, hex, _⟩, _, _⟩ := hf
  subst hex
  obtain ⟨L', h2, hk⟩ := zcJ (h1.mono ex) (fun _ _ h => Den.killMV h) hk
  exact ⟨r', { st with σ := killM σ', m := m' }, by simp only [evalOp, e0, e, Option.bind_some]; rw [if_pos ⟨Pw.all (p := TV.okArg) (q := V.okArg) (fun _ _ h ho => Den.okArg h ho) hd ha, Pw.all (p := TV.okArg) (q := V.okArg) (fun _ _ h ho => Den.okArg h ho) hcs ha2⟩, hcf]; rfl, fun _ => ⟨rfl, hq⟩, _, r, L', B, M', hd2, ⟨h2, h.b.mono ex, hm⟩, hf, hk⟩
 | lenStr x =>
  dsimp only [zbK] at hk
  obtain ⟨a, t, e, hd, hk⟩ := zas h.a hk
  cases t with
  | str s =>
   obtain ⟨b, rfl, rfl⟩ := hd.str_inv
   simp only [yal] at hk
   exact fin (by simp only [evalOp, e, Option.bind_some]) rfl (.base (.int _ _)) hk
  | _ => exact hk.elim
 | lenSl x =>
  dsimp only [zbK] at hk
  obtain ⟨a, t, e, hd, hk⟩ := zas h.a hk
  obtain ⟨xs, e1, ys, hxy, _, rfl, hk⟩ := zgO h hd hk
  rw [hxy.length] at hk
  exact fin (by simp only [evalOp, e, e1, Option.bind_some]) rfl (.base (.int _ _)) hk
 | lenC n => exact fin rfl rfl (.base (.int _ _)) hk
 | append sz x y =>
  dsimp only [zbK] at hk
  obtain ⟨p, σ1, e1, tp, L1, hd1, h1, hk⟩ := zcp h.a hk
  obtain ⟨q', σ2, e2, tq, L2, hd2, h2, hk⟩ := zcp (st := { st with σ := σ1 }) h1 hk
  obtain ⟨ys, e3, zs, hzs, hk⟩ := zdt (st := { st with σ := σ2 }) (h.sig h2) hd2 hk
  have app : ∀ {xs z kk}, appW sz zs xs z kk → (xs.length + zs.length ≤ most ∧ z = sz) ∧ kk (.sl true sz (xs ++ zs)) := fun {xs z kk} ha => by
   obtain ⟨hz, hc, _, rfl, ha⟩ := zcg ha
   exact ⟨⟨hc, hz⟩, ha⟩
  have app0 : ∀ {kk : TV → Prop}, appW sz zs [] sz kk → ∃ v, (if ys.length ≤ most ∧ 0 < ys.length then some (V.slice true sz ys, ({ st with σ := σ2 } : St)) else if ys.length = 0 then some (.nils, { st with σ := σ2 }) else none) = some (v, { st with σ := σ2 }) ∧ Den ρ (.sl true sz zs) v ∧ kk (.sl true sz zs) := fun {kk} ha => by
   obtain ⟨⟨hm, _⟩, hk⟩ := app ha
   rw [hzs.length] at hm
   simp only [List.length_nil, Nat.zero_add] at hm
   by_cases h0 : 0 < ys.length
   ·exact ⟨_, by rw [if_pos ⟨hm, h0⟩], .base (.sl true sz hzs), hk⟩
   ·have hy : ys = [] := List.length_eq_zero_iff.1 (by omega)
    subst hy
    have hz0 : zs = [] := by cases hzs; rfl
    subst hz0
    exact ⟨_, by rw [if_neg (fun hh => h0 hh.2), if_pos (by simp)], .base (.sln true sz), hk⟩
  have fin3 : ∀ v t st', evalOp cf st (.append sz x y) = some (v, st') → ∀ L' B' M', Den ρ t v → Rel ρ L' B' M' st' → Fr ρ st.m ρ st'.m → k t L' B' M' → ∃ v st', evalOp cf st (.append sz x y) = some (v, st') ∧ ((AOp.append sz x y).isCall = true → st'.l = st.l ∧ (q = true → st'.m = st.m)) ∧ ∃ ρ' t L' B' M', Den ρ' t v ∧ Rel ρ' L' B' M' st' ∧ Fr ρ st.m ρ' st'.m ∧ k t L' B' M' :=
   fun v t st' e L' B' M' a b c d => ⟨v, st', e, (fun hh => by cases hh), ρ, t, L', B', M', a, b, c, d⟩
  cases tp with
  | nils =>
   obtain ⟨v, e, hd, hk⟩ := app0 hk
   rw [hd1.nils_inv] at e1
   exact fin3 v _ { st with σ := σ2 } (by simp only [evalOp, e1, e2, e3, Option.bind_some]; exact e) L2 B M hd (h.sig h2) (.refl _ _) hk
  | sl o z xs =>
   cases o with
   | false => exact hk.elim
   | true =>
    rcases hd1.sl_inv with ⟨ws, rfl, hxy⟩ | ⟨rfl, rfl⟩
    ·obtain ⟨hc, hk⟩ := app hk
     rw [hxy.length, hzs.length] at hc
     exact fin3 (.slice true sz (ws ++ ys)) _ { st with σ := σ2 } (by simp only [evalOp, e1, e2, e3, Option.bind_some]; rw [if_pos hc]) L2 B M (.base (.sl true sz (hxy.append hzs))) (h.sig h2) (.refl _ _) hk
    ·have hk' : appW sz zs [] sz fun v => k v L2 B M := by
      obtain ⟨hc, hk⟩ := app hk
      unfold appW
      rw [show Nat.beq sz sz = true by simp]
      exact ⟨hc.1, _, rfl, hk⟩
     obtain ⟨v, e, hd, hk⟩ := app0 hk'
     exact fin3 v _ { st with σ := σ2 } (by simp only [evalOp, e1, e2, e3, Option.bind_some]; exact e) L2 B M hd (h.sig h2) (.refl _ _) hk
  | place r =>
   obtain ⟨r', rfl, hr⟩ := hd1.place_inv
   have nilc : ∀ {z : Nat} {kk : TV → Prop}, appW sz zs [] z kk → appW sz zs [] sz kk := fun {z kk} hk => by
    obtain ⟨hc, hk⟩ := app hk
    unfold appW
    rw [show Nat.beq sz sz = true by simp]
    exact ⟨hc.1, _, rfl, hk⟩
   cases hr with
   | tmp s =>
    simp only at hk
    split at hk
    ·rename_i z xs hs
     rcases (h2 s _ hs).sl_inv with ⟨ws, e4, hxy⟩ | ⟨e4, rfl⟩
     ·obtain ⟨hc, hk⟩ := app hk
      rw [hxy.length, hzs.length] at hc
      have hl : look { st with σ := σ2 } (.tmp s) = .slice true z ws := e4
      exact fin3 (.slice true sz (ws ++ ys)) _ { st with σ := upd σ2 s .undef } (by simp only [evalOp, e1, e2, e3, Option.bind_some, hl]; rw [if_pos hc]) _ B M (.base (.sl true sz (hxy.append hzs))) (h.sig (h2.upd s (.undef' _))) (.refl _ _) hk
     ·obtain ⟨v, e, hd, hk⟩ := app0 (nilc hk)
      have hl : look { st with σ := σ2 } (.tmp s) = .nils := e4
      refine fin3 v _ { st with σ := σ2 } (by simp only [evalOp, e1, e2, e3, Option.bind_some, hl]; exact e) _ B M hd (h.sig (fun s' t' ht' => ?_)) (.refl _ _) hk
      rw [zcO] at ht'
      split at ht'
      ·cases ht'; exact .undef' _
      ·exact h2 s' t' ht'
    ·rename_i hs
     obtain ⟨v, e, hd, hk⟩ := app0 hk
     have hl : look { st with σ := σ2 } (.tmp s) = .nils := (h2 s _ hs).nils_inv
     exact fin3 v _ { st with σ := σ2 } (by simp only [evalOp, e1, e2, e3, Option.bind_some, hl]; exact e) L2 B M hd (h.sig h2) (.refl _ _) hk
    ·exact hk.elim
   | @mem i b o hi =>
    simp only at hk
    split at hk
    ·rename_i cs hcs
     obtain ⟨cs', hcs', hc0⟩ := h.m.get hi hcs
     have hcd := zbZ (d := []) hcs'
     split at hk
     ·rename_i z xs hs
      obtain ⟨w, hw, hd4⟩ := hc0.get hs
      have hl : look { st with σ := σ2 } (.mem b o) = w := by show (st.m.getD b []).getD o .undef = w; rw [hcd, zbZ hw]
      rcases hd4.sl_inv with ⟨ws, rfl, hxy⟩ | ⟨rfl, rfl⟩
      ·obtain ⟨hc, hk⟩ := app hk
       rw [hxy.length, hzs.length] at hc
       exact fin3 (.slice true sz (ws ++ ys)) _ { st with σ := σ2, m := st.m.set b (cs'.set o .undef) } (by simp only [evalOp, e1, e2, e3, Option.bind_some, hl, hcd]; rw [if_pos hc]) L2 B _ (.base (.sl true sz (hxy.append hzs))) ⟨h2, h.b, h.m.set hi (hc0.set (.undef' _) o)⟩ (.set hi _) ((by have hk' := zav.1 hk; have hk2 := zav.1 hk'; exact hk2))
      ·obtain ⟨v, e, hd, hk⟩ := app0 (nilc hk)
       refine fin3 v _ { st with σ := σ2 } (by simp only [evalOp, e1, e2, e3, Option.bind_some, hl]; exact e) L2 B _ hd ⟨h2, h.b, ?_⟩ (.refl _ _) ((by have hk' := zav.1 hk; have hk2 := zav.1 hk'; exact hk2))
       have hset : st.m = st.m.set b (cs'.set o .nils) := by
        have e5 : cs'.set o .nils = cs' := zjc hw
        rw [e5, zjc hcs']
       show Mg ρ _ st.m
       rw [hset]
       exact h.m.set hi (hc0.set (.undef' _) o)
     ·rename_i hs
      obtain ⟨w, hw, hd4⟩ := hc0.get hs
      have hl : look { st with σ := σ2 } (.mem b o) = .nils := by show (st.m.getD b []).getD o .undef = .nils; rw [hcd, zbZ hw, hd4.nils_inv]
      obtain ⟨v, e, hd, hk⟩ := app0 hk
      exact fin3 v _ { st with σ := σ2 } (by simp only [evalOp, e1, e2, e3, Option.bind_some, hl]; exact e) L2 B M hd (h.sig h2) (.refl _ _) hk
     ·exact hk.elim
    ·exact hk.elim
   | loc j o =>
    simp only at hk
    split at hk
    ·rename_i cs hcs
     have hc0 := h.b j cs hcs
     split at hk
     ·rename_i z xs hs
      obtain ⟨w, hw, hd4⟩ := hc0.get hs
      have hl : look { st with σ := σ2 } (.loc j o) = w := by show (st.l j).getD o .undef = w; rw [zbZ hw]
      rcases hd4.sl_inv with ⟨ws, rfl, hxy⟩ | ⟨rfl, rfl⟩
      ·obtain ⟨hc, hk⟩ := app hk
       rw [hxy.length, hzs.length] at hc
       exact fin3 (.slice true sz (ws ++ ys)) _ { st with σ := σ2, l := upd st.l j ((st.l j).set o .undef) } (by simp only [evalOp, e1, e2, e3, Option.bind_some, hl]; rw [if_pos hc]) L2 _ M (.base (.sl true sz (hxy.append hzs))) ⟨h2, h.b.upd j (hc0.set (.undef' _) o), h.m⟩ (.refl _ _) (by have hk' := zav.1 hk; exact hk')
      ·obtain ⟨v, e, hd, hk⟩ := app0 (nilc hk)
       refine fin3 v _ { st with σ := σ2 } (by simp only [evalOp, e1, e2, e3, Option.bind_some, hl]; exact e) L2 _ M hd ⟨h2, fun j' t' ht' => ?_, h.m⟩ (.refl _ _) (by have hk' := zav.1 hk; exact hk')
       rw [zcO] at ht'
       split at ht'
       ·rename_i e6; subst e6; cases ht'
        have e5 : (st.l j').set o .nils = st.l j' := zjc hw
        show Pw (Den ρ) _ (st.l j')
        rw [← e5]; exact hc0.set (.undef' _) o
       ·exact h.b j' t' ht'
     ·rename_i hs
      obtain ⟨w, hw, hd4⟩ := hc0.get hs
      have hl : look { st with σ := σ2 } (.loc j o) = .nils := by show (st.l j).getD o .undef = .nils; rw [zbZ hw, hd4.nils_inv]
      obtain ⟨v, e, hd, hk⟩ := app0 hk
      exact fin3 v _ { st with σ := σ2 } (by simp only [evalOp, e1, e2, e3, Option.bind_some, hl]; exact e) L2 B M hd (h.sig h2) (.refl _ _) hk
     ·exact hk.elim
    ·exact hk.elim
  | _ => exact hk.elim
 | minMax mx x ys =>
  dsimp only [zbK] at hk
  obtain ⟨a, t, e, hd, hk⟩ := zas h.a hk
  obtain ⟨vs, ts, e1, hd1, hk⟩ := zfc h.a hk
  obtain ⟨r, w, hm, hd2, hk⟩ := zjd hd hd1 hk
  exact fin (by simp only [evalOp, e, e1, hm, Option.bind_some]) rfl hd2 hk
 | mkFunc f captured =>
  dsimp only [zbK] at hk
  obtain ⟨vs, ts, e1, hd1, hk⟩ := zfc h.a hk
  obtain ⟨hc, hk⟩ := bifT hk
  exact fin (by simp only [evalOp, e1, Option.bind_some]; rw [if_pos (Pw.all (p := zhF) (q := Am.okCap) (fun _ _ h ho => Den.okCap h ho) hd1 hc)]) rfl (.func f hd1) hk
theorem zhN {s : Nat} {t : TV} (h : zls s t = true) : t = .place (.tmp s) := by
 unfold zls at h
 split at h
 ·rw [yap h]
 ·cases h
theorem zl9 {s : Nat} {t : TV} (h : elAt s t = true) : ∃ z i k, t = .el (.tmp s) z i k := by
 unfold elAt at h
 split at h
 ·rw [yap h]; exact ⟨_, _, _, rfl⟩
 ·cases h
theorem Den.placeT {s : Nat} {v : V} (h : Den ρ (.place (.tmp s)) v) : v = .place (.tmp s) := by
 obtain ⟨r', rfl, hr⟩ := h.place_inv
 cases hr; rfl
theorem Den.elT {s z i k : Nat} {v : V} (h : Den ρ (.el (.tmp s) z i k) v) : v = .el (.tmp s) z i k := by
 obtain ⟨r', rfl, hr⟩ := h.el_inv
 cases hr; rfl
theorem zhO {cf : CF} (h : Ag ρ L st.σ) {s : Nat} {kk : TOp} {k : Prop} (hk : zlt s kk L k) {v : V} {st' : St} : (evalOp cf st (kk.under s) = some (v, st') → evalOp cf st (.tOp s kk) = some (v, st')) ∧ k := by
 cases kk with
 | place => exact ⟨fun he => he, hk⟩
 | index sz x i =>
  simp only [zlt] at hk
  split at hk
  ·rename_i t hf
   obtain ⟨h1, hk⟩ := bifT hk
   have hx := h x _ hf
   rw [zhN h1] at hx
   have hx := hx.placeT
   refine ⟨fun he => ?_, hk⟩
   simp only [TOp.under, evalOp, ze8 hx, Option.bind_some, look] at he
   simp only [evalOp, zdU, tIs, hx, beq_self_eq_true, if_true]
   exact he
  ·exact hk.elim
 | len x =>
  simp only [zlt] at hk
  split at hk
  ·rename_i t hf
   obtain ⟨h1, hk⟩ := bifT hk
   have hx := h x _ hf
   rw [zhN h1] at hx
   have hx := hx.placeT
   refine ⟨fun he => ?_, hk⟩
   simp only [TOp.under, evalOp, ze8 hx, Option.bind_some] at he
   simp only [evalOp, zdU, tIs, hx, beq_self_eq_true, if_true]
   exact he
  ·exact hk.elim
 | load agg n p =>
  simp only [zlt] at hk
  split at hk
  ·rename_i t hf
   obtain ⟨h1, hk2⟩ := bifT hk
   have hx := h p _ hf
   obtain ⟨z, i, o, rfl⟩ := zl9 h1
   have hx := hx.elT
   refine ⟨fun he => ?_, hk2⟩
   simp only [TOp.under, evalOp, zla hx, Option.bind_some, za4, if_true, look] at he
   simp only [evalOp, zdU, hx, zkO, if_true]
   split at he
   ·split at he
    ·rename_i hc
     simp only [if_pos hc, Option.bind_some]
     exact he
    ·cases he
   ·cases he
  ·exact hk.elim
 | store n p x =>
  simp only [zlt] at hk
  obtain ⟨v1, σ', e, t, L', hd, h1, hk⟩ := zcp h hk
  split at hk
  ·rename_i t hf
   obtain ⟨h2, hk2⟩ := bifT hk
   have hx := h1 p _ hf
   obtain ⟨z, i, o, rfl⟩ := zl9 h2
   have hx := hx.elT
   refine ⟨fun he => ?_, hk2⟩
   have hg : getC { st with σ := σ' } (.t p) = some (.el (.tmp s) z i o) := zla hx
   simp only [TOp.under, evalOp, e, Option.bind_some, hg] at he
   simp only [evalOp, zdU, e, Option.bind_some, hg, tEl, beq_self_eq_true, if_true]
   exact he
  ·exact hk.elim
theorem zm1 {s : Nat} {kk : TOp} : (AOp.tOp s kk).isCall = (kk.under s).isCall := by cases kk <;> rfl
theorem zgq {q : Bool} {cf : CF} (h : Rel ρ L B M st) {op : AOp} {k : TV → Ts → Bs → Ms → Prop} (hk : wpOp q cf op L B M k) :
  ∃ v st', evalOp cf st op = some (v, st') ∧ (op.isCall = true → st'.l = st.l ∧ (q = true → st'.m = st.m)) ∧ ∃ ρ' t L' B' M', Den ρ' t v ∧ Rel ρ' L' B' M' st' ∧ Fr ρ st.m ρ' st'.m ∧ k t L' B' M' := by
 by_cases hT : op.isT = true
 ·cases op <;> first | (cases hT; done) | skip
  rename_i s kk
  have hk : zlt s kk L (zbK q cf (kk.under s) L B M k) := hk
  obtain ⟨v, st', e, hc, r⟩ := zhM h (zhO (cf := cf) (v := .undef) (st' := st) h.a hk).2
  exact ⟨v, st', (zhO (cf := cf) h.a hk).1 e, by rw [zm1]; exact hc, r⟩
 ·have : zbK q cf op L B M k := by
   cases op <;> first | exact hk | exact absurd rfl hT
  exact zhM h this
end
end Go.Proofs.YtakdnfneikbjjaaGreatDoor.Am.T

namespace Go.Proofs.YtakdnfneikbjjaaGreatDoor.Am.T
open Go.Proofs.YtakdnfneikbjjaaGreatDoor.Am
section
variable {ρ : List Nat} {cf : CF} {L : Ts} {B : Bs} {M : Ms} {st : St}
theorem zgr {σ : Nat → V} (h : Ag ρ L σ) {o : AOper} {t : TV} {v : V} (hd : Den ρ t v) {l : Nat → List V} {m : Am.Ms} {k : Ts → Prop} (hk : putW o t L k) : ∃ σ', zdM o (v, ⟨σ, l, m⟩) = some ⟨σ', l, m⟩ ∧ ∃ L', Ag ρ L' σ' ∧ k L' := by
  unfold putW at hk
  unfold zdM
  cases hdst : o.dst with
  | none =>
    simp only [hdst] at hk
    cases hkt : o.kt with
    | false =>
      rw [hkt] at hk
      exact ⟨σ, rfl, L, h, hk⟩
    | true =>
      rw [hkt] at hk
      simp only [cond_true] at hk
      obtain ⟨hs, hk⟩ := bifF hk
      have hu : t ≠ .undef := by rintro rfl; exact hk
      have hk2 : k L := by cases t <;> first | exact hk | exact absurd rfl hu
      exact ⟨σ, by simp [St.put, hd.selfPlace hu hs], L, h, hk2⟩
  | some d =>
    simp only [hdst] at hk
    cases hkt : o.kt with
    | false =>
      rw [hkt] at hk
      exact ⟨upd σ d v, by simp [St.put], _, h.upd d hd, hk⟩
    | true =>
      rw [hkt] at hk
      simp only [cond_true] at hk
      obtain ⟨hs, hk⟩ := bifF hk
      have hu : t ≠ .undef := by rintro rfl; exact hk
      have hk2 : mapK (killTV d) L fun L' => k ((d, t) :: L') := by cases t <;> first | exact hk | exact absurd rfl hu
      obtain ⟨L', h1, h2⟩ := zcJ h (fun _ _ h => Den.killTV d h) hk2
      exact ⟨upd (killT d σ) d v, by simp [St.put, hd.selfPlace hu hs], _, Ag.upd h1 d hd, h2⟩
theorem zhP {σ : Nat → V} (h : Ag ρ L σ) {o : AOper} {l : Nat → List V} {m : Am.Ms} {k : Ts → Prop} (hk : zkh o L k) : ∃ σ', St.put ⟨σ, l, m⟩ o.kt o.dst (.tuple []) = ⟨σ', l, m⟩ ∧ ∃ L', Ag ρ L' σ' ∧ k L' := by
  unfold zkh at hk
  cases hdst : o.dst with
  | none => simp only [hdst] at hk; exact ⟨σ, rfl, L, h, hk⟩
  | some d =>
    simp only [hdst] at hk
    cases hkt : o.kt with
    | false => rw [hkt] at hk; exact ⟨_, rfl, _, h.upd d (.tuple .nil), hk⟩
    | true =>
      rw [hkt] at hk
      simp only [cond_true] at hk
      obtain ⟨L', h1, h2⟩ := zcJ h (fun _ _ h => Den.killTV d h) hk
      exact ⟨_, rfl, _, Ag.upd h1 d (.tuple .nil), h2⟩
structure WPO (d : Bool) (cf : CF) (os : List AOper) (L : Ts) (B : Bs) (M : Ms) (K : Ts → Bs → Ms → Prop) : Prop where
  go : ∀ ρ st, Rel ρ L B M st → ∃ st', (if d then runD cf os st else zb0 cf os st) = some st' ∧ ∃ ρ' L' B' M', Rel ρ' L' B' M' st' ∧ Fr ρ st.m ρ' st'.m ∧ K L' B' M'
theorem zfB : ∀ {os : List AOper} {ρ : List Nat} {L : Ts} {B : Bs} {M : Ms} {st : St} {k : Ts → Bs → Ms → Prop} (_ : Rel ρ L B M st) (_ : wpOps cf os L B M k),
    ∃ st', zb0 cf os st = some st' ∧ ∃ ρ' L' B' M', Rel ρ' L' B' M' st' ∧ Fr ρ st.m ρ' st'.m ∧ k L' B' M'
  | [], ρ, L, B, M, st, k, h, hk => ⟨st, rfl, ρ, L, B, M, h, .refl _ _, hk⟩
  | o :: os, ρ, L, B, M, st, k, h, hk => by
    have doit : (wpOp false cf o.op L B M fun v L1 B1 m1 => putW o v L1 fun L2 => wpOps cf os L2 B1 m1 k) → ∃ st1, (evalOp cf st o.op).bind (zdM o) = some st1 ∧ ∃ st', zb0 cf os st1 = some st' ∧ ∃ ρ' L' B' M', Rel ρ' L' B' M' st' ∧ Fr ρ st.m ρ' st'.m ∧ k L' B' M' := fun hk => by
      obtain ⟨v, st1, e, _, ρ1, t, L1, B1, M1, hd, h1, hf1, hk⟩ := zgq h hk
      obtain ⟨σ', e2, L2, h2, hk⟩ := zgr (l := st1.l) (m := st1.m) h1.a hd hk
      obtain ⟨st', e3, ρ', L', B', M', h3, hf3, hk⟩ := zfB (st := ⟨σ', st1.l, st1.m⟩) ⟨h2, h1.b, h1.m⟩ hk
      exact ⟨_, by rw [e]; exact e2, st', e3, ρ', L', B', M', h3, hf1.trans hf3, hk⟩
    have skip : ∀ {b want : Bool} {g : Nat}, (zkh o L fun L2 => wpOps cf os L2 B M k) → ∃ st', zb0 cf os (st.put o.kt o.dst (.tuple [])) = some st' ∧ ∃ ρ' L' B' M', Rel ρ' L' B' M' st' ∧ Fr ρ st.m ρ' st'.m ∧ k L' B' M' := fun {b want g} hk => by
      obtain ⟨σ', e2, L2, h2, hk⟩ := zhP (l := st.l) (m := st.m) h.a hk
      obtain ⟨st', e3, r⟩ := zfB (st := ⟨σ', st.l, st.m⟩) ⟨h2, h.b, h.m⟩ hk
      exact ⟨st', by rw [e2]; exact e3, r⟩
    unfold wpOps at hk
    cases hg : o.guard with
    | none =>
      rw [hg] at hk
      obtain ⟨st1, e, st', e2, r⟩ := doit hk
      exact ⟨st', by simp only [zb0, zdf, hg, e, Option.bind_some, e2], r⟩
    | some q =>
      obtain ⟨g, want⟩ := q
      rw [hg] at hk
      simp only at hk
      split at hk
      · rename_i b hf
        have hv := (h.a g _ hf).bool_inv
        by_cases hbw : b = want
        · subst hbw
          simp only [beq_self_eq_true, cond_true] at hk
          obtain ⟨st1, e, st', e2, r⟩ := doit hk
          exact ⟨st', by simp only [zb0, zdf, hg, hv, if_true, e, Option.bind_some, e2], r⟩
        · have : (b == want) = false := by simpa using hbw
          rw [this] at hk
          simp only [cond_false] at hk
          obtain ⟨st', e3, r⟩ := skip (b := b) (want := want) (g := g) hk
          exact ⟨st', by simp only [zb0, zdf, hg, hv]; rw [if_neg hbw]; exact e3, r⟩
      · rename_i hf
        obtain ⟨cs', hv, hcs⟩ := (h.a g _ hf).tuple_inv
        cases hcs
        obtain ⟨st', e3, r⟩ := skip (b := true) (want := want) (g := g) hk
        exact ⟨st', by simp only [zb0, zdf, hg, hv]; exact e3, r⟩
      · exact hk.elim
theorem zgQ (h : Ag ρ L st.σ) {lean : Bool} : ∀ {r : List Nat}, zl4 lean L r = true → (r.all fun s => rootOk lean (st.σ s)) = true
  | [], _ => rfl
  | s :: r, hr => by
    unfold zl4 at hr
    cases hf : fnd L s with
    | none => simp only [hf] at hr; cases hr
    | some v =>
      simp only [hf, yae] at hr
      rw [List.all_cons, yae]
      exact ⟨(h s v hf).rootOk hr.1, zgQ h hr.2⟩
theorem zfd {t : TV} {v : V} (h : Den ρ t v) (hn : zjb t = true) : zg7 v = true := by
  cases h with
  | base h0 => cases h0 <;> first | rfl | cases hn
  | loc j o => cases hn
  | _ => rfl
theorem zhQ (h : Ag ρ L st.σ) : ∀ {r : List Nat}, zpe L r = true → (r.all fun s => zg7 (st.σ s)) = true
  | [], _ => rfl
  | s :: r, hr => by
    unfold zpe at hr
    cases hf : fnd L s with
    | none => simp only [hf] at hr; cases hr
    | some v =>
      simp only [hf, yae] at hr
      rw [List.all_cons, yae]
      exact ⟨zfd (h s v hf) hr.1, zhQ h hr.2⟩
theorem zko {j : Nat} {t : TV} {v : V} (h : Den ρ t v) (hr : zn1 j t = true) : zkP j v = true := by
  cases t with
  | loc i o => rw [h.loc_inv]; exact hr
  | _ => cases hr
theorem zkp {j : Nat} (h : Ag ρ L st.σ) : ∀ {r : List Nat}, faW j L r = true → (r.all fun s => zkP j (st.σ s)) = true
  | [], _ => rfl
  | s :: r, hr => by
    unfold faW at hr
    cases hf : fnd L s with
    | none => simp only [hf] at hr; cases hr
    | some v =>
      simp only [hf, yae] at hr
      rw [List.all_cons, yae]
      exact ⟨zko (h s v hf) hr.1, zkp h hr.2⟩
theorem zod {o : AOper} {t : TV} {v : V} (h : Den ρ t v) (hr : zn2 o t = true) : zfi o v = true := by
  simp only [zn2, yae] at hr
  obtain ⟨h1, h2⟩ := hr
  simp only [zfi, yae]
  refine ⟨h.rootOk h1, ?_⟩
  cases hm : o.mark with
  | none => rfl
  | quiet =>
    rw [hm] at h2
    simp only [yae] at h2
    simp only [yae]
    refine ⟨zfd h h2.1, ?_⟩
    cases h with
    | base h0 => cases h0 <;> first | rfl | cases h2.1
    | place _ => exact absurd h2.2 (by simp)
    | el _ _ _ _ => exact absurd h2.2 (by simp)
    | _ => rfl
  | mem =>
    rw [hm] at h2
    simp only [yae] at h2
    simp only [yae]
    refine ⟨zfd h h2.1, ?_⟩
    cases h with
    | base h0 => cases h0 <;> first | rfl | cases h2.1
    | place _ => exact absurd h2.2 (by simp)
    | el _ _ _ _ => exact absurd h2.2 (by simp)
    | _ => rfl
  | fa j => rw [hm] at h2; exact zko h h2
  | _ => rw [hm] at h2; exact zfd h h2
theorem zkq {ts : List Nat} {st : St} : (clears ts st).m = st.m ∧ (clears ts st).l = st.l := ⟨zcw, zcN⟩
theorem zoe {st st' : St} {x : Opd} {v : V} (h : getO st x = some (v, st')) : st'.m = st.m ∧ st'.l = st.l := by
  rw [zbD h]; exact zkq
theorem zkr {st st' : St} {sz s : Nat} {y : Opd} {v : V} (hs : st.σ s = .nils ∨ ∃ o z xs, st.σ s = .slice o z xs) (he : evalOp cf st (.append sz (.u s .take) y) = some (v, st')) : st'.m = st.m ∧ st'.l = st.l := by
  simp only [evalOp, yab] at he
  obtain ⟨p, hp, q, hq, ys, hys, he⟩ := he
  obtain ⟨pv, p2⟩ := p
  obtain ⟨qv, q2⟩ := q
  have hpv : pv = st.σ s := by
    simp only [getO, yaa, yac] at hp
    exact hp.1.symm
  have e1 := zoe hp
  have e2 := zoe hq
  have e3 : q2.m = st.m ∧ q2.l = st.l := ⟨e2.1.trans e1.1, e2.2.trans e1.2⟩
  simp only at he
  subst hpv
  rcases hs with hs | ⟨o, z, xs, hs⟩
  · rw [hs] at he
    simp only at he
    split at he
    · cases he; exact e3
    · split at he
      · cases he; exact e3
      · cases he
  · rw [hs] at he
    cases o with
    | true =>
      simp only at he
      split at he
      · cases he; exact e3
      · cases he
    | false => cases he
theorem zpg {st st' : St} {f : Nat} {args : List Opd} {v : V} (he : evalOp cf st (.callP f args) = some (v, st')) : st'.m = st.m ∧ st'.l = st.l := by
  simp only [evalOp, yab] at he
  obtain ⟨p, hp, he⟩ := he
  have e1 : p.2.m = st.m ∧ p.2.l = st.l := by rw [zbO hp]; exact zkq
  split at he
  · simp only [yab] at he
    obtain ⟨q, _, he⟩ := he
    split at he
    · cases he; exact e1
    · cases he
  · cases he
theorem zks (h : Ag ρ L st.σ) {op : AOp} {v : V} {st' : St} {k : Prop} (he : evalOp cf st op = some (v, st')) (hk : zn3 op L k) : (st'.m = st.m ∧ st'.l = st.l) ∧ k := by
  unfold zn3 at hk
  split at hk
  · exact ⟨zpg he, hk⟩
  · rename_i sz s y
    cases hf : fnd L s with
    | none => rw [hf] at hk; exact hk.elim
    | some t =>
      rw [hf] at hk
      have hd := h s t hf
      cases t with
      | sl o z xs =>
        refine ⟨zkr ?_ he, hk⟩
        rcases hd.sl_inv with ⟨ys, e, _⟩ | ⟨e, _⟩
        · exact .inr ⟨_, _, _, e⟩
        · exact .inl e
      | nils => exact ⟨zkr (.inl hd.nils_inv) he, hk⟩
      | _ => exact hk.elim
  · exact hk.elim
theorem zlA (h : Ag ρ L st.σ) {o : AOper} {v : V} {st' : St} {k : Prop} (he : evalOp cf st o.op = some (v, st')) (hl : o.op.isCall = true → st'.l = st.l ∧ (zn0 o.mark = true → st'.m = st.m)) (hk : zp0 o L k) : zbu o st st' = true ∧ k := by
  unfold zp0 at hk
  unfold zbu
  have ptr : ∀ mk, (match o.op.ptr? with
      | none => k
      | some p => rdC L p fun v => match v with
        | .loc i _ => bif mk == Mark.loc i then k else False
        | .ptr _ _ => bif mk == Mark.mem then k else False
        | .ro _ _ => bif mk == Mark.free then k else False
        | _ => False) → (match o.op.ptr? with
      | none => true
      | some p => match getC st p with
        | some (.loc i _) => mk == .loc i
        | some (.ptr _ _) => mk == .mem
        | some (.ro _ _) => mk == .free
        | _ => false) = true ∧ k := fun mk hk => by
    cases hp : o.op.ptr? with
    | none => rw [hp] at hk; exact ⟨rfl, hk⟩
    | some p =>
      rw [hp] at hk
      obtain ⟨v, t, e, hd, hk⟩ := zas h hk
      simp only [e]
      cases t with
      | loc i o => rw [hd.loc_inv]; exact bifT hk
      | ptr i o => obtain ⟨b, rfl, _⟩ := hd.ptr_inv; exact bifT hk
      | ro i o => obtain ⟨b, rfl, _⟩ := hd.ro_inv; exact bifT hk
      | _ => exact hk.elim
  cases hm : o.mark with
  | none => rw [hm] at hk; exact ⟨rfl, hk⟩
  | cool =>
    rw [hm] at hk
    simp only at hk ⊢
    cases hp : o.op.ptr? with
    | some p => rw [hp] at hk; exact hk.elim
    | none =>
      rw [hp] at hk
      obtain ⟨h1, h2⟩ := bifT hk
      exact ⟨zhQ h h1, h2⟩
  | fa j =>
    rw [hm] at hk
    obtain ⟨h1, h2⟩ := bifT hk
    exact ⟨zkp h h1, h2⟩
  | quiet =>
    rw [hm] at hk
    have hp : (st'.m = st.m ∧ st'.l = st.l) ∧ k := by
      cases hc : o.op.isCall with
      | true =>
        simp only [hc, cond_true] at hk
        obtain ⟨h1, h2⟩ := hl hc
        exact ⟨⟨h2 (by rw [hm]; rfl), h1⟩, hk⟩
      | false =>
        simp only [hc, cond_false] at hk
        exact zks h he hk
    exact ⟨by simp only [hp.1, and_self, decide_true], hp.2⟩
  | loc j => rw [hm] at hk; exact ptr _ hk
  | mem => rw [hm] at hk; exact ptr _ hk
  | free => rw [hm] at hk; exact ptr _ hk
theorem zm2 {o : AOper} (h : zlu o.op = true) : o.lean = false := by
  cases ho : o.op <;> rw [ho] at h <;> first | (cases h; done) | skip
  unfold AOper.lean
  rw [ho]
  simp [AOp.pure, AOp.still, AOp.builds]
theorem zof {o : AOper} (h : zlu o.op = true) {v : V} {st st' : St} (he : evalOp cf st o.op = some (v, st')) : v = .undef := by
  cases ho : o.op <;> rw [ho] at h he <;> first | (cases h; done) | skip
  simp only [evalOp, yab] at he
  obtain ⟨_, _, _, _, he⟩ := he
  split at he
  · simp only [yab, yaa, yac] at he
    obtain ⟨_, _, he, _⟩ := he
    exact he.symm
  · cases he
theorem zog (h : Rel ρ L B M st) {o : AOper} {k : Ts → Bs → Ms → Prop} (hk : doD cf o L B M k) : ∃ st', zay cf o st = some st' ∧ ∃ ρ' L' B' M', Rel ρ' L' B' M' st' ∧ Fr ρ st.m ρ' st'.m ∧ k L' B' M' := by
  unfold doD at hk
  by_cases hT : o.op.isT = true
  · rw [hT] at hk
    obtain ⟨v, st1, e, hl, ρ1, t, L1, B1, M1, hd, h1, hf1, hk⟩ := zgq h hk
    obtain ⟨σ', e2, L2, h2, hk⟩ := zgr (l := st1.l) (m := st1.m) h1.a hd hk
    refine ⟨⟨σ', st1.l, st1.m⟩, ?_, ρ1, L2, B1, M1, ⟨h2, h1.b, h1.m⟩, hf1, hk⟩
    unfold zay
    rw [hT, if_pos rfl, e]
    exact e2
  have hT : o.op.isT = false := by simpa using hT
  rw [hT] at hk
  obtain ⟨hr, hk⟩ := bifT hk
  obtain ⟨v, st1, e, hl, ρ1, t, L1, B1, M1, hd, h1, hf1, hk⟩ := zgq h hk
  obtain ⟨hro, hk⟩ := bifT hk
  obtain ⟨hm, hk⟩ := zlA h.a e hl hk
  obtain ⟨σ', e2, L2, h2, hk⟩ := zgr (l := st1.l) (m := st1.m) h1.a hd hk
  refine ⟨⟨σ', st1.l, st1.m⟩, ?_, ρ1, L2, B1, M1, ⟨h2, h1.b, h1.m⟩, hf1, hk⟩
  have hro2 : zfi o v = true := by
    rw [Bool.or_eq_true] at hro
    rcases hro with hro | hro
    · unfold zpz at hro
      rw [yae] at hro
      obtain ⟨hro, hfa⟩ := hro
      have h1 := zm2 hro
      rw [zof hro e]
      unfold zfi
      rw [h1]
      cases hmk : o.mark with
      | fa _ => rw [hmk] at hfa; cases hfa
      | _ => rfl
    · exact zod hd hro
  unfold zay
  rw [hT]
  simp only [yas, if_false]
  rw [if_pos (zgQ h.a hr), e]
  simp only [Option.bind_some, putD, hro2, hm, Bool.and_self, if_true]
  exact e2
theorem zhR : ∀ {os : List AOper} {ρ : List Nat} {L : Ts} {B : Bs} {M : Ms} {st : St} {k : Ts → Bs → Ms → Prop} (_ : Rel ρ L B M st) (_ : wpD cf os L B M k),
    ∃ st', runD cf os st = some st' ∧ ∃ ρ' L' B' M', Rel ρ' L' B' M' st' ∧ Fr ρ st.m ρ' st'.m ∧ k L' B' M'
  | [], ρ, L, B, M, st, k, h, hk => ⟨st, rfl, ρ, L, B, M, h, .refl _ _, hk⟩
  | o :: os, ρ, L, B, M, st, k, h, hk => by
    have doit : (doD cf o L B M fun L2 B1 m1 => wpD cf os L2 B1 m1 k) → ∃ st1, zay cf o st = some st1 ∧ ∃ st', runD cf os st1 = some st' ∧ ∃ ρ' L' B' M', Rel ρ' L' B' M' st' ∧ Fr ρ st.m ρ' st'.m ∧ k L' B' M' := fun hk => by
      obtain ⟨st1, e, ρ1, L1, B1, M1, h1, hf1, hk⟩ := zog h hk
      obtain ⟨st', e3, ρ', L', B', M', h3, hf3, hk⟩ := zhR h1 hk
      exact ⟨_, e, st', e3, ρ', L', B', M', h3, hf1.trans hf3, hk⟩
    have skip : ∀ {b want : Bool} {g : Nat}, (zkh o L fun L2 => wpD cf os L2 B M k) → ∃ st', runD cf os (st.put o.kt o.dst (.tuple [])) = some st' ∧ ∃ ρ' L' B' M', Rel ρ' L' B' M' st' ∧ Fr ρ st.m ρ' st'.m ∧ k L' B' M' := fun {b want g} hk => by
      obtain ⟨σ', e2, L2, h2, hk⟩ := zhP (l := st.l) (m := st.m) h.a hk
      obtain ⟨st', e3, r⟩ := zhR (st := ⟨σ', st.l, st.m⟩) ⟨h2, h.b, h.m⟩ hk
      exact ⟨st', by rw [e2]; exact e3, r⟩
    unfold wpD at hk
    cases hg : o.guard with
    | none =>
      rw [hg] at hk
      obtain ⟨st1, e, st', e2, r⟩ := doit hk
      exact ⟨st', by simp only [runD, zdn, hg, e, Option.bind_some, e2], r⟩
    | some q =>
      obtain ⟨g, want⟩ := q
      rw [hg] at hk
      simp only at hk
      split at hk
      · rename_i b hf
        have hv := (h.a g _ hf).bool_inv
        by_cases hbw : b = want
        · subst hbw
          simp only [beq_self_eq_true, cond_true] at hk
          obtain ⟨st1, e, st', e2, r⟩ := doit hk
          exact ⟨st', by simp only [runD, zdn, hg, hv, if_true, e, Option.bind_some, e2], r⟩
        · have : (b == want) = false := by simpa using hbw
          rw [this] at hk
          simp only [cond_false] at hk
          obtain ⟨st', e3, r⟩ := skip (b := b) (want := want) (g := g) hk
          exact ⟨st', by simp only [runD, zdn, hg, hv]; rw [if_neg hbw]; exact e3, r⟩
      · rename_i hf
        obtain ⟨cs', hv, hcs⟩ := (h.a g _ hf).tuple_inv
        cases hcs
        obtain ⟨st', e3, r⟩ := skip (b := true) (want := want) (g := g) hk
        exact ⟨st', by simp only [runD, zdn, hg, hv]; exact e3, r⟩
      · exact hk.elim
theorem zad {os : List AOper} {K : Ts → Bs → Ms → Prop} (h : wpOps cf os L B M K) : WPO false cf os L B M K := ⟨fun _ _ hr => zfB hr h⟩
theorem zdI {os : List AOper} {K : Ts → Bs → Ms → Prop} (h : wpD cf os L B M K) : WPO true cf os L B M K := ⟨fun _ _ hr => zhR hr h⟩
theorem zcb {σ : Nat → V} (h : Ag ρ L σ) : ∀ {r : List Nat} {k : Ts → Prop}, zcq L r k → ∃ L', Ag ρ L' σ ∧ (∀ s v, fnd L' s = some v → s ∈ r) ∧ k L'
  | [], k, hk => ⟨[], fun s v hv => (nomatch hv), fun s v hv => (nomatch hv), hk⟩
  | s :: r, k, hk => by
    unfold zcq at hk
    cases hs : fnd L s with
    | none =>
      rw [hs] at hk
      obtain ⟨L', h1, h2, h3⟩ := zcb h hk
      exact ⟨L', h1, fun t v hv => .tail _ (h2 t v hv), h3⟩
    | some v =>
      rw [hs] at hk
      obtain ⟨L', h1, h2, h3⟩ := zcb h (k := fun r' => k ((s, v) :: r')) hk
      refine ⟨_, fun t x hx => ?_, fun t x hx => ?_, h3⟩
      · rw [zcO] at hx
        split at hx
        · rename_i e; subst e; cases hx; exact h _ _ hs
        · exact h1 t x hx
      · rw [zcO] at hx
        split at hx
        · rename_i e; subst e; exact .head _
        · exact .tail _ (h2 t x hx)
theorem zb7 {l : Nat → List V} (h : AgB ρ B l) : ∀ {r : List Nat} {k : Bs → Prop}, zcq B r k → ∃ B', AgB ρ B' l ∧ k B'
  | [], k, hk => ⟨[], fun s v hv => (nomatch hv), hk⟩
  | s :: r, k, hk => by
    unfold zcq at hk
    cases hs : fnd B s with
    | none => rw [hs] at hk; exact zb7 h hk
    | some v =>
      rw [hs] at hk
      obtain ⟨L', h1, h3⟩ := zb7 h (k := fun r' => k ((s, v) :: r')) hk
      refine ⟨_, fun t x hx => ?_, h3⟩
      rw [zcO] at hx
      split at hx
      · rename_i e; subst e; cases hx; exact h _ _ hs
      · exact h1 t x hx
theorem zeu : ∀ {a b : List AOper} {st : St}, zb0 cf (a ++ b) st = (zb0 cf a st).bind (zb0 cf b)
  | [], b, st => rfl
  | o :: a, b, st => by
    show (zdf cf o st).bind (zb0 cf (a ++ b)) = ((zdf cf o st).bind (zb0 cf a)).bind (zb0 cf b)
    rw [Option.bind_assoc]
    congr 1
    funext st1
    exact zeu
theorem zfC : ∀ {a b : List AOper} {st : St}, runD cf (a ++ b) st = (runD cf a st).bind (runD cf b)
  | [], b, st => rfl
  | o :: a, b, st => by
    show (zdn cf o st).bind (runD cf (a ++ b)) = ((zdn cf o st).bind (runD cf a)).bind (runD cf b)
    rw [Option.bind_assoc]
    congr 1
    funext st1
    exact zfC
def zkt {α : Type} (L : List (Nat × α)) : List Nat → List (Nat × α)
  | [] => []
  | s :: r => match fnd L s with
    | some v => (s, v) :: zkt L r
    | none => zkt L r
theorem zgs {α : Type} {L : List (Nat × α)} : ∀ {r : List Nat} {k : List (Nat × α) → Prop}, zcq L r k ↔ k (zkt L r)
  | [], k => Iff.rfl
  | s :: r, k => by
    unfold zcq zkt
    cases fnd L s with
    | none => exact zgs
    | some v => exact zgs (k := fun r' => k ((s, v) :: r'))
theorem zaB {d : Bool} {os : List AOper} {K : Ts → Bs → Ms → Prop} (n s : Nat) (lv : List Nat) (y : Bool)
    (h : WPO d cf (os.take n) L B M fun L1 B1 M1 => zcq L1 lv fun L' => L' = zkt ((s, .bool y) :: L) lv ∧ B1 = B ∧ M1 = M)
    (g : zcq ((s, .bool y) :: L) lv fun L2 => WPO d cf (os.drop n) L2 B M K) : WPO d cf os L B M K := by
  refine ⟨fun ρ st hr => ?_⟩
  obtain ⟨st1, e1, ρ1, L1, B1, M1, h1, hf1, hk⟩ := h.go ρ st hr
  obtain ⟨L', h2, _, rfl, rfl, rfl⟩ := zcb h1.a hk
  obtain ⟨st2, e2, ρ2, L3, B3, M3, h4, hf2, hk⟩ := (zgs.1 g).go ρ1 st1 ⟨h2, h1.b, h1.m⟩
  refine ⟨st2, ?_, ρ2, L3, B3, M3, h4, hf1.trans hf2, hk⟩
  rw [← List.take_append_drop n os]
  cases d with
  | false => simp only [yas, if_false] at e1 e2 ⊢; rw [zeu, e1]; exact e2
  | true => simp only [if_true] at e1 e2 ⊢; rw [zfC, e1]; exact e2
variable {Q : Ex → Ts → Bs → Ms → Prop}
theorem zac {d : Bool} {os : List AOper} (lv lb : List Nat) (h : WPO d cf os L B M fun L1 B1 M1 => zcq L1 lv fun L2 => zcq B1 lb fun B2 => Q .normal L2 B2 M1) : WP cf (.region d os) L B M Q := by
  refine ⟨fun ρ st hr => ?_⟩
  obtain ⟨st1, e1, ρ1, L1, B1, M1, h1, hf1, hk⟩ := h.go ρ st hr
  obtain ⟨L', h2, _, hk⟩ := zcb h1.a hk
  obtain ⟨B', h3, hk⟩ := zb7 h1.b hk
  refine ⟨.normal, st1, ?_, ρ1, L', B', M1, ⟨h2, h3, h1.m⟩, hf1, hk⟩
  cases d with
  | false => simp only [yas, if_false] at e1; simp only [exec, e1, Option.bind_some]
  | true => simp only [if_true] at e1; simp only [exec, e1, Option.bind_some]
theorem zai (h : Q .normal L B M) : WP cf .skip L B M Q := ⟨fun ρ st hr => ⟨_, st, rfl, ρ, L, B, M, hr, .refl _ _, h⟩⟩
theorem zap (h : Q .ret L B M) : WP cf .ret L B M Q := ⟨fun ρ st hr => ⟨_, st, rfl, ρ, L, B, M, hr, .refl _ _, h⟩⟩
theorem zaR {i : Nat} (h : Q (.exit i) L B M) : WP cf (.exit i) L B M Q := ⟨fun ρ st hr => ⟨_, st, rfl, ρ, L, B, M, hr, .refl _ _, h⟩⟩
theorem zaa {a b : ACode} (h : WP cf a L B M fun e L1 B1 M1 => match e with
    | .normal => WP cf b L1 B1 M1 Q
    | .exit i => Q (.exit i) L1 B1 M1
    | .ret => Q .ret L1 B1 M1) : WP cf (.seq a b) L B M Q := by
  refine ⟨fun ρ st hr => ?_⟩
  obtain ⟨e, st1, h1, ρ1, L1, B1, M1, h2, hf, hk⟩ := h.go ρ st hr
  cases e with
  | normal =>
    obtain ⟨e, st2, h4, ρ2, L2, B2, M2, h5, hf2, hk⟩ := hk.go ρ1 st1 h2
    exact ⟨e, st2, by simp only [exec, h1, Option.bind_some, h4], ρ2, L2, B2, M2, h5, hf.trans hf2, hk⟩
  | exit i => exact ⟨_, st1, by simp only [exec, h1, Option.bind_some], ρ1, L1, B1, M1, h2, hf, hk⟩
  | ret => exact ⟨_, st1, by simp only [exec, h1, Option.bind_some], ρ1, L1, B1, M1, h2, hf, hk⟩
theorem zag {s : Nat} {t e : ACode} {b : Bool} (hs : fnd L s = some (.bool b)) (ht : b = true → WP cf t L B M Q) (he : b = false → WP cf e L B M Q) : WP cf (.cond (.t s) t e) L B M Q := by
  refine ⟨fun ρ st hr => ?_⟩
  have hv := (hr.a s _ hs).bool_inv
  cases b with
  | true =>
    obtain ⟨e1, st1, h1, r⟩ := (ht rfl).go ρ st hr
    exact ⟨e1, st1, by simp only [exec, getC, hv, V.hasOwn, V.own1, V.own0]; exact h1, r⟩
  | false =>
    obtain ⟨e1, st1, h1, r⟩ := (he rfl).go ρ st hr
    exact ⟨e1, st1, by simp only [exec, getC, hv, V.hasOwn, V.own1, V.own0]; exact h1, r⟩
theorem zah {i : Nat} {b : ACode} (h : WP cf b L B M fun e L1 B1 M1 => match e with
    | .normal => Q .normal L1 B1 M1
    | .exit j => bif Nat.beq j i then Q .normal L1 B1 M1 else Q (.exit j) L1 B1 M1
    | .ret => Q .ret L1 B1 M1) : WP cf (.block i b) L B M Q := by
  refine ⟨fun ρ st hr => ?_⟩
  obtain ⟨e, st1, h1, ρ1, L1, B1, M1, h2, hf, hk⟩ := h.go ρ st hr
  cases e with
  | normal => exact ⟨.normal, st1, by simp only [exec, h1, Option.bind_some], ρ1, L1, B1, M1, h2, hf, hk⟩
  | exit j =>
    simp only at hk
    by_cases hj : j = i
    · subst hj
      have : Nat.beq j j = true := by simp
      rw [this] at hk
      exact ⟨.normal, st1, by simp only [exec, h1, Option.bind_some, if_true], ρ1, L1, B1, M1, h2, hf, hk⟩
    · have : Nat.beq j i = false := by
        cases hb : Nat.beq j i with
        | false => rfl
        | true => exact absurd (yap hb) hj
      rw [this] at hk
      exact ⟨.exit j, st1, by simp only [exec, h1, Option.bind_some]; rw [if_neg hj], ρ1, L1, B1, M1, h2, hf, hk⟩
  | ret => exact ⟨.ret, st1, by simp only [exec, h1, Option.bind_some], ρ1, L1, B1, M1, h2, hf, hk⟩
theorem za7 {R : Type} {c : ACode} (r : R) (X : R → Ex × Ts × Bs × Ms) (lv lb : Ex → List Nat)
    (h : WP cf c L B M fun e L1 B1 M1 => zcq L1 (lv e) fun L2 => zcq B1 (lb e) fun B2 => X r = (e, L2, B2, M1)) (g : Q (X r).1 (X r).2.1 (X r).2.2.1 (X r).2.2.2) : WP cf c L B M Q := by
  refine ⟨fun ρ st hr => ?_⟩
  obtain ⟨e, st1, h1, ρ1, L1, B1, M1, h2, hf, hk⟩ := h.go ρ st hr
  obtain ⟨L', h3, _, hk⟩ := zcb h2.a hk
  obtain ⟨B', h4, hk⟩ := zb7 h2.b hk
  rw [hk] at g
  exact ⟨e, st1, h1, ρ1, L', B', M1, ⟨h3, h4, h2.m⟩, hf, g⟩
end
section
variable {S R : Type}
def zfD (step : S → Option (S ⊕ R)) : Nat → S → Option R
  | 0, _ => none
  | n + 1, s => match step s with
    | none => none
    | some (.inl s') => zfD step n s'
    | some (.inr r) => some r
open Classical in
noncomputable def iter (step : S → Option (S ⊕ R)) (s : S) : Option R :=
  if h : ∃ n r, zfD step n s = some r then some h.choose_spec.choose else none
theorem ziL {step : S → Option (S ⊕ R)} : ∀ {n : Nat} {s : S} {r : R}, zfD step n s = some r → zfD step (n + 1) s = some r
  | 0, _, _, h => by cases h
  | n + 1, s, r, h => by
    simp only [zfD] at h
    rw [zfD]
    cases hs : step s with
    | none => rw [hs] at h; cases h
    | some x =>
      rw [hs] at h
      cases x with
      | inl s' => exact ziL h
      | inr r => exact h
theorem zma {step : S → Option (S ⊕ R)} {n m : Nat} (hm : n ≤ m) {s : S} {r : R} (h : zfD step n s = some r) : zfD step m s = some r := by
  induction m with
  | zero => have : n = 0 := by omega
            subst this; exact h
  | succ m ih =>
    by_cases e : n = m + 1
    · subst e; exact h
    · exact ziL (ih (by omega))
theorem zg3 {step : S → Option (S ⊕ R)} {s : S} {r : R} : iter step s = some r ↔ ∃ n, zfD step n s = some r := by
  unfold iter
  constructor
  · intro h
    split at h
    · rename_i hx
      have := hx.choose_spec.choose_spec
      simp only [yaa] at h
      rw [← h]
      exact ⟨_, this⟩
    · cases h
  · rintro ⟨n, h⟩
    have hx : ∃ n r, zfD step n s = some r := ⟨n, r, h⟩
    rw [dif_pos hx]
    have h1 := hx.choose_spec.choose_spec
    have h2 := zma (Nat.le_max_left hx.choose n) h1
    have h3 := zma (Nat.le_max_right hx.choose n) h
    rw [h2] at h3
    exact h3
theorem zaz {step : S → Option (S ⊕ R)} {s s' : S} (h : step s = some (.inl s')) : iter step s = iter step s' := by
  apply Option.ext
  intro r
  rw [zg3, zg3]
  constructor
  · rintro ⟨n, hn⟩
    cases n with
    | zero => cases hn
    | succ n => simp only [zfD, h] at hn; exact ⟨n, hn⟩
  · rintro ⟨n, hn⟩
    exact ⟨n + 1, by simp only [zfD, h]; exact hn⟩
theorem zau {step : S → Option (S ⊕ R)} {s : S} {r : R} (h : step s = some (.inr r)) : iter step s = some r :=
  zg3.2 ⟨1, by simp only [zfD, h]⟩
theorem zaS {cf : CF} {L : Ts} {B : Bs} {M : Ms} {Q : Ex → Ts → Bs → Ms → Prop} {live : List Nat} {b : ACode} {step : S → Option (S ⊕ R)} {s0 : S} {r0 : R} (h : iter step s0 = some r0)
    (lb : List Nat) (I : S → Ts × Bs × Ms) (lv lb2 : Ex → List Nat) (X : R → Ex × Ts × Bs × Ms)
    (h0 : zcq L live fun L0 => zcq B lb fun B0 => I s0 = (L0, B0, M))
    (hs : ∀ s x, step s = some x → WP cf b (I s).1 (I s).2.1 (I s).2.2 fun e L1 B1 M1 => match e with
      | .normal => zcq L1 live fun L2 => zcq B1 lb fun B2 => ∃ s', x = .inl s' ∧ I s' = (L2, B2, M1)
      | .exit i => zcq L1 (lv (.exit i)) fun L2 => zcq B1 (lb2 (.exit i)) fun B2 => ∃ r, x = .inr r ∧ X r = (.exit i, L2, B2, M1)
      | .ret => zcq L1 (lv .ret) fun L2 => zcq B1 (lb2 .ret) fun B2 => ∃ r, x = .inr r ∧ X r = (.ret, L2, B2, M1))
    (g : Q (X r0).1 (X r0).2.1 (X r0).2.2.1 (X r0).2.2.2) : WP cf (.loop live b) L B M Q := by
  have key : ∀ n s r, zfD step n s = some r → ∀ ρ st, (∀ t v, fnd (I s).1 t = some v → t ∈ live) → Rel ρ (I s).1 (I s).2.1 (I s).2.2 st →
      ∃ e st', exec cf (.loop live b) st = some (e, st') ∧ ∃ ρ' L' B' M', Rel ρ' L' B' M' st' ∧ Fr ρ st.m ρ' st'.m ∧ X r = (e, L', B', M') := by
    intro n
    induction n with
    | zero => intro s r hn; cases hn
    | succ n ih =>
      intro s r hn ρ st hlive hR
      have hL' : Ag ρ (I s).1 (keep live st.σ) := fun t v hv => by
        unfold keep
        rw [if_pos (hlive t v hv)]; exact hR.a t v hv
      simp only [zfD] at hn
      cases hst : step s with
      | none => rw [hst] at hn; cases hn
      | some x =>
        rw [hst] at hn
        obtain ⟨e, st1, h1, ρ1, L1, B1, M1, h2, hf, hk⟩ := (hs s x hst).go ρ { st with σ := keep live st.σ } ⟨hL', hR.b, hR.m⟩
        have hstep := zjE (round := fun st => exec cf b { st with σ := keep live st.σ }) (st := st)
        cases e with
        | normal =>
          obtain ⟨L2, h4, h5, hk⟩ := zcb h2.a hk
          obtain ⟨B2, h7, s', rfl, hI⟩ := zb7 h2.b hk
          simp only at hn
          obtain ⟨e, st2, h6, ρ2, L3, B3, M3, h8, hf2, hX⟩ := ih s' r hn ρ1 st1 (by rw [hI]; exact h5) (by rw [hI]; exact ⟨h4, h7, h2.m⟩)
          refine ⟨e, st2, ?_, ρ2, L3, B3, M3, h8, hf.trans hf2, hX⟩
          simp only [exec] at h6 ⊢
          rw [hstep, h1]
          exact h6
        | exit i =>
          obtain ⟨L2, h4, h5, hk⟩ := zcb h2.a hk
          obtain ⟨B2, h7, r', rfl, hI⟩ := zb7 h2.b hk
          simp only [yaa] at hn
          subst hn
          refine ⟨.exit i, st1, ?_, ρ1, L2, B2, M1, ⟨h4, h7, h2.m⟩, hf, hI⟩
          simp only [exec]
          rw [hstep, h1]; rfl
        | ret =>
          obtain ⟨L2, h4, h5, hk⟩ := zcb h2.a hk
          obtain ⟨B2, h7, r', rfl, hI⟩ := zb7 h2.b hk
          simp only [yaa] at hn
          subst hn
          refine ⟨.ret, st1, ?_, ρ1, L2, B2, M1, ⟨h4, h7, h2.m⟩, hf, hI⟩
          simp only [exec]
          rw [hstep, h1]; rfl
  refine ⟨fun ρ st hR => ?_⟩
  obtain ⟨n, hn⟩ := zg3.1 h
  obtain ⟨L0, h1, h2, hk⟩ := zcb hR.a h0
  obtain ⟨B0, h3, hI⟩ := zb7 hR.b hk
  obtain ⟨e, st', h4, ρ', L', B', M', h5, hf, hX⟩ := key n s0 r0 hn ρ st (by rw [hI]; exact h2) (by rw [hI]; exact ⟨h1, h3, hR.m⟩)
  rw [hX] at g
  exact ⟨e, st', h4, ρ', L', B', M', h5, hf, g⟩
end
def resW : List ARes → Ts → Bs → Ms → (List TV → Ms → Prop) → Prop
  | [], _, _, m, k => k [] m
  | .tmp s :: r, L, B, m, k => match fnd L s with
    | some v => resW r ((s, .undef) :: L) B m fun vs m' => k (v :: vs) m'
    | none => False
  | .cell s agg n :: r, L, B, m, k => match fnd L s with
    | some a => loadW agg n .take L B m a fun v B' m' => resW r L B' m' fun vs m'' => k (v :: vs) m''
    | none => False
def zoh : List TV → TV
  | [v] => v
  | vs => .tuple vs
def zoi : Nat → List TV → Ts
  | _, [] => []
  | i, v :: r => (i, v) :: zoi (i + 1) r
def TV.flat0 : TV → Bool
  | .bool _ | .int _ _ | .str _ | .nilp | .nils | .sl _ _ _ | .nilf | .nili | .err _ | .undef => true
  | .func _ cs => cs.isEmpty
  | _ => false
def TV.flat1 : TV → Bool
  | .agg cs => cs.all TV.flat0
  | v => v.flat0
def zqO (M : Ms) : Bool := M.all fun cs => cs.all TV.flat0
section
variable {ρ : List Nat} {cf : CF} {L : Ts} {B : Bs} {M : Ms} {st : St}
theorem zgt : ∀ {rs : List ARes} {ρ : List Nat} {L : Ts} {B : Bs} {M : Ms} {st : St} {k : List TV → Ms → Prop} (_ : Rel ρ L B M st) (_ : resW rs L B M k), ∃ vs st', zeH st rs = some (vs, st') ∧ ∃ ts M', Pw (Den ρ) ts vs ∧ Mg ρ M' st'.m ∧ Fr ρ st.m ρ st'.m ∧ k ts M'
  | [], ρ, L, B, M, st, k, h, hk => ⟨[], st, rfl, [], M, .nil, h.m, .refl _ _, hk⟩
  | .tmp s :: r, ρ, L, B, M, st, k, h, hk => by
    unfold resW at hk
    cases hs : fnd L s with
    | none => simp only [hs] at hk
    | some v =>
      simp only [hs] at hk
      obtain ⟨vs, st', e, ts, M', h1, h2, hf, hk⟩ := zgt (st := { st with σ := upd st.σ s .undef }) (h.sig (h.a.upd s (.undef' _))) hk
      exact ⟨st.σ s :: vs, st', by simp only [zeH, e, Option.bind_some], v :: ts, M', .cons (h.a s v hs) h1, h2, hf, hk⟩
  | .cell s agg n :: r, ρ, L, B, M, st, k, h, hk => by
    unfold resW at hk
    cases hs : fnd L s with
    | none => simp only [hs] at hk
    | some a =>
      simp only [hs] at hk
      obtain ⟨v, st1, e, t, B1, M1, hd, h1, hf1, hk⟩ := zhI h (h.a s a hs) hk
      obtain ⟨vs, st', e3, ts, M', h2, h3, hf2, hk⟩ := zgt h1 hk
      exact ⟨v :: vs, st', by simp only [zeH, e, Option.bind_some, e3], t :: ts, M', .cons hd h2, h3, hf1.trans hf2, hk⟩
theorem zku : ∀ {args : List TV} {args' : List V} (_ : Pw (Den ρ) args args') {i s : Nat} {t : TV}, fnd (zoi i args) s = some t → i ≤ s ∧ Den ρ t (args'.getD (s - i) .undef)
  | [], _, _, i, s, v, h => by cases h
  | x :: args, y :: args', .cons h1 h2, i, s, v, h => by
    unfold zoi at h
    rw [zcO] at h
    split at h
    · rename_i e; subst e; cases h; simpa using h1
    · obtain ⟨h3, h4⟩ := zku h2 h
      refine ⟨by omega, ?_⟩
      rw [show s - i = (s - (i + 1)) + 1 from by omega]
      simpa using h4
theorem Den.flat0 {t : TV} {v : V} (h : Den ρ t v) (hf : t.flat0 = true) : Den0 t v := by
  cases h with
  | base h => exact h
  | func f h =>
    cases h with
    | nil => exact .func f
    | cons _ _ => cases hf
  | _ => cases hf
theorem Den.low0' {t : TV} {v : V} (h : Den ρ t v) (hf : t.low0 = true) : Den0 t v := by
  cases h with
  | base h => exact h
  | func f h =>
    cases h with
    | nil => exact .func f
    | cons _ _ => cases hf
  | _ => cases hf
theorem Pw.all_imp {α β : Type} {R R' : α → β → Prop} {p : α → Bool} (hm : ∀ x y, R x y → p x = true → R' x y) {l : List α} {l' : List β} (h : Pw R l l') (ha : l.all p = true) : Pw R' l l' := by
  induction h with
  | nil => exact .nil
  | cons hr _ ih =>
    simp only [List.all_cons, yae] at ha
    exact .cons (hm _ _ hr ha.1) (ih ha.2)
theorem Den.flat1 {t : TV} {v : V} (h : Den ρ t v) (hf : t.flat1 = true) (ρ' : List Nat) : Den ρ' t v := by
  cases h with
  | agg h => exact .agg (Pw.all_imp (p := TV.flat0) (fun _ _ h hf => .base (h.flat0 hf)) h hf)
  | base h => exact .base h
  | func f h =>
    cases h with
    | nil => exact .func f .nil
    | cons _ _ => cases hf
  | _ => cases hf
theorem Den.lower1 {t : TV} {v : V} (h : Den ρ t v) (hf : t.low1 = true) (ρ' : List Nat) : Den ρ' t v := by
  cases h with
  | agg h => exact .agg (Pw.all_imp (p := TV.low0) (fun _ _ h hf => .base (h.low0' hf)) h hf)
  | base h => exact .base h
  | func f h =>
    cases h with
    | nil => exact .func f .nil
    | cons _ _ => cases hf
  | _ => cases hf
theorem Den.lower {t : TV} {v : V} (h : Den ρ t v) (hf : t.low2 = true) (ρ' : List Nat) : Den ρ' t v := by
  cases h with
  | tuple h => exact .tuple (Pw.all_imp (p := TV.low1) (fun _ _ h hf => h.lower1 hf ρ') h hf)
  | agg h => exact (Den.agg h).lower1 hf ρ'
  | base h => exact .base h
  | func f h =>
    cases h with
    | nil => exact .func f .nil
    | cons _ _ => cases hf
  | _ => cases hf
theorem zm3 {ts : List TV} {vs : List V} (h : Pw (Den ρ) ts vs) : Den ρ (zoh ts) (zhD vs) := by
  cases h with
  | nil => exact .tuple .nil
  | cons h t =>
    cases t with
    | nil => exact h
    | cons h2 t2 => exact .tuple (.cons h (.cons h2 t2))
theorem zqr {af : AFunc} {args : List TV} {K : List TV → Ms → Prop} (hl : Nat.beq args.length af.np = true)
    (h : WP cf af.body (zoi 0 args) [] M fun e L B M1 => match e with
      | .exit _ => False
      | _ => resW af.results L B M1 fun vs M2 => vs.all TV.ok1 = true ∧ K vs M2) {m : Am.Ms} {args' : List V} (hm : Mg ρ M m) (ha : Pw (Den ρ) args args') :
    ∃ vs m2 ρ' ts M2, runF cf af args' m = some (zhD vs, if (zhD vs).top2 ≤ m.length then m2.take m.length else m2) ∧ Pw (Den ρ') ts vs ∧ Mg ρ' M2 m2 ∧ Fr ρ m ρ' m2 ∧ K ts M2 := by
  obtain ⟨e, st, h1, ρ1, L, B, M1, hR, hf, hk⟩ := h.go ρ ⟨fun i => args'.getD i .undef, fun _ => [], m⟩ ⟨fun s v hv => by have := (zku ha hv).2; simpa using this, fun s v hv => (nomatch hv), hm⟩
  have hlen : args'.length = af.np := by rw [← ha.length]; exact yap hl
  have fin : (resW af.results L B M1 fun vs M2 => vs.all TV.ok1 = true ∧ K vs M2) → (e = .normal ∨ e = .ret) → ∃ vs m2 ρ' ts M2, runF cf af args' m = some (zhD vs, if (zhD vs).top2 ≤ m.length then m2.take m.length else m2) ∧ Pw (Den ρ') ts vs ∧ Mg ρ' M2 m2 ∧ Fr ρ m ρ' m2 ∧ K ts M2 := fun hk he => by
    obtain ⟨vs, st', e2, ts, M2, h2, h3, hf2, ho, hK⟩ := zgt hR hk
    have hf3 := hf.trans hf2
    refine ⟨vs, st'.m, ρ1, ts, M2, ?_, h2, h3, hf3, hK⟩
    have er : zij st af.results = some (zhD vs, st') := by
      unfold zij
      rw [e2]
      simp only [Option.bind_some]
      rw [if_pos (Pw.all (p := TV.ok1) (q := V.ok1) (fun _ _ h ho => Den.ok1 h ho) h2 ho)]
      match vs with
      | [] => rfl
      | [v] => rfl
      | v :: w :: r => rfl
    unfold runF
    rw [if_pos hlen, h1]
    rcases he with rfl | rfl
    · simp only [Option.bind_some, er]; rw [if_pos hf3.2.1]
    · simp only [Option.bind_some, er]; rw [if_pos hf3.2.1]
  cases e with
  | normal => exact fin hk (.inl rfl)
  | ret => exact fin hk (.inr rfl)
  | exit i => exact hk.elim
theorem Fr.take {m m2 : Am.Ms} {e : List Nat} (h : Fr ρ m (ρ ++ e) m2) : Fr ρ m ρ (m2.take m.length) ∧ (m2.take m.length).length = m.length := by
  obtain ⟨_, h2, h3⟩ := h
  have hl : (m2.take m.length).length = m.length := by rw [List.length_take]; omega
  exact ⟨⟨⟨[], by simp, by simp⟩, by omega, fun c hc hn => by rw [List.getElem?_take, if_pos hc]; exact h3 c hc hn⟩, hl⟩
theorem Mg.take {m m2 : Am.Ms} {e : List Nat} {M2 : Ms} (h0 : Mg ρ M m) (h : Mg (ρ ++ e) M2 m2) (hd : ∀ (i b : Nat) (cs : List TV) (cs' : List V), ρ[i]? = some b → M2[i]? = some cs → Pw (Den (ρ ++ e)) cs cs' → Pw (Den ρ) cs cs') : Mg ρ (M2.take M.length) (m2.take m.length) := by
  have hl := h.2.1
  have hl0 := h0.2.1
  rw [yar] at hl
  refine ⟨h0.1, by rw [List.length_take]; omega, fun i b hi => ?_⟩
  obtain ⟨cs, cs', h1, h2, h3⟩ := h.2.2 i b (by rw [yaq (zax hi)]; exact hi)
  have hlt := zax hi
  refine ⟨cs, cs', ?_, ?_, hd i b cs cs' hi h1 h3⟩
  · rw [List.getElem?_take, if_pos (by omega)]; exact h1
  · rw [List.getElem?_take, if_pos (h0.lt (List.mem_of_getElem? hi))]; exact h2
theorem zaF {T : Table} {f : Nat} {af : AFunc} (hf : T.code f = some af) {args : List TV} {r : TV} {M' : Ms} (hl : Nat.beq args.length af.np = true)
    (h : WP (RF T) af.body (zoi 0 args) [] M fun e L B M1 => match e with
      | .exit _ => False
      | _ => resW af.results L B M1 fun vs M2 => vs.all TV.ok1 = true ∧ zoh vs = r ∧ r.low2 = true ∧ M2.take M.length = M' ∧ zqO M' = true) : zak false (RF T) f args M r M' := by
  intro ρ m args' hm ha
  obtain ⟨vs, m2, ρ', ts, M2, h1, h2, h3, hfr, rfl, hr, rfl, hfl⟩ := zqr hl h hm ha
  obtain ⟨e, rfl, _⟩ := hfr.1
  have hd := (zm3 h2).lower hr ρ
  have ht : (zhD vs).top2 = 0 := hd.low2 hr
  rw [if_pos (by omega)] at h1
  obtain ⟨hf1, hf2⟩ := hfr.take
  refine ⟨_, _, ρ, zqL hf h1, hd, hm.take h3 fun i b cs cs' hi hM hp => ?_, hf1, fun _ => hf2, fun hh => by cases hh⟩
  have hlt : i < M.length := by rw [← hm.2.1]; exact zax hi
  have hmem : cs ∈ M2.take M.length := List.mem_of_getElem? (i := i) (by rw [List.getElem?_take, if_pos hlt]; exact hM)
  have := yam.1 hfl cs hmem
  exact Pw.all_imp (p := TV.flat0) (fun _ _ h hf => .base (h.flat0 hf)) hp this
end
section
variable {cf : CF} {f : Nat} {args : List TV} {r : TV}
theorem zak.quiet (h : zak false cf f args [] r []) (hr : r.low2 = true) : zak true cf f args [] r [] := by
  intro ρ m args' hm ha
  obtain ⟨r', m', ρ', h1, h2, h3, h4, h5, _⟩ := h ρ m args' hm ha
  refine ⟨r', m', ρ', h1, h2, h3, h4, h5, fun _ => ?_⟩
  have hρ : ρ = [] := List.length_eq_zero_iff.1 hm.2.1
  subst hρ
  refine List.ext_getElem? fun i => ?_
  by_cases hi : i < m.length
  · exact h4.2.2 i hi (by simp)
  · rw [List.getElem?_eq_none (by rw [h5 hr]; omega), List.getElem?_eq_none (by omega)]
theorem zak.any {q : Bool} (h : zak true cf f args [] r []) (hr : r.low2 = true) (M : Ms) (ha : args.all TV.flat1 = true) : zak q cf f args M r M := by
  intro ρ m args' hm hd
  obtain ⟨r', m', ρ', h1, h2, _, _, _, h6⟩ := h [] m args' ⟨List.nodup_nil, rfl, fun i b hi => by simp at hi⟩ (Pw.all_imp (p := TV.flat1) (fun _ _ h hf => h.flat1 hf []) hd ha)
  have := h6 rfl
  subst this
  exact ⟨r', m', ρ, h1, h2.lower hr ρ, hm, .refl _ _, fun _ => rfl, fun _ => rfl⟩
def renT (π : List Nat) : TV → TV
  | .ptr i o => .ptr (π.getD i 0) o
  | t => t
def TV.argP : TV → Bool
  | .ptr j _ => Nat.beq j 0
  | t => t.flat1
theorem zak.sub {q : Bool} {i : Nat} {c c' : List TV} (h : zak q cf f args [c] r [c']) (hr : r.low2 = true) (M : Ms) (hi : M[i]? = some c) (ha : args.all TV.argP = true) (hc : c.all TV.flat0 = true) (hc' : c'.all TV.flat0 = true) : zak q cf f (args.map (renT [i])) M r (M.set i c') := by
  intro ρ m args' hm hd
  obtain ⟨b, cs', hb, hcs, hpw⟩ := hm.has hi
  have hm0 : Mg [b] [c] m := ⟨by simp, rfl, fun j d hj => by
    match j, hj with
    | 0, hj =>
      simp only [List.getElem?_cons_zero, yaa] at hj
      subst hj
      exact ⟨c, cs', rfl, hcs, Pw.all_imp (p := TV.flat0) (fun _ _ h hf => .base (h.flat0 hf)) hpw hc⟩
    | j + 1, hj => simp at hj⟩
  have hargs : Pw (Den [b]) args args' := by
    clear h
    induction args generalizing args' with
    | nil => cases hd; exact .nil
    | cons t ts ih =>
      rw [List.map_cons] at hd
      simp only [List.all_cons, yae] at ha
      cases hd with
      | cons hd1 hd2 =>
        refine .cons ?_ (ih ha.2 _ hd2)
        have flat : ∀ {t : TV} {v : V}, Den ρ t v → t.flat1 = true → Den [b] t v := fun h hf => h.flat1 hf _
        cases t with
        | ptr j o =>
          have hj : j = 0 := yap ha.1
          subst hj
          obtain ⟨b2, rfl, hb2⟩ := Den.ptr_inv (show Den ρ (.ptr i o) _ from hd1)
          rw [hb] at hb2
          cases hb2
          exact .ptr o rfl
        | _ => exact flat hd1 ha.1
  obtain ⟨r', m', ρ', h1, h2, h3, h4, h5, h6⟩ := h [b] m args' hm0 hargs
  obtain ⟨⟨e, rfl, heb⟩, h7, h8⟩ := h4
  have he : e = [] := by
    have := h3.2.1
    simp only [yar, List.length_cons, List.length_nil] at this
    exact List.length_eq_zero_iff.1 (by omega)
  subst he
  obtain ⟨d, d', g1, g2, g3⟩ := h3.2.2 0 b rfl
  simp only [List.getElem?_cons_zero, yaa] at g1
  subst g1
  refine ⟨r', m', ρ, h1, h2.lower hr ρ, ⟨hm.1, by rw [List.length_set]; exact hm.2.1, fun j x hj => ?_⟩, ⟨⟨[], by simp, by simp⟩, h7, fun x hx hn => h8 x hx (fun hh => hn ?_)⟩, h5, h6⟩
  · obtain ⟨y, y', k1, k2, k3⟩ := hm.2.2 j x hj
    by_cases hij : i = j
    · subst hij
      rw [hb] at hj; cases hj
      exact ⟨_, d', List.getElem?_set_self (zax k1), g2, Pw.all_imp (p := TV.flat0) (fun _ _ h hf => .base (h.flat0 hf)) g3 hc'⟩
    · have hne : x ∉ [b] := fun hh => by
        rw [yao.1 hh] at hj
        exact hij (zki hm.1 hb hj)
      exact ⟨y, y', by rw [List.getElem?_set_ne hij]; exact k1, by rw [h8 x (zax k2) hne]; exact k2, k3⟩
  · rw [yao.1 hh]; exact List.mem_of_getElem? hb
end
end Go.Proofs.YtakdnfneikbjjaaGreatDoor.Am.T

namespace Go.Proofs.YtakdnfneikbjjaaGreatDoor.Am.T
open Go.Proofs.YtakdnfneikbjjaaGreatDoor.Am
abbrev w64 (n : Int) : Int := IntKind.wrap .i64 n
def letB {α : Type} (b : Bool) (f : Bool → Option α) : Option α := f b
theorem zae {α : Type} {b c : Bool} {f : Bool → Option α} {r : α} (hc : b = c) (h : letB b f = some r) : f c = some r := by subst hc; exact h
theorem zab {α β : Type} {o : Option α} {f : α → Option β} {r : β} (h : o.bind f = some r) : ∃ x, o = some x ∧ f x = some r := yab.1 h
theorem zam {α : Type} {b : Bool} {x y : α} {r : α} (hb : b = true) (h : (bif b then x else y) = r) : x = r := by subst hb; exact h
theorem zal {α : Type} {b : Bool} {x y : α} {r : α} (hb : b = false) (h : (bif b then x else y) = r) : y = r := by subst hb; exact h
def req (b : Bool) : Option Unit := bif b then some () else none
theorem zlB {p : Prop} [Decidable p] {u : Unit} (h : req (decide p) = some u) : p := by
 unfold req at h
 cases hp : decide p with
 | true => exact of_decide_eq_true hp
 | false => rw [hp] at h; cases h
section
variable {α : Type}
def idx (l : List α) (i : Int) : Option α := if 0 ≤ i then l[i.toNat]? else none
theorem zbw {l : List α} {i : Int} {x : α} (h : idx l i = some x) : 0 ≤ i := by
 unfold idx at h; split at h
 ·assumption
 ·cases h
theorem zpB {l : List α} {i : Int} {x : α} (h : idx l i = some x) : l[i.toNat]? = some x := by
 unfold idx at h; split at h
 ·exact h
 ·cases h
theorem zqs {l : List α} {i : Int} {x : α} (h : idx l i = some x) : i.toNat < l.length := zax (zpB h)
theorem zaD {l : List α} {i : Int} {x : α} (e : α → List TV) (h : idx l i = some x) : (l.map e)[i.toNat]? = some (e x) := by
 rw [List.getElem?_map, zpB h]; rfl
theorem zcr {l : List α} {i : Int} {x : α} (e : α → List TV) (h : idx l i = some x) : 0 ≤ i ∧ i.toNat < (l.map e).length := ⟨zbw h, by rw [yal]; exact zqs h⟩
def upI (l : List α) (i : Int) (x : α) : List α := l.set i.toNat x
theorem zgu {l : List α} {i : Int} {x : α} {e : α → List TV} {c : List TV} (h : e x = c) : (upI l i x).map e = (l.map e).set i.toNat c := by
 subst h; unfold upI; rw [List.map_set]
def app (a b : List α) : Option (List α) := if a.length + b.length ≤ most then some (a ++ b) else none
theorem zdJ {a b y : List α} (e : α → List TV) (h : app a b = some y) : (a.map e).length + (b.map e).length ≤ most := by
 unfold app at h; split at h
 ·simpa using ‹_›
 ·cases h
theorem zdK {a b y : List α} (e : α → List TV) (h : app a b = some y) : y.map e = a.map e ++ b.map e := by
 unfold app at h; split at h
 ·cases h; exact List.map_append
 ·cases h
def subA (l : List α) (a : Int) : Option (List α) := if 0 ≤ a ∧ a ≤ l.length then some (l.drop a.toNat) else none
def subB (l : List α) (b : Int) : Option (List α) := if 0 ≤ b ∧ b ≤ l.length then some (l.take b.toNat) else none
theorem zje {l y : List α} {a : Int} (h : subA l a = some y) : 0 ≤ a ∧ a ≤ l.length ∧ y = l.drop a.toNat := by
 unfold subA at h; split at h
 ·cases h; rename_i hh; exact ⟨hh.1, hh.2, rfl⟩
 ·cases h
theorem zjf {l y : List α} {b : Int} (h : subB l b = some y) : 0 ≤ b ∧ b ≤ l.length ∧ y = l.take b.toNat := by
 unfold subB at h; split at h
 ·cases h; rename_i hh; exact ⟨hh.1, hh.2, rfl⟩
 ·cases h
theorem zqt {l y : List α} {a : Int} (h : subA l a = some y) : 0 ≤ a := (zje h).1
theorem zp2 {l y : List α} {a : Int} (e : α → List TV) (h : subA l a = some y) : a.toNat ≤ (l.map e).length ∧ (l.map e).length ≤ (l.map e).length := by
 have := zje h; rw [yal]; omega
theorem zp3 {l y : List α} {a : Int} (e : α → List TV) (h : subA l a = some y) : y.map e = ((l.map e).drop a.toNat).take ((l.map e).length - a.toNat) := by
 obtain ⟨_, _, rfl⟩ := zje h; rw [List.map_drop, List.take_of_length_le (by rw [List.length_drop]; omega)]
theorem zqu {l y : List α} {b : Int} (h : subB l b = some y) : 0 ≤ b := (zjf h).1
theorem zp4 {l y : List α} {b : Int} (e : α → List TV) (h : subB l b = some y) : 0 ≤ b.toNat ∧ b.toNat ≤ (l.map e).length := by
 have := zjf h; rw [yal]; omega
theorem zp5 {l y : List α} {b : Int} (e : α → List TV) (h : subB l b = some y) : y.map e = ((l.map e).drop 0).take (b.toNat - 0) := by
 obtain ⟨_, _, rfl⟩ := zjf h; rw [List.map_take]; rfl
def mkL (n c : Int) (z : α) : Option (List α) := if 0 ≤ n ∧ n ≤ c ∧ c ≤ most then some (List.replicate n.toNat z) else none
theorem zqv {n c : Int} {z : α} {y : List α} (h : mkL n c z = some y) : 0 ≤ n ∧ n ≤ c ∧ c ≤ (most : Int) := by
 unfold mkL at h; split at h
 ·assumption
 ·cases h
theorem zqw {n c : Int} {z : α} {y : List α} {e : α → List TV} {d : List TV} (hd : e z = d) (h : mkL n c z = some y) : y.map e = List.replicate n.toNat d := by
 subst hd
 unfold mkL at h; split at h
 ·cases h; rw [List.map_replicate]
 ·cases h
end
def ei64 (n : Int) : List TV := [.int .i64 n]
theorem zat {cf : CF} {L : Ts} {B : Bs} {M : Ms} {d : Bool} {os : List AOper} {K : Ts → Bs → Ms → Prop} (n : Nat)
  (h : WPO d cf (os.take n) L B M fun L1 B1 M1 => WPO d cf (os.drop n) L1 B1 M1 K) : WPO d cf os L B M K := by
 refine ⟨fun ρ st hr => ?_⟩
 obtain ⟨st1, e1, ρ1, L1, B1, M1, h1, hf1, hk⟩ := h.go ρ st hr
 obtain ⟨st2, e2, ρ2, L3, B3, M3, h4, hf2, hk⟩ := hk.go ρ1 st1 h1
 refine ⟨st2, ?_, ρ2, L3, B3, M3, h4, hf1.trans hf2, hk⟩
 rw [← List.take_append_drop n os]
 cases d with
 | false => simp only [yas, if_false] at e1 e2 ⊢; rw [zeu, e1]; exact e2
 | true => simp only [if_true] at e1 e2 ⊢; rw [zfC, e1]; exact e2
end Go.Proofs.YtakdnfneikbjjaaGreatDoor.Am.T

namespace Go.Proofs.YtakdnfneikbjjaaGreatDoor.Am.T
variable {ρ : List Nat} {cf : CF} {f : Nat} {args : List TV} {M : Ms} {r : TV}
theorem zp6 (ρ : List Nat) (m : Am.Ms) : Fr ρ m ρ m := ⟨⟨[], (List.append_nil _).symm, fun _ h => by cases h⟩, Nat.le_refl _, fun _ _ _ => rfl⟩
theorem zak.pure (h : ∀ ρ m args', Pw (Den ρ) args args' → ∃ r', cf f args' m = some (r', m) ∧ Den ρ r r') : zak true cf f args M r M := fun ρ m a hM ha =>
 let ⟨r', e, hd⟩ := h ρ m a ha
 ⟨r', m, ρ, e, hd, hM, zp6 ρ m, fun _ => rfl, fun _ => rfl⟩
theorem zak.law {q : Bool} {b : Bool} {args' : List V} (h : zak q cf f args [] (.bool b) []) (ha : Pw (Den []) args args') : ∃ m', cf f args' [] = some (.bool b, m') := by
 obtain ⟨r', m', ρ', e, hd, _, _, _, _⟩ := h [] [] args' ⟨List.nodup_nil, rfl, fun i b h => by cases h⟩ ha
 cases hd with
 | base hd => cases hd; exact ⟨m', e⟩
theorem zqx {α β : Type} {R : α → β → Prop} {l : List β} (h : Pw R [] l) : l = [] := by cases h; rfl
end Go.Proofs.YtakdnfneikbjjaaGreatDoor.Am.T

set_option linter.all false
namespace Go.Proofs.YtakdnfneikbjjaaGreatDoor.Am.T
theorem zak.alive {cf : CF} {f : Nat} (h : ∀ m, cf f [] m = some (.bool true, m)) : zak true cf f [] [] (.bool true) [] :=
 zak.pure fun ρ m a ha => by
  rw [zqx ha]
  exact ⟨.bool true, h m, .base (.bool true)⟩
end Go.Proofs.YtakdnfneikbjjaaGreatDoor.Am.T

set_option linter.all false
namespace Go.Proofs.YtakdnfneikbjjaaGreatDoor.Am.T
variable {α : Type} {e : α → List TV} {cs : List α → List (List TV)}
theorem zdS (hm : ∀ l, cs l = l.map e) {l : List α} {i : Int} {x : α} (h : idx l i = some x) : (cs l)[i.toNat]? = some (e x) := by rw [hm]; exact zaD e h
theorem zph (hm : ∀ l, cs l = l.map e) {l y : List α} {a : Int} (h : subA l a = some y) : a.toNat ≤ (cs l).length ∧ (cs l).length ≤ (cs l).length := by rw [hm]; exact zp2 e h
theorem zpi (hm : ∀ l, cs l = l.map e) {l y : List α} {a : Int} (h : subA l a = some y) : cs y = ((cs l).drop a.toNat).take ((cs l).length - a.toNat) := by rw [hm, hm]; exact zp3 e h
theorem lenR (hm : ∀ l, cs l = l.map e) {l : List α} : (cs l).length = l.length := by rw [hm, yal]
end Go.Proofs.YtakdnfneikbjjaaGreatDoor.Am.T
