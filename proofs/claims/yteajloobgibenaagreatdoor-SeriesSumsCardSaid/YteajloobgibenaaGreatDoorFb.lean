/- Parts of the proof: FpCode2, FpCode3, FpCode4, FpCode5, FpFuns, FpRules, FpProg, FpStpEq, FpWK, FpWX, FpNum, FpNat, FpLen, FpLen2, FpBits. -/
import Derived.Test.YteajloobgibenaaGreatDoorFa
import Derived.Test.YteajloobgibenaaGreatDoorF0
/- MADE BY A PROGRAM (wip/tools/dump.sh, mkcode.py): the abstract code of the functions that this seat reaches. -/
namespace Go.Abs

/- interval_Point -/
@[simp] def c_interval_Point : AFn := ⟨[(.cell 2 true 7)],
 (.seq (.region false [oP 1 (.box 3 (.t 0)),
 oP 2 (.new 7 (.agg [(.bool false), .nil, (.int .i64 0), (.bool false), .nil, (.int .i64 0), (.bool false)]))]) (.seq (.seq (.region false [oP 3 (.load true 3 (.t 1)),
 oP 4 (.call (.f 51) [(.t 3)]),
 oP 5 (.un .not (.t 4))]) (.cond (.t 5) (.seq (.region false [oP 6 (.call (.f 107) []),
 ⟨none, .store 7 (.t 2) (.t 6), none, false⟩]) .ret) .skip)) (.seq (.region false [oP 7 (.load true 3 (.t 1)),
 oP 8 (.load true 3 (.t 1)),
 oP 9 (.build [(.bool false), .nil, (.int .i64 0), (.bool false), .nil, (.int .i64 0), (.bool false)] [(0, 3, (.t 7)), (3, 3, (.t 8))]),
 ⟨none, .store 7 (.t 2) (.t 9), none, false⟩]) .ret))),
 false, false⟩

/- fpref05_Point -/
@[simp] def c_fpref05_Point : AFn := ⟨[(.cell 2 true 7)],
 (.seq (.region false [oP 1 (.box 3 (.t 0)),
 oP 2 (.new 7 (.agg [(.bool false), .nil, (.int .i64 0), (.bool false), .nil, (.int .i64 0), (.bool false)]))]) (.seq (.region false [oP 3 (.load true 3 (.t 1)),
 oP 4 (.load true 3 (.t 1)),
 oP 5 (.build [(.bool false), .nil, (.int .i64 0), (.bool false), .nil, (.int .i64 0), (.bool false)] [(0, 3, (.t 3)), (3, 3, (.t 4))]),
 ⟨none, .store 7 (.t 2) (.t 5), none, false⟩]) .ret)),
 false, false⟩

/- interval_Abs -/
@[simp] def c_interval_Abs : AFn := ⟨[(.cell 2 true 7)],
 (.seq (.region false [oP 1 (.box 7 (.t 0)),
 oP 2 (.new 7 (.agg [(.bool false), .nil, (.int .i64 0), (.bool false), .nil, (.int .i64 0), (.bool false)]))]) (.seq (.seq (.region false [oP 7 (.load true 7 (.t 1)),
 oP 8 (.bslice 7 1 (.agg [(.bool false), .nil, (.int .i64 0), (.bool false), .nil, (.int .i64 0), (.bool false)]) [(0, (.t 7))]),
 oP 9 (.call (.f 106) [(.t 8)]),
 oP 10 (.un .not (.t 9))]) (.cond (.t 10) (.seq (.region false [oP 11 (.call (.f 107) []),
 ⟨none, .store 7 (.t 2) (.t 11), none, false⟩]) .ret) .skip)) (.seq (.region false [oP 13 (.load true 7 (.t 1)),
 oP 14 (.call (.f 165) [(.t 13)]),
 mV 12 14,
 oP 15 (.extract 0 (.t 12)),
 oP 16 (.extract 1 (.t 12)),
 oP 3 (.new 3 (.agg [(.bool false), .nil, (.int .i64 0)])),
 ⟨none, .store 3 (.t 3) (.t 15), none, false⟩,
 mV 4 16]) (.seq (.region false [oP 18 (.load true 7 (.t 1)),
 oP 19 (.call (.f 164) [(.t 18)]),
 mV 17 19,
 oP 20 (.extract 0 (.t 17)),
 oP 21 (.extract 1 (.t 17)),
 oP 5 (.new 3 (.agg [(.bool false), .nil, (.int .i64 0)])),
 ⟨none, .store 3 (.t 5) (.t 20), none, false⟩,
 mV 6 21]) (.seq (.region false [oP 22 (.load true 3 (.t 3)),
 oP 23 (.load true 3 (.t 5)),
 oP 24 (.build [(.bool false), .nil, (.int .i64 0), (.bool false), .nil, (.int .i64 0), (.bool false)] [(0, 3, (.t 22)), (3, 3, (.t 23))]),
 ⟨none, .store 7 (.t 2) (.t 24), none, false⟩]) .ret))))),
 false, false⟩

/- interval_Scale -/
@[simp] def c_interval_Scale : AFn := ⟨[(.cell 4 true 7)],
 (.seq (.region false [oP 2 (.box 7 (.t 0)),
 oP 4 (.new 7 (.agg [(.bool false), .nil, (.int .i64 0), (.bool false), .nil, (.int .i64 0), (.bool false)]))]) (.seq (.seq (.region false [oP 9 (.load true 7 (.t 2)),
 oP 10 (.bslice 7 1 (.agg [(.bool false), .nil, (.int .i64 0), (.bool false), .nil, (.int .i64 0), (.bool false)]) [(0, (.t 9))]),
 oP 11 (.call (.f 106) [(.t 10)]),
 oP 12 (.un .not (.t 11))]) (.cond (.t 12) (.seq (.region false [oP 13 (.call (.f 107) []),
 ⟨none, .store 7 (.t 4) (.t 13), none, false⟩]) .ret) .skip)) (.seq (.region false [oP 15 (.faddr 0 (.t 2)),
 oP 16 (.load true 3 (.t 15)),
 mV 17 1,
 oP 18 (.call (.f 204) [(.t 16), (.t 17)]),
 mV 14 18,
 oP 19 (.extract 0 (.t 14)),
 oP 20 (.extract 1 (.t 14)),
 oP 5 (.new 3 (.agg [(.bool false), .nil, (.int .i64 0)])),
 ⟨none, .store 3 (.t 5) (.t 19), none, false⟩,
 mV 6 20]) (.seq (.region false [oP 22 (.faddr 3 (.t 2)),
 oP 23 (.load true 3 (.t 22)),
 mV 24 1,
 oP 25 (.call (.f 204) [(.t 23), (.t 24)]),
 mV 21 25,
 oP 26 (.extract 0 (.t 21)),
 oP 27 (.extract 1 (.t 21)),
 oP 7 (.new 3 (.agg [(.bool false), .nil, (.int .i64 0)])),
 ⟨none, .store 3 (.t 7) (.t 26), none, false⟩,
 mV 8 27]) (.seq (.region false [oP 28 (.load true 3 (.t 5)),
 mV 29 6,
 oP 30 (.load true 3 (.t 7)),
 mV 31 8,
 oP 32 (.call (.f 189) [(.t 28), (.t 29), (.t 30), (.t 31)]),
 ⟨none, .store 7 (.t 4) (.t 32), none, false⟩]) .ret))))),
 false, false⟩

/- interval_Mag -/
@[simp] def c_interval_Mag : AFn := ⟨[(.cell 2 true 3), (.tmp 3)],
 (.seq (.region false [oP 1 (.box 7 (.t 0)),
 oP 2 (.new 3 (.agg [(.bool false), .nil, (.int .i64 0)])),
 oP 3 (.mv (.c (.bool false)))]) (.seq (.seq (.region false [oP 4 (.load true 7 (.t 1)),
 oP 5 (.bslice 7 1 (.agg [(.bool false), .nil, (.int .i64 0), (.bool false), .nil, (.int .i64 0), (.bool false)]) [(0, (.t 4))]),
 oP 6 (.call (.f 106) [(.t 5)]),
 oP 7 (.un .not (.t 6))]) (.cond (.t 7) (.seq (.region false [oP 8 (.build [(.bool false), .nil, (.int .i64 0)] []),
 ⟨none, .store 3 (.t 2) (.t 8), none, false⟩,
 oP 3 (.mv (.c (.bool false)))]) .ret) .skip)) (.seq (.region true [oP 9 (.faddr 0 (.t 1)),
 oP 10 (.load true 3 (.t 9)),
 oP 11 (.call (.f 205) [(.t 10)]),
 oP 12 (.faddr 3 (.t 1)),
 oP 13 (.load true 3 (.t 12)),
 oS 14 (.call (.f 205) [(.t 13)]),
 oS 15 (.call (.f 104) [(.t 11), (.t 14)]),
 ⟨none, .store 3 (.t 2) (.t 15), none, true⟩,
 oP 3 (.mv (.c (.bool true)))]) .ret))),
 false, false⟩

/- interval_Mig -/
@[simp] def c_interval_Mig : AFn := ⟨[(.cell 2 true 3), (.tmp 3)],
 (.seq (.region false [oP 1 (.box 7 (.t 0)),
 oP 2 (.new 3 (.agg [(.bool false), .nil, (.int .i64 0)])),
 oP 3 (.mv (.c (.bool false)))]) (.seq (.seq (.region false [oP 4 (.load true 7 (.t 1)),
 oP 5 (.bslice 7 1 (.agg [(.bool false), .nil, (.int .i64 0), (.bool false), .nil, (.int .i64 0), (.bool false)]) [(0, (.t 4))]),
 oP 6 (.call (.f 106) [(.t 5)]),
 oP 7 (.un .not (.t 6))]) (.cond (.t 7) (.seq (.region false [oP 8 (.build [(.bool false), .nil, (.int .i64 0)] []),
 ⟨none, .store 3 (.t 2) (.t 8), none, false⟩,
 oP 3 (.mv (.c (.bool false)))]) .ret) .skip)) (.seq (.seq (.region false [oP 9 (.load true 7 (.t 1)),
 oP 10 (.call (.f 173) [(.t 9)]),
 oP 11 (.bin .num .eql (.t 10) (.c (.int .i64 0)))]) (.cond (.t 11) (.seq (.region false [oP 12 (.build [(.bool false), .nil, (.int .i64 0)] []),
 ⟨none, .store 3 (.t 2) (.t 12), none, false⟩,
 oP 3 (.mv (.c (.bool true)))]) .ret) .skip)) (.seq (.region true [oP 13 (.faddr 0 (.t 1)),
 oP 14 (.load true 3 (.t 13)),
 oP 15 (.call (.f 205) [(.t 14)]),
 oP 16 (.faddr 3 (.t 1)),
 oP 17 (.load true 3 (.t 16)),
 oS 18 (.call (.f 205) [(.t 17)]),
 oS 19 (.call (.f 105) [(.t 15), (.t 18)]),
 ⟨none, .store 3 (.t 2) (.t 19), none, true⟩,
 oP 3 (.mv (.c (.bool true)))]) .ret)))),
 false, false⟩

/- interval_Sign -/
@[simp] def c_interval_Sign : AFn := ⟨[(.tmp 2)],
 (.seq (.region false [oP 1 (.box 7 (.t 0)),
 oP 2 (.mv (.c (.int .i64 0)))]) (.seq (.block 0 (.seq (.region false [oP 4 (.load true 7 (.t 1)),
 oP 5 (.bslice 7 1 (.agg [(.bool false), .nil, (.int .i64 0), (.bool false), .nil, (.int .i64 0), (.bool false)]) [(0, (.t 4))]),
 oP 6 (.call (.f 106) [(.t 5)]),
 oP 7 (.un .not (.t 6)),
 mV 3 7]) (.cond (.t 3) (.seq (.region false [oP 2 (.mv (.c (.int .i64 0)))]) .ret) (.seq (.region false [oP 9 (.faddr 0 (.t 1)),
 oP 10 (.load true 3 (.t 9)),
 oP 11 (.call (.f 79) [(.t 10)]),
 oP 12 (.bin .num .gtr (.t 11) (.c (.int .i64 0))),
 mV 8 12]) (.cond (.t 8) (.seq (.region false [oP 2 (.mv (.c (.int .i64 1)))]) .ret) (.seq (.region false [oP 14 (.faddr 3 (.t 1)),
 oP 15 (.load true 3 (.t 14)),
 oP 16 (.call (.f 79) [(.t 15)]),
 oP 17 (.bin .num .lss (.t 16) (.c (.int .i64 0))),
 mV 13 17]) (.cond (.t 13) (.seq (.region false [oP 2 (.mv (.c (.int .i64 (-1))))]) .ret) .skip))))))) (.seq (.region false [oP 2 (.mv (.c (.int .i64 0)))]) .ret))),
 false, false⟩

/- interval_Sqrt -/
@[simp] def c_interval_Sqrt : AFn := ⟨[(.cell 4 true 7)],
 (.seq (.region false [oP 2 (.box 7 (.t 0)),
 oP 4 (.new 7 (.agg [(.bool false), .nil, (.int .i64 0), (.bool false), .nil, (.int .i64 0), (.bool false)]))]) (.seq (.seq (.region false [oP 9 (.load true 7 (.t 2)),
 oP 10 (.bslice 7 1 (.agg [(.bool false), .nil, (.int .i64 0), (.bool false), .nil, (.int .i64 0), (.bool false)]) [(0, (.t 9))]),
 oP 11 (.call (.f 106) [(.t 10)]),
 oP 12 (.un .not (.t 11)),
 mV 13 12,
 gF 14 13 (.mv (.t 1)),
 gF 15 13 (.call (.f 186) [(.t 14)]),
 gF 16 13 (.un .not (.t 15)),
 oP 17 (.pick (.t 13) (.c (.bool true)) (.t 16)),
 mV 18 17,
 gF 19 18 (.faddr 0 (.t 2)),
 gF 20 18 (.load true 3 (.t 19)),
 gF 21 18 (.call (.f 79) [(.t 20)]),
 gF 22 18 (.bin .num .leq (.t 21) (.c (.int .i64 0))),
 oP 23 (.pick (.t 18) (.c (.bool true)) (.t 22))]) (.cond (.t 23) (.seq (.region false [oP 24 (.call (.f 107) []),
 ⟨none, .store 7 (.t 4) (.t 24), none, false⟩]) .ret) .skip)) (.seq (.region false [oP 26 (.faddr 0 (.t 2)),
 oP 27 (.load true 3 (.t 26)),
 mV 28 1,
 oP 29 (.call (.f 207) [(.t 27), (.t 28)]),
 mV 25 29,
 oP 30 (.extract 0 (.t 25)),
 oP 31 (.extract 1 (.t 25)),
 oP 5 (.new 3 (.agg [(.bool false), .nil, (.int .i64 0)])),
 ⟨none, .store 3 (.t 5) (.t 30), none, false⟩,
 mV 6 31]) (.seq (.region false [oP 33 (.faddr 3 (.t 2)),
 oP 34 (.load true 3 (.t 33)),
 mV 35 1,
 oP 36 (.call (.f 208) [(.t 34), (.t 35)]),
 mV 32 36,
 oP 37 (.extract 0 (.t 32)),
 oP 38 (.extract 1 (.t 32)),
 oP 7 (.new 3 (.agg [(.bool false), .nil, (.int .i64 0)])),
 ⟨none, .store 3 (.t 7) (.t 37), none, false⟩,
 mV 8 38]) (.seq (.region false [oP 39 (.load true 3 (.t 5)),
 mV 40 6,
 oP 41 (.load true 3 (.t 7)),
 mV 42 8,
 oP 43 (.call (.f 189) [(.t 39), (.t 40), (.t 41), (.t 42)]),
 ⟨none, .store 7 (.t 4) (.t 43), none, false⟩]) .ret))))),
 false, false⟩

/- interval_Power -/
@[simp] def c_interval_Power : AFn := ⟨[(.cell 6 true 7)],
 (.seq (.region false [oP 3 (.box 7 (.t 0)),
 oP 6 (.new 7 (.agg [(.bool false), .nil, (.int .i64 0), (.bool false), .nil, (.int .i64 0), (.bool false)]))]) (.seq (.seq (.region false [oP 11 (.load true 7 (.t 3)),
 oP 12 (.bslice 7 1 (.agg [(.bool false), .nil, (.int .i64 0), (.bool false), .nil, (.int .i64 0), (.bool false)]) [(0, (.t 11))]),
 oP 13 (.call (.f 106) [(.t 12)]),
 oP 14 (.un .not (.t 13)),
 mV 15 14,
 gF 16 15 (.mv (.t 2)),
 gF 17 15 (.call (.f 186) [(.t 16)]),
 gF 18 15 (.un .not (.t 17)),
 oP 19 (.pick (.t 15) (.c (.bool true)) (.t 18)),
 mV 20 19,
 gF 21 20 (.mv (.t 1)),
 gF 22 20 (.bin .num .lss (.t 21) (.c (.int .i64 0))),
 oP 23 (.pick (.t 20) (.c (.bool true)) (.t 22)),
 mV 24 23,
 gF 25 24 (.mv (.t 1)),
 gF 26 24 (.bin .num .gtr (.t 25) (.c (.int .i64 16))),
 oP 27 (.pick (.t 24) (.c (.bool true)) (.t 26))]) (.cond (.t 27) (.seq (.region false [oP 28 (.call (.f 107) []),
 ⟨none, .store 7 (.t 6) (.t 28), none, false⟩]) .ret) .skip)) (.seq (.seq (.region false [mV 29 1,
 oP 30 (.bin .num .eql (.t 29) (.c (.int .i64 0)))]) (.cond (.t 30) (.seq (.region false [oP 31 (.call (.f 210) [(.c (.int .i64 1))]),
 oP 32 (.call (.f 152) [(.t 31)]),
 ⟨none, .store 7 (.t 6) (.t 32), none, false⟩]) .ret) .skip)) (.seq (.seq (.region false [mV 33 1,
 oP 34 (.bin .num .rem (.t 33) (.c (.int .i64 2))),
 oP 35 (.bin .num .eql (.t 34) (.c (.int .i64 0)))]) (.cond (.t 35) (.region false [oP 36 (.load true 7 (.t 3)),
 oP 37 (.call (.f 156) [(.t 36)]),
 ⟨none, .store 7 (.t 3) (.t 37), none, false⟩]) .skip)) (.seq (.region false [oP 39 (.faddr 0 (.t 3)),
 oP 40 (.load true 3 (.t 39)),
 mV 41 1,
 mV 42 2,
 oP 43 (.call (.f 211) [(.t 40), (.t 41), (.t 42), (.c (.bool false))]),
 mV 38 43,
 oP 44 (.extract 0 (.t 38)),
 oP 45 (.extract 1 (.t 38)),
 oP 7 (.new 3 (.agg [(.bool false), .nil, (.int .i64 0)])),
 ⟨none, .store 3 (.t 7) (.t 44), none, false⟩,
 mV 8 45]) (.seq (.region false [oP 47 (.faddr 3 (.t 3)),
 oP 48 (.load true 3 (.t 47)),
 mV 49 1,
 mV 50 2,
 oP 51 (.call (.f 211) [(.t 48), (.t 49), (.t 50), (.c (.bool true))]),
 mV 46 51,
 oP 52 (.extract 0 (.t 46)),
 oP 53 (.extract 1 (.t 46)),
 oP 9 (.new 3 (.agg [(.bool false), .nil, (.int .i64 0)])),
 ⟨none, .store 3 (.t 9) (.t 52), none, false⟩,
 mV 10 53]) (.seq (.region false [oP 54 (.load true 3 (.t 7)),
 mV 55 8,
 oP 56 (.load true 3 (.t 9)),
 mV 57 10,
 oP 58 (.call (.f 189) [(.t 54), (.t 55), (.t 56), (.t 57)]),
 ⟨none, .store 7 (.t 6) (.t 58), none, false⟩]) .ret))))))),
 false, false⟩

/- interval_permitted -/
@[simp] def c_interval_permitted : AFn := ⟨[(.tmp 2)],
 (.seq (.region false [oP 2 (.mv (.c (.bool false)))]) (.seq (.region false [mV 3 0,
 oP 4 (.bin .num .geq (.t 3) (.c (.int .i64 8))),
 mV 5 4,
 gT 6 5 (.mv (.t 0)),
 gT 7 5 (.bin .num .leq (.t 6) (.c (.int .i64 512))),
 oP 8 (.pick (.t 5) (.t 7) (.c (.bool false))),
 mV 2 8]) .ret)),
 false, false⟩

/- round_AddDown -/
@[simp] def c_round_AddDown : AFn := ⟨[(.cell 6 true 3), (.tmp 7)],
 (.seq (.region false [oP 3 (.box 3 (.t 0)),
 oP 4 (.box 3 (.t 1)),
 oP 6 (.new 3 (.agg [(.bool false), .nil, (.int .i64 0)])),
 oP 7 (.mv (.c (.int .i64 0)))]) (.seq (.region false [oP 8 (.load true 3 (.t 3)),
 oP 9 (.load true 3 (.t 4)),
 mV 10 2,
 oP 11 (.call (.f 216) [(.t 8), (.t 9), (.t 10), (.c (.bool false))]),
 oP 12 (.extract 0 (.t 11)),
 oP 13 (.extract 1 (.t 11)),
 ⟨none, .store 3 (.t 6) (.t 12), none, false⟩,
 mV 7 13]) .ret)),
 false, false⟩

/- round_AddUp -/
@[simp] def c_round_AddUp : AFn := ⟨[(.cell 6 true 3), (.tmp 7)],
 (.seq (.region false [oP 3 (.box 3 (.t 0)),
 oP 4 (.box 3 (.t 1)),
 oP 6 (.new 3 (.agg [(.bool false), .nil, (.int .i64 0)])),
 oP 7 (.mv (.c (.int .i64 0)))]) (.seq (.region false [oP 8 (.load true 3 (.t 3)),
 oP 9 (.load true 3 (.t 4)),
 mV 10 2,
 oP 11 (.call (.f 216) [(.t 8), (.t 9), (.t 10), (.c (.bool true))]),
 oP 12 (.extract 0 (.t 11)),
 oP 13 (.extract 1 (.t 11)),
 ⟨none, .store 3 (.t 6) (.t 12), none, false⟩,
 mV 7 13]) .ret)),
 false, false⟩

/- interval_made -/
@[simp] def c_interval_made : AFn := ⟨[(.cell 8 true 7)],
 (.seq (.region false [oP 4 (.box 3 (.t 0)),
 oP 6 (.box 3 (.t 2)),
 oP 8 (.new 7 (.agg [(.bool false), .nil, (.int .i64 0), (.bool false), .nil, (.int .i64 0), (.bool false)]))]) (.seq (.seq (.region false [mV 9 1,
 oP 10 (.bin .num .neq (.t 9) (.c (.int .i64 0))),
 mV 11 10,
 gF 12 11 (.mv (.t 3)),
 gF 13 11 (.bin .num .neq (.t 12) (.c (.int .i64 0))),
 oP 14 (.pick (.t 11) (.c (.bool true)) (.t 13))]) (.cond (.t 14) (.seq (.region false [oP 15 (.call (.f 107) []),
 ⟨none, .store 7 (.t 8) (.t 15), none, false⟩]) .ret) .skip)) (.seq (.region false [oP 16 (.load true 3 (.t 4)),
 oP 17 (.load true 3 (.t 6)),
 oP 18 (.build [(.bool false), .nil, (.int .i64 0), (.bool false), .nil, (.int .i64 0), (.bool false)] [(0, 3, (.t 16)), (3, 3, (.t 17))]),
 ⟨none, .store 7 (.t 8) (.t 18), none, false⟩]) .ret))),
 false, false⟩

/- interval_four -/
def c_interval_four_l0 : AC := (.seq (.region false [oP 42 (.bin .num .lss (.t 41) (.c (.int .i64 4)))]) (.seq (.cond (.t 42) .skip (.exit 0)) (.seq (.block 1 (.seq (.region false [mV 43 41,
 oP 44 (.index true 4 6 (.t 40) (.t 41)),
 oP 14 (.new 6 (.agg [(.bool false), .nil, (.int .i64 0), (.bool false), .nil, (.int .i64 0)])),
 mV 13 43,
 ⟨none, .store 6 (.t 14) (.t 44), none, false⟩]) (.seq (.region false [mV 46 3,
 oP 47 (.aiaddr 2 3 (.t 14) (.c (.int .i64 0))),
 oP 48 (.load true 3 (.t 47)),
 oP 49 (.aiaddr 2 3 (.t 14) (.c (.int .i64 1))),
 oP 50 (.load true 3 (.t 49)),
 mV 51 2,
 oP 52 (.call (.t 46) [(.t 48), (.t 50), (.t 51)]),
 mV 45 52,
 oP 53 (.extract 0 (.t 45)),
 oP 54 (.extract 1 (.t 45)),
 oP 15 (.new 3 (.agg [(.bool false), .nil, (.int .i64 0)])),
 ⟨none, .store 3 (.t 15) (.t 53), none, false⟩,
 mV 16 54]) (.seq (.region false [mV 56 4,
 oP 57 (.aiaddr 2 3 (.t 14) (.c (.int .i64 0))),
 oP 58 (.load true 3 (.t 57)),
 oP 59 (.aiaddr 2 3 (.t 14) (.c (.int .i64 1))),
 oP 60 (.load true 3 (.t 59)),
 mV 61 2,
 oP 62 (.call (.t 56) [(.t 58), (.t 60), (.t 61)]),
 mV 55 62,
 oP 63 (.extract 0 (.t 55)),
 oP 64 (.extract 1 (.t 55)),
 oP 17 (.new 3 (.agg [(.bool false), .nil, (.int .i64 0)])),
 ⟨none, .store 3 (.t 17) (.t 63), none, false⟩,
 mV 18 64]) (.seq (.seq (.region false [mV 65 16,
 oP 66 (.bin .num .neq (.t 65) (.c (.int .i64 0))),
 mV 67 66,
 gF 68 67 (.mv (.t 18)),
 gF 69 67 (.bin .num .neq (.t 68) (.c (.int .i64 0))),
 oP 70 (.pick (.t 67) (.c (.bool true)) (.t 69))]) (.cond (.t 70) (.seq (.region false [oP 71 (.call (.f 107) []),
 ⟨none, .store 7 (.t 10) (.t 71), none, false⟩]) .ret) .skip)) (.seq (.seq (.region false [mV 72 13,
 oP 73 (.bin .num .eql (.t 72) (.c (.int .i64 0))),
 mV 74 73,
 gF 75 74 (.load true 3 (.t 15)),
 gF 76 74 (.faddr 0 (.t 12)),
 gF 77 74 (.load true 3 (.t 76)),
 gF 78 74 (.call (.f 52) [(.t 75), (.t 77)]),
 gF 79 74 (.bin .num .lss (.t 78) (.c (.int .i64 0))),
 oP 80 (.pick (.t 74) (.c (.bool true)) (.t 79))]) (.cond (.t 80) (.region false [oP 81 (.load true 3 (.t 15)),
 oP 82 (.faddr 0 (.t 12)),
 ⟨none, .store 3 (.t 82) (.t 81), none, false⟩]) .skip)) (.seq (.region false [mV 83 13,
 oP 84 (.bin .num .eql (.t 83) (.c (.int .i64 0))),
 mV 85 84,
 gF 86 85 (.load true 3 (.t 17)),
 gF 87 85 (.faddr 3 (.t 12)),
 gF 88 85 (.load true 3 (.t 87)),
 gF 89 85 (.call (.f 52) [(.t 86), (.t 88)]),
 gF 90 85 (.bin .num .gtr (.t 89) (.c (.int .i64 0))),
 oP 91 (.pick (.t 85) (.c (.bool true)) (.t 90))]) (.cond (.t 91) (.region false [oP 92 (.load true 3 (.t 17)),
 oP 93 (.faddr 3 (.t 12)),
 ⟨none, .store 3 (.t 93) (.t 92), none, false⟩]) .skip)))))))) (.region false [oP 94 (.bin .num .add (.t 41) (.c (.int .i64 1))),
 mV 41 94]))))
@[simp] def c_interval_four : AFn := ⟨[(.cell 10 true 7)],
 (.seq (.region false [oP 5 (.box 7 (.t 0)),
 oP 6 (.box 7 (.t 1)),
 oP 10 (.new 7 (.agg [(.bool false), .nil, (.int .i64 0), (.bool false), .nil, (.int .i64 0), (.bool false)]))]) (.seq (.region false [oP 19 (.faddr 0 (.t 5)),
 oP 20 (.load true 3 (.t 19)),
 oP 21 (.faddr 0 (.t 6)),
 oP 22 (.load true 3 (.t 21)),
 oP 23 (.build [(.bool false), .nil, (.int .i64 0), (.bool false), .nil, (.int .i64 0)] [(0, 3, (.t 20)), (3, 3, (.t 22))]),
 oP 24 (.faddr 0 (.t 5)),
 oP 25 (.load true 3 (.t 24)),
 oP 26 (.faddr 3 (.t 6)),
 oP 27 (.load true 3 (.t 26)),
 oP 28 (.build [(.bool false), .nil, (.int .i64 0), (.bool false), .nil, (.int .i64 0)] [(0, 3, (.t 25)), (3, 3, (.t 27))]),
 oP 29 (.faddr 3 (.t 5)),
 oP 30 (.load true 3 (.t 29)),
 oP 31 (.faddr 0 (.t 6)),
 oP 32 (.load true 3 (.t 31)),
 oP 33 (.build [(.bool false), .nil, (.int .i64 0), (.bool false), .nil, (.int .i64 0)] [(0, 3, (.t 30)), (3, 3, (.t 32))]),
 oP 34 (.faddr 3 (.t 5)),
 oP 35 (.load true 3 (.t 34)),
 oP 36 (.faddr 3 (.t 6)),
 oP 37 (.load true 3 (.t 36)),
 oP 38 (.build [(.bool false), .nil, (.int .i64 0), (.bool false), .nil, (.int .i64 0)] [(0, 3, (.t 35)), (3, 3, (.t 37))]),
 oP 39 (.build [(.bool false), .nil, (.int .i64 0), (.bool false), .nil, (.int .i64 0), (.bool false), .nil, (.int .i64 0), (.bool false), .nil, (.int .i64 0), (.bool false), .nil, (.int .i64 0), (.bool false), .nil, (.int .i64 0), (.bool false), .nil, (.int .i64 0), (.bool false), .nil, (.int .i64 0)] [(0, 6, (.t 23)), (6, 6, (.t 28)), (12, 6, (.t 33)), (18, 6, (.t 38))]),
 oP 11 (.new 24 (.agg [(.bool false), .nil, (.int .i64 0), (.bool false), .nil, (.int .i64 0), (.bool false), .nil, (.int .i64 0), (.bool false), .nil, (.int .i64 0), (.bool false), .nil, (.int .i64 0), (.bool false), .nil, (.int .i64 0), (.bool false), .nil, (.int .i64 0), (.bool false), .nil, (.int .i64 0)])),
 ⟨none, .store 24 (.t 11) (.t 39), none, false⟩]) (.seq (.region false [oP 12 (.new 7 (.agg [(.bool false), .nil, (.int .i64 0), (.bool false), .nil, (.int .i64 0), (.bool false)]))]) (.seq (.seq (.region false [oP 40 (.load true 24 (.t 11)),
 oP 41 (.mv (.c (.int .i64 0)))]) (.block 0 (.loop c_interval_four_l0))) (.seq (.region false [oP 95 (.load true 7 (.t 12)),
 ⟨none, .store 7 (.t 10) (.t 95), none, false⟩]) .ret))))),
 false, false⟩

/- round_MulDown -/
@[simp] def c_round_MulDown : AFn := ⟨[(.cell 6 true 3), (.tmp 7)],
 (.seq (.region false [oP 3 (.box 3 (.t 0)),
 oP 4 (.box 3 (.t 1)),
 oP 6 (.new 3 (.agg [(.bool false), .nil, (.int .i64 0)])),
 oP 7 (.mv (.c (.int .i64 0)))]) (.seq (.region false [oP 8 (.load true 3 (.t 3)),
 oP 9 (.load true 3 (.t 4)),
 mV 10 2,
 oP 11 (.call (.f 217) [(.t 8), (.t 9), (.t 10), (.c (.bool false))]),
 oP 12 (.extract 0 (.t 11)),
 oP 13 (.extract 1 (.t 11)),
 ⟨none, .store 3 (.t 6) (.t 12), none, false⟩,
 mV 7 13]) .ret)),
 false, false⟩

/- round_MulUp -/
@[simp] def c_round_MulUp : AFn := ⟨[(.cell 6 true 3), (.tmp 7)],
 (.seq (.region false [oP 3 (.box 3 (.t 0)),
 oP 4 (.box 3 (.t 1)),
 oP 6 (.new 3 (.agg [(.bool false), .nil, (.int .i64 0)])),
 oP 7 (.mv (.c (.int .i64 0)))]) (.seq (.region false [oP 8 (.load true 3 (.t 3)),
 oP 9 (.load true 3 (.t 4)),
 mV 10 2,
 oP 11 (.call (.f 217) [(.t 8), (.t 9), (.t 10), (.c (.bool true))]),
 oP 12 (.extract 0 (.t 11)),
 oP 13 (.extract 1 (.t 11)),
 ⟨none, .store 3 (.t 6) (.t 12), none, false⟩,
 mV 7 13]) .ret)),
 false, false⟩

/- round_DivDown -/
@[simp] def c_round_DivDown : AFn := ⟨[(.cell 6 true 3), (.tmp 7)],
 (.seq (.region false [oP 3 (.box 3 (.t 0)),
 oP 4 (.box 3 (.t 1)),
 oP 6 (.new 3 (.agg [(.bool false), .nil, (.int .i64 0)])),
 oP 7 (.mv (.c (.int .i64 0)))]) (.seq (.region false [oP 8 (.load true 3 (.t 3)),
 oP 9 (.load true 3 (.t 4)),
 mV 10 2,
 oP 11 (.call (.f 218) [(.t 8), (.t 9), (.t 10), (.c (.bool false))]),
 oP 12 (.extract 0 (.t 11)),
 oP 13 (.extract 1 (.t 11)),
 ⟨none, .store 3 (.t 6) (.t 12), none, false⟩,
 mV 7 13]) .ret)),
 false, false⟩

/- round_DivUp -/
@[simp] def c_round_DivUp : AFn := ⟨[(.cell 6 true 3), (.tmp 7)],
 (.seq (.region false [oP 3 (.box 3 (.t 0)),
 oP 4 (.box 3 (.t 1)),
 oP 6 (.new 3 (.agg [(.bool false), .nil, (.int .i64 0)])),
 oP 7 (.mv (.c (.int .i64 0)))]) (.seq (.region false [oP 8 (.load true 3 (.t 3)),
 oP 9 (.load true 3 (.t 4)),
 mV 10 2,
 oP 11 (.call (.f 218) [(.t 8), (.t 9), (.t 10), (.c (.bool true))]),
 oP 12 (.extract 0 (.t 11)),
 oP 13 (.extract 1 (.t 11)),
 ⟨none, .store 3 (.t 6) (.t 12), none, false⟩,
 mV 7 13]) .ret)),
 false, false⟩

/- fpref05_Prec -/
@[simp] def c_fpref05_Prec : AFn := ⟨[(.tmp 2)],
 (.seq (.region false [oP 2 (.mv (.c (.bool false)))]) (.seq (.region false [mV 3 0,
 oP 4 (.bin .num .geq (.t 3) (.c (.int .i64 8))),
 mV 5 4,
 gT 6 5 (.mv (.t 0)),
 gT 7 5 (.bin .num .leq (.t 6) (.c (.int .i64 512))),
 oP 8 (.pick (.t 5) (.t 7) (.c (.bool false))),
 mV 2 8]) .ret)),
 false, false⟩

/- fpref03_Add -/
@[simp] def c_fpref03_Add : AFn := ⟨[(.cell 8 true 3), (.tmp 9)],
 (.seq (.region false [oP 4 (.box 3 (.t 0)),
 oP 5 (.box 3 (.t 1)),
 oP 8 (.new 3 (.agg [(.bool false), .nil, (.int .i64 0)])),
 oP 9 (.mv (.c (.int .i64 0)))]) (.seq (.region false [oP 11 (.load true 3 (.t 4)),
 oP 12 (.load true 3 (.t 5)),
 mV 13 2,
 oP 14 (.call (.f 219) [(.t 11), (.t 12), (.t 13)]),
 mV 10 14]) (.seq (.seq (.region false [mV 15 10,
 oP 16 (.bin .num .neq (.t 15) (.c (.int .i64 0)))]) (.cond (.t 16) (.seq (.region false [oP 17 (.build [(.bool false), .nil, (.int .i64 0)] []),
 mV 18 10,
 ⟨none, .store 3 (.t 8) (.t 17), none, false⟩,
 mV 9 18]) .ret) .skip)) (.seq (.region false [oP 19 (.load true 3 (.t 4)),
 oP 20 (.load true 3 (.t 5)),
 oP 21 (.call (.f 56) [(.t 19), (.t 20)]),
 mV 22 2,
 mV 23 3,
 oP 24 (.call (.f 220) [(.t 21), (.t 22), (.t 23)]),
 oP 25 (.extract 0 (.t 24)),
 oP 26 (.extract 1 (.t 24)),
 ⟨none, .store 3 (.t 8) (.t 25), none, false⟩,
 mV 9 26]) .ret)))),
 false, false⟩

/- fpref05_made -/
@[simp] def c_fpref05_made : AFn := ⟨[(.cell 8 true 7)],
 (.seq (.region false [oP 4 (.box 3 (.t 0)),
 oP 6 (.box 3 (.t 2)),
 oP 8 (.new 7 (.agg [(.bool false), .nil, (.int .i64 0), (.bool false), .nil, (.int .i64 0), (.bool false)]))]) (.seq (.seq (.region false [mV 9 1,
 oP 10 (.bin .num .neq (.t 9) (.c (.int .i64 0))),
 mV 11 10,
 gF 12 11 (.mv (.t 3)),
 gF 13 11 (.bin .num .neq (.t 12) (.c (.int .i64 0))),
 oP 14 (.pick (.t 11) (.c (.bool true)) (.t 13))]) (.cond (.t 14) (.seq (.region false [oP 15 (.call (.f 109) []),
 ⟨none, .store 7 (.t 8) (.t 15), none, false⟩]) .ret) .skip)) (.seq (.region false [oP 16 (.load true 3 (.t 4)),
 oP 17 (.load true 3 (.t 6)),
 oP 18 (.build [(.bool false), .nil, (.int .i64 0), (.bool false), .nil, (.int .i64 0), (.bool false)] [(0, 3, (.t 16)), (3, 3, (.t 17))]),
 ⟨none, .store 7 (.t 8) (.t 18), none, false⟩]) .ret))),
 false, false⟩

/- dyadic_Neg -/
@[simp] def c_dyadic_Neg : AFn := ⟨[(.cell 2 true 3)],
 (.seq (.region false [oP 1 (.box 3 (.t 0)),
 oP 2 (.new 3 (.agg [(.bool false), .nil, (.int .i64 0)]))]) (.seq (.seq (.region false [oP 3 (.load true 3 (.t 1)),
 oP 4 (.call (.f 51) [(.t 3)]),
 oP 5 (.un .not (.t 4)),
 mV 6 5,
 gF 7 6 (.faddr 1 (.t 1)),
 gF 8 6 (.load false 1 (.t 7)),
 gF 9 6 (.len (.t 8)),
 gF 10 6 (.bin .num .eql (.t 9) (.c (.int .i64 0))),
 oP 11 (.pick (.t 6) (.c (.bool true)) (.t 10))]) (.cond (.t 11) (.seq (.region false [oP 12 (.build [(.bool false), .nil, (.int .i64 0)] []),
 ⟨none, .store 3 (.t 2) (.t 12), none, false⟩]) .ret) .skip)) (.seq (.region true [oP 13 (.faddr 0 (.t 1)),
 oP 14 (.load false 1 (.t 13)),
 oP 15 (.un .not (.t 14)),
 oP 16 (.faddr 1 (.t 1)),
 oP 17 (.load false 1 (.t 16)),
 oP 18 (.call (.f 221) [(.t 17)]),
 oP 19 (.faddr 2 (.t 1)),
 oP 20 (.load false 1 (.t 19)),
 oP 21 (.build [(.bool false), .nil, (.int .i64 0)] [(0, 1, (.t 15)), (1, 1, (.t 18)), (2, 1, (.t 20))]),
 ⟨none, .store 3 (.t 2) (.t 21), none, true⟩]) .ret))),
 false, false⟩

/- round_Down -/
@[simp] def c_round_Down : AFn := ⟨[(.cell 4 true 3), (.tmp 5)],
 (.seq (.region false [oP 2 (.box 3 (.t 0)),
 oP 4 (.new 3 (.agg [(.bool false), .nil, (.int .i64 0)])),
 oP 5 (.mv (.c (.int .i64 0)))]) (.seq (.region false [oP 6 (.load true 3 (.t 2)),
 mV 7 1,
 oP 8 (.call (.f 222) [(.t 6), (.t 7), (.c (.bool false))]),
 oP 9 (.extract 0 (.t 8)),
 oP 10 (.extract 1 (.t 8)),
 ⟨none, .store 3 (.t 4) (.t 9), none, false⟩,
 mV 5 10]) .ret)),
 false, false⟩

/- round_Up -/
@[simp] def c_round_Up : AFn := ⟨[(.cell 4 true 3), (.tmp 5)],
 (.seq (.region false [oP 2 (.box 3 (.t 0)),
 oP 4 (.new 3 (.agg [(.bool false), .nil, (.int .i64 0)])),
 oP 5 (.mv (.c (.int .i64 0)))]) (.seq (.region false [oP 6 (.load true 3 (.t 2)),
 mV 7 1,
 oP 8 (.call (.f 222) [(.t 6), (.t 7), (.c (.bool true))]),
 oP 9 (.extract 0 (.t 8)),
 oP 10 (.extract 1 (.t 8)),
 ⟨none, .store 3 (.t 4) (.t 9), none, false⟩,
 mV 5 10]) .ret)),
 false, false⟩

/- dyadic_Scale -/
@[simp] def c_dyadic_Scale : AFn := ⟨[(.cell 4 true 3), (.tmp 5)],
 (.seq (.region false [oP 2 (.box 3 (.t 0)),
 oP 4 (.new 3 (.agg [(.bool false), .nil, (.int .i64 0)])),
 oP 5 (.mv (.c (.int .i64 0)))]) (.seq (.seq (.region false [oP 6 (.load true 3 (.t 2)),
 oP 7 (.call (.f 51) [(.t 6)]),
 oP 8 (.un .not (.t 7)),
 mV 9 8,
 gF 10 9 (.mv (.t 1)),
 gF 11 9 (.call (.f 223) [(.t 10)]),
 gF 12 9 (.un .not (.t 11)),
 oP 13 (.pick (.t 9) (.c (.bool true)) (.t 12))]) (.cond (.t 13) (.seq (.region false [oP 14 (.build [(.bool false), .nil, (.int .i64 0)] []),
 ⟨none, .store 3 (.t 4) (.t 14), none, false⟩,
 oP 5 (.mv (.c (.int .i64 1)))]) .ret) .skip)) (.seq (.region false [oP 15 (.faddr 0 (.t 2)),
 oP 16 (.load false 1 (.t 15)),
 oP 17 (.faddr 1 (.t 2)),
 oP 18 (.load false 1 (.t 17)),
 oP 19 (.faddr 2 (.t 2)),
 oP 20 (.load false 1 (.t 19)),
 mV 21 1,
 oP 22 (.bin .num .add (.t 20) (.t 21)),
 oP 23 (.call (.f 225) [(.t 16), (.t 18), (.t 22)]),
 oP 24 (.call (.f 224) [(.t 23)]),
 oP 25 (.extract 0 (.t 24)),
 oP 26 (.extract 1 (.t 24)),
 ⟨none, .store 3 (.t 4) (.t 25), none, false⟩,
 mV 5 26]) .ret))),
 false, false⟩

/- dyadic_Abs -/
@[simp] def c_dyadic_Abs : AFn := ⟨[(.cell 2 true 3)],
 (.seq (.region false [oP 1 (.box 3 (.t 0)),
 oP 2 (.new 3 (.agg [(.bool false), .nil, (.int .i64 0)]))]) (.seq (.seq (.region false [oP 3 (.load true 3 (.t 1)),
 oP 4 (.call (.f 51) [(.t 3)]),
 oP 5 (.un .not (.t 4)),
 mV 6 5,
 gF 7 6 (.faddr 1 (.t 1)),
 gF 8 6 (.load false 1 (.t 7)),
 gF 9 6 (.len (.t 8)),
 gF 10 6 (.bin .num .eql (.t 9) (.c (.int .i64 0))),
 oP 11 (.pick (.t 6) (.c (.bool true)) (.t 10))]) (.cond (.t 11) (.seq (.region false [oP 12 (.build [(.bool false), .nil, (.int .i64 0)] []),
 ⟨none, .store 3 (.t 2) (.t 12), none, false⟩]) .ret) .skip)) (.seq (.region true [oP 13 (.faddr 1 (.t 1)),
 oP 14 (.load false 1 (.t 13)),
 oP 15 (.call (.f 221) [(.t 14)]),
 oP 16 (.faddr 2 (.t 1)),
 oP 17 (.load false 1 (.t 16)),
 oP 18 (.build [(.bool false), .nil, (.int .i64 0)] [(1, 1, (.t 15)), (2, 1, (.t 17))]),
 ⟨none, .store 3 (.t 2) (.t 18), none, true⟩]) .ret))),
 false, false⟩

/- round_SqrtDown -/
@[simp] def c_round_SqrtDown : AFn := ⟨[(.cell 4 true 3), (.tmp 5)],
 (.seq (.region false [oP 2 (.box 3 (.t 0)),
 oP 4 (.new 3 (.agg [(.bool false), .nil, (.int .i64 0)])),
 oP 5 (.mv (.c (.int .i64 0)))]) (.seq (.region false [oP 6 (.load true 3 (.t 2)),
 mV 7 1,
 oP 8 (.call (.f 230) [(.t 6), (.t 7), (.c (.bool false))]),
 oP 9 (.extract 0 (.t 8)),
 oP 10 (.extract 1 (.t 8)),
 ⟨none, .store 3 (.t 4) (.t 9), none, false⟩,
 mV 5 10]) .ret)),
 false, false⟩

/- round_SqrtUp -/
@[simp] def c_round_SqrtUp : AFn := ⟨[(.cell 4 true 3), (.tmp 5)],
 (.seq (.region false [oP 2 (.box 3 (.t 0)),
 oP 4 (.new 3 (.agg [(.bool false), .nil, (.int .i64 0)])),
 oP 5 (.mv (.c (.int .i64 0)))]) (.seq (.region false [oP 6 (.load true 3 (.t 2)),
 mV 7 1,
 oP 8 (.call (.f 230) [(.t 6), (.t 7), (.c (.bool true))]),
 oP 9 (.extract 0 (.t 8)),
 oP 10 (.extract 1 (.t 8)),
 ⟨none, .store 3 (.t 4) (.t 9), none, false⟩,
 mV 5 10]) .ret)),
 false, false⟩

/- dyadic_Int -/
@[simp] def c_dyadic_Int : AFn := ⟨[(.cell 2 true 3)],
 (.seq (.region false [oP 2 (.new 3 (.agg [(.bool false), .nil, (.int .i64 0)]))]) (.seq (.region false [mV 4 0,
 oP 5 (.conv .u64 (.t 4)),
 mV 3 5]) (.seq (.seq (.region false [mV 6 0,
 oP 7 (.bin .num .lss (.t 6) (.c (.int .i64 0)))]) (.cond (.t 7) (.region false [mV 8 3,
 oP 9 (.un .neg (.t 8)),
 mV 3 9]) .skip)) (.seq (.region false [mV 10 0,
 oP 11 (.bin .num .lss (.t 10) (.c (.int .i64 0))),
 mV 12 3,
 oP 13 (.conv .u32 (.t 12)),
 mV 14 3,
 oP 15 (.bin .num .shr (.t 14) (.c (.int .u64 32))),
 oP 16 (.conv .u32 (.t 15)),
 oP 17 (.bslice 1 2 (.int .u32 0) [(0, (.t 13)), (1, (.t 16))]),
 oP 18 (.call (.f 225) [(.t 11), (.t 17), (.c (.int .i64 0))]),
 ⟨none, .store 3 (.t 2) (.t 18), none, false⟩]) .ret)))),
 false, false⟩

/- interval_end -/
@[simp] def c_interval_end : AFn := ⟨[(.cell 8 true 3), (.tmp 9)],
 (.seq (.region false [oP 4 (.box 3 (.t 0)),
 oP 8 (.new 3 (.agg [(.bool false), .nil, (.int .i64 0)])),
 oP 9 (.mv (.c (.int .i64 0)))]) (.seq (.seq (.region false [oP 12 (.load true 3 (.t 4)),
 oP 13 (.call (.f 79) [(.t 12)]),
 oP 14 (.bin .num .lss (.t 13) (.c (.int .i64 0)))]) (.cond (.t 14) (.seq (.region false [oP 16 (.load true 3 (.t 4)),
 oP 17 (.call (.f 198) [(.t 16)]),
 mV 18 1,
 mV 19 2,
 mV 20 3,
 oP 21 (.un .not (.t 20)),
 oP 22 (.call (.f 211) [(.t 17), (.t 18), (.t 19), (.t 21)]),
 mV 15 22,
 oP 23 (.extract 0 (.t 15)),
 oP 24 (.extract 1 (.t 15)),
 oP 10 (.new 3 (.agg [(.bool false), .nil, (.int .i64 0)])),
 ⟨none, .store 3 (.t 10) (.t 23), none, false⟩,
 mV 11 24]) (.seq (.region false [oP 25 (.load true 3 (.t 10)),
 oP 26 (.call (.f 198) [(.t 25)]),
 mV 27 11,
 ⟨none, .store 3 (.t 8) (.t 26), none, false⟩,
 mV 9 27]) .ret)) .skip)) (.seq (.seq (.region false [mV 28 3]) (.cond (.t 28) (.seq (.region false [oP 29 (.load true 3 (.t 4)),
 mV 30 1,
 mV 31 2,
 oP 32 (.call (.f 234) [(.t 29), (.t 30), (.t 31), (.f 200), (.f 192)]),
 oP 33 (.extract 0 (.t 32)),
 oP 34 (.extract 1 (.t 32)),
 ⟨none, .store 3 (.t 8) (.t 33), none, false⟩,
 mV 9 34]) .ret) .skip)) (.seq (.region false [oP 35 (.load true 3 (.t 4)),
 mV 36 1,
 mV 37 2,
 oP 38 (.call (.f 234) [(.t 35), (.t 36), (.t 37), (.f 199), (.f 191)]),
 oP 39 (.extract 0 (.t 38)),
 oP 40 (.extract 1 (.t 38)),
 ⟨none, .store 3 (.t 8) (.t 39), none, false⟩,
 mV 9 40]) .ret)))),
 false, false⟩

/- round_add -/
@[simp] def c_round_add : AFn := ⟨[(.cell 8 true 3), (.tmp 9)],
 (.seq (.region false [oP 4 (.box 3 (.t 0)),
 oP 5 (.box 3 (.t 1)),
 oP 8 (.new 3 (.agg [(.bool false), .nil, (.int .i64 0)])),
 oP 9 (.mv (.c (.int .i64 0)))]) (.seq (.seq (.region false [mV 13 2,
 oP 14 (.load true 3 (.t 4)),
 oP 15 (.load true 3 (.t 5)),
 oP 16 (.bslice 3 2 (.agg [(.bool false), .nil, (.int .i64 0)]) [(0, (.t 14)), (1, (.t 15))]),
 oP 17 (.call (.f 235) [(.t 13), (.t 16)]),
 mV 10 17]) (.seq (.region false [mV 18 10,
 oP 19 (.bin .num .neq (.t 18) (.c (.int .i64 0)))]) (.cond (.t 19) (.seq (.region false [oP 20 (.build [(.bool false), .nil, (.int .i64 0)] []),
 mV 21 10,
 ⟨none, .store 3 (.t 8) (.t 20), none, false⟩,
 mV 9 21]) .ret) .skip))) (.seq (.block 0 (.seq (.region false [oP 23 (.faddr 1 (.t 4)),
 oP 24 (.load false 1 (.t 23)),
 oP 25 (.len (.t 24)),
 oP 26 (.bin .num .eql (.t 25) (.c (.int .i64 0))),
 mV 22 26]) (.cond (.t 22) (.seq (.region false [oP 27 (.load true 3 (.t 5)),
 mV 28 2,
 mV 29 3,
 oP 30 (.call (.f 222) [(.t 27), (.t 28), (.t 29)]),
 oP 31 (.extract 0 (.t 30)),
 oP 32 (.extract 1 (.t 30)),
 ⟨none, .store 3 (.t 8) (.t 31), none, false⟩,
 mV 9 32]) .ret) (.seq (.region false [oP 34 (.faddr 1 (.t 5)),
 oP 35 (.load false 1 (.t 34)),
 oP 36 (.len (.t 35)),
 oP 37 (.bin .num .eql (.t 36) (.c (.int .i64 0))),
 mV 33 37]) (.cond (.t 33) (.seq (.region false [oP 38 (.load true 3 (.t 4)),
 mV 39 2,
 mV 40 3,
 oP 41 (.call (.f 222) [(.t 38), (.t 39), (.t 40)]),
 oP 42 (.extract 0 (.t 41)),
 oP 43 (.extract 1 (.t 41)),
 ⟨none, .store 3 (.t 8) (.t 42), none, false⟩,
 mV 9 43]) .ret) .skip))))) (.seq (.seq (.region true [oP 44 (.load true 3 (.t 4)),
 oP 45 (.call (.f 98) [(.t 44)]),
 oP 46 (.load true 3 (.t 5)),
 oS 47 (.call (.f 98) [(.t 46)]),
 oP 48 (.bin .num .lss (.t 45) (.t 47))]) (.cond (.t 48) (.region false [oP 49 (.load true 3 (.t 5)),
 oP 50 (.load true 3 (.t 4)),
 ⟨none, .store 3 (.t 4) (.t 49), none, false⟩,
 ⟨none, .store 3 (.t 5) (.t 50), none, false⟩]) .skip)) (.seq (.region false [oP 52 (.load true 3 (.t 4)),
 oP 53 (.load true 3 (.t 5)),
 mV 54 2,
 oP 55 (.call (.f 236) [(.t 52), (.t 53), (.t 54)]),
 mV 51 55,
 oP 56 (.extract 0 (.t 51)),
 oP 57 (.extract 1 (.t 51)),
 oP 11 (.new 3 (.agg [.nil, (.int .i64 0), (.bool false)])),
 ⟨none, .store 3 (.t 11) (.t 56), none, false⟩,
 mV 12 57]) (.seq (.seq (.region false [oP 58 (.faddr 0 (.t 11)),
 oP 59 (.load false 1 (.t 58)),
 oP 60 (.len (.t 59)),
 oP 61 (.bin .num .eql (.t 60) (.c (.int .i64 0))),
 mV 62 61,
 gT 63 62 (.faddr 2 (.t 11)),
 gT 64 62 (.load false 1 (.t 63)),
 gT 65 62 (.un .not (.t 64)),
 oP 66 (.pick (.t 62) (.t 65) (.c (.bool false)))]) (.cond (.t 66) (.seq (.region false [oP 67 (.build [(.bool false), .nil, (.int .i64 0)] []),
 ⟨none, .store 3 (.t 8) (.t 67), none, false⟩,
 oP 9 (.mv (.c (.int .i64 0)))]) .ret) .skip)) (.seq (.region false [oP 68 (.faddr 0 (.t 4)),
 oP 69 (.load false 1 (.t 68)),
 mV 70 12,
 oP 71 (.bin .bool .neq (.t 69) (.t 70)),
 oP 72 (.load true 3 (.t 11)),
 mV 73 2,
 mV 74 3,
 oP 75 (.call (.f 237) [(.t 71), (.t 72), (.t 73), (.t 74)]),
 oP 76 (.extract 0 (.t 75)),
 oP 77 (.extract 1 (.t 75)),
 ⟨none, .store 3 (.t 8) (.t 76), none, false⟩,
 mV 9 77]) .ret))))))),
 false, false⟩

/- round_mul -/
@[simp] def c_round_mul : AFn := ⟨[(.cell 8 true 3), (.tmp 9)],
 (.seq (.region false [oP 4 (.box 3 (.t 0)),
 oP 5 (.box 3 (.t 1)),
 oP 8 (.new 3 (.agg [(.bool false), .nil, (.int .i64 0)])),
 oP 9 (.mv (.c (.int .i64 0)))]) (.seq (.seq (.region false [mV 13 2,
 oP 14 (.load true 3 (.t 4)),
 oP 15 (.load true 3 (.t 5)),
 oP 16 (.bslice 3 2 (.agg [(.bool false), .nil, (.int .i64 0)]) [(0, (.t 14)), (1, (.t 15))]),
 oP 17 (.call (.f 235) [(.t 13), (.t 16)]),
 mV 10 17]) (.seq (.region false [mV 18 10,
 oP 19 (.bin .num .neq (.t 18) (.c (.int .i64 0)))]) (.cond (.t 19) (.seq (.region false [oP 20 (.build [(.bool false), .nil, (.int .i64 0)] []),
 mV 21 10,
 ⟨none, .store 3 (.t 8) (.t 20), none, false⟩,
 mV 9 21]) .ret) .skip))) (.seq (.seq (.region false [oP 22 (.faddr 1 (.t 4)),
 oP 23 (.load false 1 (.t 22)),
 oP 24 (.len (.t 23)),
 oP 25 (.bin .num .eql (.t 24) (.c (.int .i64 0))),
 mV 26 25,
 gF 27 26 (.faddr 1 (.t 5)),
 gF 28 26 (.load false 1 (.t 27)),
 gF 29 26 (.len (.t 28)),
 gF 30 26 (.bin .num .eql (.t 29) (.c (.int .i64 0))),
 oP 31 (.pick (.t 26) (.c (.bool true)) (.t 30))]) (.cond (.t 31) (.seq (.region false [oP 32 (.build [(.bool false), .nil, (.int .i64 0)] []),
 ⟨none, .store 3 (.t 8) (.t 32), none, false⟩,
 oP 9 (.mv (.c (.int .i64 0)))]) .ret) .skip)) (.seq (.region false [oP 34 (.faddr 1 (.t 4)),
 oP 35 (.load false 1 (.t 34)),
 oP 36 (.faddr 1 (.t 5)),
 oP 37 (.load false 1 (.t 36)),
 oP 38 (.call (.f 238) [(.t 35), (.t 37)]),
 mV 33 38,
 oP 39 (.extract 0 (.t 33)),
 oP 40 (.extract 1 (.t 33)),
 mV 11 39,
 mV 12 40]) (.seq (.region false [oP 41 (.faddr 0 (.t 4)),
 oP 42 (.load false 1 (.t 41)),
 oP 43 (.faddr 0 (.t 5)),
 oP 44 (.load false 1 (.t 43)),
 oP 45 (.bin .bool .neq (.t 42) (.t 44)),
 mV 46 11,
 oP 47 (.faddr 2 (.t 4)),
 oP 48 (.load false 1 (.t 47)),
 oP 49 (.faddr 2 (.t 5)),
 oP 50 (.load false 1 (.t 49)),
 oP 51 (.bin .num .add (.t 48) (.t 50)),
 oP 52 (.build [.nil, (.int .i64 0), (.bool false)] [(0, 1, (.t 46)), (1, 1, (.t 51))]),
 mV 53 2,
 mV 54 3,
 oP 55 (.call (.f 237) [(.t 45), (.t 52), (.t 53), (.t 54)]),
 oP 56 (.extract 0 (.t 55)),
 oP 57 (.extract 1 (.t 55)),
 ⟨none, .store 3 (.t 8) (.t 56), none, false⟩,
 mV 9 57]) .ret))))),
 false, false⟩

/- round_div -/
@[simp] def c_round_div : AFn := ⟨[(.cell 8 true 3), (.tmp 9)],
 (.seq (.region false [oP 4 (.box 3 (.t 0)),
 oP 5 (.box 3 (.t 1)),
 oP 8 (.new 3 (.agg [(.bool false), .nil, (.int .i64 0)])),
 oP 9 (.mv (.c (.int .i64 0)))]) (.seq (.seq (.region false [mV 15 2,
 oP 16 (.load true 3 (.t 4)),
 oP 17 (.load true 3 (.t 5)),
 oP 18 (.bslice 3 2 (.agg [(.bool false), .nil, (.int .i64 0)]) [(0, (.t 16)), (1, (.t 17))]),
 oP 19 (.call (.f 235) [(.t 15), (.t 18)]),
 mV 10 19]) (.seq (.region false [mV 20 10,
 oP 21 (.bin .num .neq (.t 20) (.c (.int .i64 0)))]) (.cond (.t 21) (.seq (.region false [oP 22 (.build [(.bool false), .nil, (.int .i64 0)] []),
 mV 23 10,
 ⟨none, .store 3 (.t 8) (.t 22), none, false⟩,
 mV 9 23]) .ret) .skip))) (.seq (.block 0 (.seq (.region false [oP 25 (.faddr 1 (.t 5)),
 oP 26 (.load false 1 (.t 25)),
 oP 27 (.len (.t 26)),
 oP 28 (.bin .num .eql (.t 27) (.c (.int .i64 0))),
 mV 24 28]) (.cond (.t 24) (.seq (.region false [oP 29 (.build [(.bool false), .nil, (.int .i64 0)] []),
 ⟨none, .store 3 (.t 8) (.t 29), none, false⟩,
 oP 9 (.mv (.c (.int .i64 10)))]) .ret) (.seq (.region false [oP 31 (.faddr 1 (.t 4)),
 oP 32 (.load false 1 (.t 31)),
 oP 33 (.len (.t 32)),
 oP 34 (.bin .num .eql (.t 33) (.c (.int .i64 0))),
 mV 30 34]) (.cond (.t 30) (.seq (.region false [oP 35 (.build [(.bool false), .nil, (.int .i64 0)] []),
 ⟨none, .store 3 (.t 8) (.t 35), none, false⟩,
 oP 9 (.mv (.c (.int .i64 0)))]) .ret) .skip))))) (.seq (.region true [mV 36 2,
 oP 37 (.bin .num .add (.t 36) (.c (.int .i64 3))),
 oP 38 (.load true 3 (.t 5)),
 oP 39 (.call (.f 239) [(.t 38)]),
 oP 40 (.bin .num .add (.t 37) (.t 39)),
 oP 41 (.load true 3 (.t 4)),
 oS 42 (.call (.f 239) [(.t 41)]),
 oP 43 (.bin .num .sub (.t 40) (.t 42)),
 oP 44 (.max (.c (.int .i64 0)) (.t 43)),
 mV 11 44]) (.seq (.region true [oP 46 (.faddr 1 (.t 4)),
 oP 47 (.load false 1 (.t 46)),
 mV 48 11,
 oP 49 (.call (.f 241) [(.t 47), (.t 48)]),
 oP 50 (.faddr 1 (.t 5)),
 oP 51 (.load false 1 (.t 50)),
 oS 52 (.call (.f 240) [(.t 49), (.t 51)]),
 mV 45 52,
 oP 53 (.extract 0 (.t 45)),
 oP 54 (.extract 1 (.t 45)),
 oP 55 (.extract 2 (.t 45)),
 mV 12 53,
 mV 13 54,
 mV 14 55]) (.seq (.region true [oP 56 (.faddr 0 (.t 4)),
 oP 57 (.load false 1 (.t 56)),
 oP 58 (.faddr 0 (.t 5)),
 oP 59 (.load false 1 (.t 58)),
 oP 60 (.bin .bool .neq (.t 57) (.t 59)),
 mV 61 12,
 oP 62 (.faddr 2 (.t 4)),
 oP 63 (.load false 1 (.t 62)),
 mV 64 11,
 oP 65 (.bin .num .sub (.t 63) (.t 64)),
 oP 66 (.faddr 2 (.t 5)),
 oP 67 (.load false 1 (.t 66)),
 oP 68 (.bin .num .sub (.t 65) (.t 67)),
 mV 69 13,
 oP 70 (.call (.f 110) [(.t 69)]),
 oP 71 (.bin .num .gtr (.t 70) (.c (.int .i64 0))),
 oP 72 (.build [.nil, (.int .i64 0), (.bool false)] [(0, 1, (.t 61)), (1, 1, (.t 68)), (2, 1, (.t 71))]),
 mV 73 2,
 mV 74 3,
 oS 75 (.call (.f 237) [(.t 60), (.t 72), (.t 73), (.t 74)]),
 oP 76 (.extract 0 (.t 75)),
 oP 77 (.extract 1 (.t 75)),
 ⟨none, .store 3 (.t 8) (.t 76), none, true⟩,
 mV 9 77]) .ret)))))),
 false, false⟩

/- fpref03_fault -/
@[simp] def c_fpref03_fault : AFn := ⟨[(.tmp 6)],
 (.seq (.region false [oP 3 (.box 3 (.t 0)),
 oP 4 (.box 3 (.t 1)),
 oP 6 (.mv (.c (.int .i64 0)))]) (.seq (.seq (.region false [oP 7 (.load true 3 (.t 3)),
 oP 8 (.call (.f 12) [(.t 7)]),
 oP 9 (.un .not (.t 8)),
 mV 10 9,
 gF 11 10 (.load true 3 (.t 4)),
 gF 12 10 (.call (.f 12) [(.t 11)]),
 gF 13 10 (.un .not (.t 12)),
 oP 14 (.pick (.t 10) (.c (.bool true)) (.t 13))]) (.cond (.t 14) (.seq (.region false [oP 6 (.mv (.c (.int .i64 1)))]) .ret) .skip)) (.seq (.seq (.region false [mV 15 2,
 oP 16 (.call (.f 242) [(.t 15)]),
 oP 17 (.un .not (.t 16))]) (.cond (.t 17) (.seq (.region false [oP 6 (.mv (.c (.int .i64 2)))]) .ret) .skip)) (.seq (.region false [oP 6 (.mv (.c (.int .i64 0)))]) .ret)))),
 false, false⟩

/- fpref03_exact -/
@[simp] def c_fpref03_exact : AFn := ⟨[(.cell 6 true 3), (.tmp 7)],
 (.seq (.region false [oP 3 (.box 3 (.t 0)),
 oP 6 (.new 3 (.agg [(.bool false), .nil, (.int .i64 0)])),
 oP 7 (.mv (.c (.int .i64 0)))]) (.seq (.region false [oP 8 (.faddr 0 (.t 3)),
 oP 9 (.load false 1 (.t 8)),
 oP 10 (.faddr 1 (.t 3)),
 oP 11 (.load false 1 (.t 10)),
 oP 12 (.faddr 2 (.t 3)),
 oP 13 (.load false 1 (.t 12)),
 mV 14 1,
 mV 15 2,
 oP 16 (.call (.f 229) [(.t 9), (.t 11), (.t 13), (.c (.bool false)), (.t 14), (.t 15)]),
 oP 17 (.extract 0 (.t 16)),
 oP 18 (.extract 1 (.t 16)),
 ⟨none, .store 3 (.t 6) (.t 17), none, false⟩,
 mV 7 18]) .ret)),
 false, false⟩

/- slices_Clone_uint32 -/
@[simp] def c_slices_Clone_uint32 : AFn := ⟨[(.tmp 2)],
 (.seq (.region false [oP 2 (.mv (.c .nil))]) (.seq (.seq (.region false [mV 3 0,
 oP 4 (.bin .slice .eql (.t 3) (.c .nil))]) (.cond (.t 4) (.seq (.region false [oP 2 (.mv (.c .nil))]) .ret) .skip)) (.seq (.region false [oP 5 (.bslice 1 0 (.int .u32 0) []),
 mV 6 0,
 oP 7 (.append 1 4 (.t 5) (.t 6)),
 mV 2 7]) .ret))),
 false, false⟩

/- round_round -/
@[simp] def c_round_round : AFn := ⟨[(.cell 6 true 3), (.tmp 7)],
 (.seq (.region false [oP 3 (.box 3 (.t 0)),
 oP 6 (.new 3 (.agg [(.bool false), .nil, (.int .i64 0)])),
 oP 7 (.mv (.c (.int .i64 0)))]) (.seq (.seq (.region false [mV 9 1,
 oP 10 (.load true 3 (.t 3)),
 oP 11 (.bslice 3 1 (.agg [(.bool false), .nil, (.int .i64 0)]) [(0, (.t 10))]),
 oP 12 (.call (.f 235) [(.t 9), (.t 11)]),
 mV 8 12]) (.seq (.region false [mV 13 8,
 oP 14 (.bin .num .neq (.t 13) (.c (.int .i64 0)))]) (.cond (.t 14) (.seq (.region false [oP 15 (.build [(.bool false), .nil, (.int .i64 0)] []),
 mV 16 8,
 ⟨none, .store 3 (.t 6) (.t 15), none, false⟩,
 mV 7 16]) .ret) .skip))) (.seq (.region true [oP 17 (.faddr 0 (.t 3)),
 oP 18 (.load false 1 (.t 17)),
 oP 19 (.load true 3 (.t 3)),
 oP 20 (.call (.f 243) [(.t 19)]),
 mV 21 1,
 mV 22 2,
 oS 23 (.call (.f 237) [(.t 18), (.t 20), (.t 21), (.t 22)]),
 oP 24 (.extract 0 (.t 23)),
 oP 25 (.extract 1 (.t 23)),
 ⟨none, .store 3 (.t 6) (.t 24), none, true⟩,
 mV 7 25]) .ret))),
 false, false⟩

/- dyadic_exponent -/
@[simp] def c_dyadic_exponent : AFn := ⟨[(.tmp 2)],
 (.seq (.region false [oP 2 (.mv (.c (.bool false)))]) (.seq (.region false [mV 3 0,
 oP 4 (.bin .num .geq (.t 3) (.c (.int .i64 (-32768)))),
 mV 5 4,
 gT 6 5 (.mv (.t 0)),
 gT 7 5 (.bin .num .leq (.t 6) (.c (.int .i64 32768))),
 oP 8 (.pick (.t 5) (.t 7) (.c (.bool false))),
 mV 2 8]) .ret)),
 false, false⟩

/- dyadic_checked -/
@[simp] def c_dyadic_checked : AFn := ⟨[(.cell 2 true 3), (.tmp 3)],
 (.seq (.region false [oP 1 (.box 3 (.t 0)),
 oP 2 (.new 3 (.agg [(.bool false), .nil, (.int .i64 0)])),
 oP 3 (.mv (.c (.int .i64 0)))]) (.seq (.seq (.region false [oP 4 (.load true 3 (.t 1)),
 oP 5 (.call (.f 78) [(.t 4)]),
 oP 6 (.un .not (.t 5))]) (.cond (.t 6) (.seq (.region false [oP 7 (.build [(.bool false), .nil, (.int .i64 0)] []),
 ⟨none, .store 3 (.t 2) (.t 7), none, false⟩,
 oP 3 (.mv (.c (.int .i64 9)))]) .ret) .skip)) (.seq (.region false [oP 8 (.load true 3 (.t 1)),
 ⟨none, .store 3 (.t 2) (.t 8), none, false⟩,
 oP 3 (.mv (.c (.int .i64 0)))]) .ret))),
 false, false⟩

/- dyadic_canonical -/
@[simp] def c_dyadic_canonical : AFn := ⟨[(.cell 6 true 3)],
 (.seq (.region false [oP 6 (.new 3 (.agg [(.bool false), .nil, (.int .i64 0)]))]) (.seq (.region false [mV 10 1,
 oP 11 (.call (.f 244) [(.t 10)]),
 mV 1 11]) (.seq (.seq (.region false [mV 12 1,
 oP 13 (.len (.t 12)),
 oP 14 (.bin .num .eql (.t 13) (.c (.int .i64 0)))]) (.cond (.t 14) (.seq (.region false [oP 15 (.build [(.bool false), .nil, (.int .i64 0)] []),
 ⟨none, .store 3 (.t 6) (.t 15), none, false⟩]) .ret) .skip)) (.seq (.region false [mV 16 1,
 oP 17 (.call (.f 245) [(.t 16)]),
 mV 7 17]) (.seq (.region false [mV 19 1,
 mV 20 7,
 oP 21 (.call (.f 246) [(.t 19), (.t 20)]),
 mV 18 21,
 oP 22 (.extract 0 (.t 18)),
 oP 23 (.extract 1 (.t 18)),
 mV 8 22,
 mV 9 23]) (.seq (.region false [mV 24 0,
 mV 25 8,
 oP 26 (.call (.f 221) [(.t 25)]),
 oP 27 (.call (.f 119) [(.t 26)]),
 mV 28 2,
 mV 29 7,
 oP 30 (.bin .num .add (.t 28) (.t 29)),
 oP 31 (.build [(.bool false), .nil, (.int .i64 0)] [(0, 1, (.t 24)), (1, 1, (.t 27)), (2, 1, (.t 30))]),
 ⟨none, .store 3 (.t 6) (.t 31), none, false⟩]) .ret)))))),
 false, false⟩

/- fpref01_Bits -/
def c_fpref01_Bits_l0 : AC := (.seq (.seq (.region false [mV 24 5,
 oP 25 (.bin .num .gtr (.t 24) (.c (.int .u32 0)))]) (.cond (.t 25) .skip (.exit 2))) (.seq (.block 3 (.region false [mV 28 4,
 oP 29 (.bin .num .add (.t 28) (.c (.int .i64 1))),
 mV 4 29])) (.region false [mV 26 5,
 oP 27 (.bin .num .shr (.t 26) (.c (.int .u64 1))),
 mV 5 27])))
def c_fpref01_Bits_l1 : AC := (.seq (.seq (.region false [mV 9 3,
 oP 10 (.bin .num .geq (.t 9) (.c (.int .i64 0)))]) (.cond (.t 10) .skip (.exit 0))) (.seq (.block 1 (.seq (.region false [mV 13 0,
 mV 14 3,
 oP 15 (.iaddr 1 (.t 13) (.t 14)),
 oP 16 (.load false 1 (.t 15)),
 oP 17 (.bin .num .neq (.t 16) (.c (.int .u32 0)))]) (.cond (.t 17) (.seq (.region false [mV 18 3,
 oP 19 (.bin .num .mul (.c (.int .i64 32)) (.t 18)),
 mV 4 19]) (.seq (.seq (.region false [mV 20 0,
 mV 21 3,
 oP 22 (.iaddr 1 (.t 20) (.t 21)),
 oP 23 (.load false 1 (.t 22)),
 mV 5 23]) (.block 2 (.loop c_fpref01_Bits_l0))) (.seq (.region false [mV 30 4,
 mV 2 30]) .ret))) .skip))) (.region false [mV 11 3,
 oP 12 (.bin .num .sub (.t 11) (.c (.int .i64 1))),
 mV 3 12])))
@[simp] def c_fpref01_Bits : AFn := ⟨[(.tmp 2)],
 (.seq (.region false [oP 2 (.mv (.c (.int .i64 0)))]) (.seq (.seq (.region false [mV 6 0,
 oP 7 (.len (.t 6)),
 oP 8 (.bin .num .sub (.t 7) (.c (.int .i64 1))),
 mV 3 8]) (.block 0 (.loop c_fpref01_Bits_l1))) (.seq (.region false [oP 2 (.mv (.c (.int .i64 0)))]) .ret))),
 false, false⟩

/- fpref01_Shl -/
def c_fpref01_Shl_l0 : AC := (.seq (.seq (.region false [mV 17 6,
 mV 18 0,
 oP 19 (.len (.t 18)),
 oP 20 (.bin .num .lss (.t 17) (.t 19))]) (.cond (.t 20) .skip (.exit 0))) (.seq (.block 1 (.seq (.region false [mV 23 0,
 mV 24 6,
 oP 25 (.iaddr 1 (.t 23) (.t 24)),
 oP 26 (.load false 1 (.t 25)),
 oP 27 (.conv .u64 (.t 26)),
 mV 28 1,
 oP 29 (.bin .num .rem (.t 28) (.c (.int .i64 32))),
 oP 30 (.bin .num .shl (.t 27) (.t 29)),
 mV 7 30]) (.seq (.region false [mV 31 5,
 mV 32 6,
 mV 33 1,
 oP 34 (.bin .num .quo (.t 33) (.c (.int .i64 32))),
 oP 35 (.bin .num .add (.t 32) (.t 34)),
 mV 36 5,
 mV 37 6,
 mV 38 1,
 oP 39 (.bin .num .quo (.t 38) (.c (.int .i64 32))),
 oP 40 (.bin .num .add (.t 37) (.t 39)),
 oP 41 (.iaddr 1 (.t 36) (.t 40)),
 oP 42 (.load false 1 (.t 41)),
 mV 43 7,
 oP 44 (.bin .num .and (.t 43) (.c (.int .u64 4294967295))),
 oP 45 (.conv .u32 (.t 44)),
 oP 46 (.bin .num .or (.t 42) (.t 45)),
 oP 47 (.iaddr 1 (.t 31) (.t 35)),
 ⟨none, .store 1 (.t 47) (.t 46), none, false⟩]) (.region false [mV 48 5,
 mV 49 6,
 mV 50 1,
 oP 51 (.bin .num .quo (.t 50) (.c (.int .i64 32))),
 oP 52 (.bin .num .add (.t 49) (.t 51)),
 oP 53 (.bin .num .add (.t 52) (.c (.int .i64 1))),
 mV 54 7,
 oP 55 (.bin .num .shr (.t 54) (.c (.int .u64 32))),
 oP 56 (.conv .u32 (.t 55)),
 oP 57 (.iaddr 1 (.t 48) (.t 53)),
 ⟨none, .store 1 (.t 57) (.t 56), none, false⟩])))) (.region false [mV 21 6,
 oP 22 (.bin .num .add (.t 21) (.c (.int .i64 1))),
 mV 6 22])))
@[simp] def c_fpref01_Shl : AFn := ⟨[(.tmp 4)],
 (.seq (.region false [oP 4 (.mv (.c .nil))]) (.seq (.region false [mV 8 0,
 oP 9 (.call (.f 247) [(.t 8)]),
 mV 0 9]) (.seq (.region false [mV 10 1,
 oP 11 (.bin .num .quo (.t 10) (.c (.int .i64 32))),
 mV 12 0,
 oP 13 (.len (.t 12)),
 oP 14 (.bin .num .add (.t 11) (.t 13)),
 oP 15 (.bin .num .add (.t 14) (.c (.int .i64 1))),
 oP 16 (.mkslice 1 4 (.int .u32 0) (.t 15) (.t 15)),
 mV 5 16]) (.seq (.seq (.region false [oP 6 (.mv (.c (.int .i64 0)))]) (.block 0 (.loop c_fpref01_Shl_l0))) (.seq (.region false [mV 58 5,
 oP 59 (.call (.f 247) [(.t 58)]),
 mV 4 59]) .ret))))),
 false, false⟩

end Go.Abs
/- MADE BY A PROGRAM (wip/tools/dump.sh, mkcode.py): the abstract code of the functions that this seat reaches. -/
namespace Go.Abs

/- fpref03_Cut -/
@[simp] def c_fpref03_Cut : AFn := ⟨[(.cell 12 true 3), (.tmp 13)],
 (.seq (.region false [oP 12 (.new 3 (.agg [(.bool false), .nil, (.int .i64 0)])),
 oP 13 (.mv (.c (.int .i64 0)))]) (.seq (.region false [mV 18 1,
 oP 19 (.call (.f 247) [(.t 18)]),
 mV 1 19]) (.seq (.region false [mV 20 1,
 oP 21 (.call (.f 226) [(.t 20)]),
 mV 14 21]) (.seq (.region false [mV 22 14,
 mV 23 4,
 oP 24 (.bin .num .sub (.t 22) (.t 23)),
 mV 25 2,
 oP 26 (.bin .num .sub (.c (.int .i64 (-16384))) (.t 25)),
 oP 27 (.max3 (.t 24) (.t 26) (.c (.int .i64 0))),
 mV 15 27]) (.seq (.region false [mV 28 1,
 mV 29 15,
 oP 30 (.call (.f 250) [(.t 28), (.t 29)]),
 mV 16 30]) (.seq (.seq (.region false [mV 31 15,
 oP 32 (.bin .num .gtr (.t 31) (.c (.int .i64 0))),
 mV 33 32,
 gT 34 33 (.mv (.t 16)),
 gT 35 33 (.mv (.t 15)),
 gT 36 33 (.call (.f 228) [(.t 34), (.t 35)]),
 gT 37 33 (.mv (.t 1)),
 gT 38 33 (.call (.f 232) [(.t 36), (.t 37)]),
 gT 39 33 (.bin .num .neq (.t 38) (.c (.int .i64 0))),
 oP 40 (.pick (.t 33) (.t 39) (.c (.bool false)))]) (.cond (.t 40) (.region false [oP 3 (.mv (.c (.bool true)))]) .skip)) (.seq (.region false [mV 41 0,
 mV 42 5,
 oP 43 (.bin .bool .neq (.t 41) (.t 42)),
 mV 17 43]) (.seq (.seq (.region false [mV 44 3,
 mV 45 44,
 gT 46 45 (.mv (.t 17)),
 oP 47 (.pick (.t 45) (.t 46) (.c (.bool false)))]) (.cond (.t 47) (.region false [mV 48 16,
 oP 49 (.bslice 1 1 (.int .u32 0) [(0, (.c (.int .u32 1)))]),
 oP 50 (.call (.f 251) [(.t 48), (.t 49)]),
 mV 16 50]) .skip)) (.seq (.seq (.region false [mV 51 16,
 oP 52 (.call (.f 226) [(.t 51)]),
 oP 53 (.bin .num .gtr (.t 52) (.c (.int .i64 0))),
 mV 54 53,
 gT 55 54 (.mv (.t 16)),
 gT 56 54 (.call (.f 226) [(.t 55)]),
 gT 57 54 (.mv (.t 2)),
 gT 58 54 (.bin .num .add (.t 56) (.t 57)),
 gT 59 54 (.mv (.t 15)),
 gT 60 54 (.bin .num .add (.t 58) (.t 59)),
 gT 61 54 (.bin .num .gtr (.t 60) (.c (.int .i64 16384))),
 oP 62 (.pick (.t 54) (.t 61) (.c (.bool false)))]) (.cond (.t 62) (.seq (.seq (.region false [mV 63 17]) (.cond (.t 63) (.seq (.region false [oP 64 (.build [(.bool false), .nil, (.int .i64 0)] []),
 ⟨none, .store 3 (.t 12) (.t 64), none, false⟩,
 oP 13 (.mv (.c (.int .i64 9)))]) .ret) .skip)) (.seq (.region false [mV 65 0,
 mV 66 4,
 oP 67 (.call (.f 252) [(.t 65), (.t 66)]),
 ⟨none, .store 3 (.t 12) (.t 67), none, false⟩,
 oP 13 (.mv (.c (.int .i64 0)))]) .ret)) .skip)) (.seq (.region false [mV 68 0,
 mV 69 16,
 mV 70 2,
 mV 71 15,
 oP 72 (.bin .num .add (.t 70) (.t 71)),
 oP 73 (.call (.f 85) [(.t 68), (.t 69), (.t 72)]),
 ⟨none, .store 3 (.t 12) (.t 73), none, false⟩,
 oP 13 (.mv (.c (.int .i64 0)))]) .ret)))))))))),
 false, false⟩

/- round_sqrt -/
@[simp] def c_round_sqrt : AFn := ⟨[(.cell 6 true 3), (.tmp 7)],
 (.seq (.region false [oP 3 (.box 3 (.t 0)),
 oP 6 (.new 3 (.agg [(.bool false), .nil, (.int .i64 0)])),
 oP 7 (.mv (.c (.int .i64 0)))]) (.seq (.region false [mV 15 1,
 oP 16 (.load true 3 (.t 3)),
 oP 17 (.bslice 3 1 (.agg [(.bool false), .nil, (.int .i64 0)]) [(0, (.t 16))]),
 oP 18 (.call (.f 235) [(.t 15), (.t 17)]),
 mV 8 18]) (.seq (.seq (.region false [mV 19 8,
 oP 20 (.bin .num .eql (.t 19) (.c (.int .i64 0))),
 mV 21 20,
 gT 22 21 (.faddr 0 (.t 3)),
 gT 23 21 (.load false 1 (.t 22)),
 oP 24 (.pick (.t 21) (.t 23) (.c (.bool false)))]) (.cond (.t 24) (.region false [oP 8 (.mv (.c (.int .i64 2)))]) .skip)) (.seq (.seq (.region false [mV 25 8,
 oP 26 (.bin .num .neq (.t 25) (.c (.int .i64 0))),
 mV 27 26,
 gF 28 27 (.faddr 1 (.t 3)),
 gF 29 27 (.load false 1 (.t 28)),
 gF 30 27 (.len (.t 29)),
 gF 31 27 (.bin .num .eql (.t 30) (.c (.int .i64 0))),
 oP 32 (.pick (.t 27) (.c (.bool true)) (.t 31))]) (.cond (.t 32) (.seq (.region false [oP 33 (.build [(.bool false), .nil, (.int .i64 0)] []),
 mV 34 8,
 ⟨none, .store 3 (.t 6) (.t 33), none, false⟩,
 mV 7 34]) .ret) .skip)) (.seq (.region false [mV 35 1,
 oP 36 (.bin .num .mul (.c (.int .i64 2)) (.t 35)),
 oP 37 (.bin .num .add (.t 36) (.c (.int .i64 4))),
 oP 38 (.load true 3 (.t 3)),
 oP 39 (.call (.f 239) [(.t 38)]),
 oP 40 (.bin .num .sub (.t 37) (.t 39)),
 oP 41 (.max (.c (.int .i64 0)) (.t 40)),
 mV 9 41]) (.seq (.seq (.region false [oP 42 (.faddr 2 (.t 3)),
 oP 43 (.load false 1 (.t 42)),
 mV 44 9,
 oP 45 (.bin .num .sub (.t 43) (.t 44)),
 oP 46 (.bin .num .rem (.t 45) (.c (.int .i64 2))),
 oP 47 (.bin .num .neq (.t 46) (.c (.int .i64 0)))]) (.cond (.t 47) (.region false [mV 48 9,
 oP 49 (.bin .num .add (.t 48) (.c (.int .i64 1))),
 mV 9 49]) .skip)) (.seq (.region false [oP 50 (.faddr 1 (.t 3)),
 oP 51 (.load false 1 (.t 50)),
 mV 52 9,
 oP 53 (.call (.f 241) [(.t 51), (.t 52)]),
 mV 10 53]) (.seq (.region false [mV 55 10,
 oP 56 (.call (.f 253) [(.t 55)]),
 mV 54 56,
 oP 57 (.extract 0 (.t 54)),
 oP 58 (.extract 1 (.t 54)),
 mV 11 57,
 mV 12 58]) (.seq (.region false [mV 60 11,
 mV 61 11,
 oP 62 (.call (.f 238) [(.t 60), (.t 61)]),
 mV 59 62,
 oP 63 (.extract 0 (.t 59)),
 oP 64 (.extract 1 (.t 59)),
 mV 13 63,
 mV 14 64]) (.seq (.region true [mV 65 11,
 oP 66 (.faddr 2 (.t 3)),
 oP 67 (.load false 1 (.t 66)),
 mV 68 9,
 oP 69 (.bin .num .sub (.t 67) (.t 68)),
 oP 70 (.bin .num .quo (.t 69) (.c (.int .i64 2))),
 mV 71 13,
 mV 72 10,
 oP 73 (.call (.f 99) [(.t 71), (.t 72)]),
 oP 74 (.bin .num .neq (.t 73) (.c (.int .i64 0))),
 oP 75 (.build [.nil, (.int .i64 0), (.bool false)] [(0, 1, (.t 65)), (1, 1, (.t 70)), (2, 1, (.t 74))]),
 mV 76 1,
 mV 77 2,
 oS 78 (.call (.f 254) [(.t 75), (.t 76), (.t 77)]),
 oP 79 (.extract 0 (.t 78)),
 oP 80 (.extract 1 (.t 78)),
 ⟨none, .store 3 (.t 6) (.t 79), none, true⟩,
 mV 7 80]) .ret)))))))))),
 false, false⟩

/- fpref01_Cmp -/
def c_fpref01_Cmp_l0 : AC := (.seq (.seq (.region false [mV 12 5,
 oP 13 (.bin .num .geq (.t 12) (.c (.int .i64 0)))]) (.cond (.t 13) .skip (.exit 0))) (.seq (.block 1 (.seq (.seq (.region false [mV 16 0,
 mV 17 5,
 oP 18 (.call (.f 249) [(.t 16), (.t 17)]),
 mV 19 1,
 mV 20 5,
 oP 21 (.call (.f 249) [(.t 19), (.t 20)]),
 oP 22 (.bin .num .lss (.t 18) (.t 21))]) (.cond (.t 22) (.seq (.region false [oP 4 (.mv (.c (.int .i64 (-1))))]) .ret) .skip)) (.seq (.region false [mV 23 0,
 mV 24 5,
 oP 25 (.call (.f 249) [(.t 23), (.t 24)]),
 mV 26 1,
 mV 27 5,
 oP 28 (.call (.f 249) [(.t 26), (.t 27)]),
 oP 29 (.bin .num .gtr (.t 25) (.t 28))]) (.cond (.t 29) (.seq (.region false [oP 4 (.mv (.c (.int .i64 1)))]) .ret) .skip)))) (.region false [mV 14 5,
 oP 15 (.bin .num .sub (.t 14) (.c (.int .i64 1))),
 mV 5 15])))
@[simp] def c_fpref01_Cmp : AFn := ⟨[(.tmp 4)],
 (.seq (.region false [oP 4 (.mv (.c (.int .i64 0)))]) (.seq (.seq (.region false [mV 6 0,
 oP 7 (.len (.t 6)),
 mV 8 1,
 oP 9 (.len (.t 8)),
 oP 10 (.max (.t 7) (.t 9)),
 oP 11 (.bin .num .sub (.t 10) (.c (.int .i64 1))),
 mV 5 11]) (.block 0 (.loop c_fpref01_Cmp_l0))) (.seq (.region false [oP 4 (.mv (.c (.int .i64 0)))]) .ret))),
 false, true⟩

/- interval_power -/
def c_interval_power_l0 : AC := (.seq (.seq (.region false [mV 22 14,
 mV 23 1,
 oP 24 (.bin .num .lss (.t 22) (.t 23)),
 mV 25 24,
 gT 26 25 (.mv (.t 13)),
 gT 27 25 (.bin .num .eql (.t 26) (.c (.int .i64 0))),
 oP 28 (.pick (.t 25) (.t 27) (.c (.bool false)))]) (.cond (.t 28) .skip (.exit 0))) (.seq (.block 1 (.region false [mV 32 4,
 oP 33 (.load true 3 (.t 12)),
 oP 34 (.load true 3 (.t 5)),
 mV 35 2,
 oP 36 (.call (.t 32) [(.t 33), (.t 34), (.t 35)]),
 mV 31 36,
 oP 37 (.extract 0 (.t 31)),
 oP 38 (.extract 1 (.t 31)),
 ⟨none, .store 3 (.t 12) (.t 37), none, false⟩,
 mV 13 38])) (.region false [mV 29 14,
 oP 30 (.bin .num .add (.t 29) (.c (.int .i64 1))),
 mV 14 30])))
@[simp] def c_interval_power : AFn := ⟨[(.cell 10 true 3), (.tmp 11)],
 (.seq (.region false [oP 5 (.box 3 (.t 0)),
 oP 10 (.new 3 (.agg [(.bool false), .nil, (.int .i64 0)])),
 oP 11 (.mv (.c (.int .i64 0)))]) (.seq (.region false [mV 16 3,
 oP 17 (.load true 3 (.t 5)),
 mV 18 2,
 oP 19 (.call (.t 16) [(.t 17), (.t 18)]),
 mV 15 19,
 oP 20 (.extract 0 (.t 15)),
 oP 21 (.extract 1 (.t 15)),
 oP 12 (.new 3 (.agg [(.bool false), .nil, (.int .i64 0)])),
 ⟨none, .store 3 (.t 12) (.t 20), none, false⟩,
 mV 13 21]) (.seq (.seq (.region false [oP 14 (.mv (.c (.int .i64 1)))]) (.block 0 (.loop c_interval_power_l0))) (.seq (.region false [oP 39 (.load true 3 (.t 12)),
 mV 40 13,
 ⟨none, .store 3 (.t 10) (.t 39), none, false⟩,
 mV 11 40]) .ret)))),
 false, false⟩

/- round_fault -/
def c_round_fault_l0 : AC := (.seq (.region false [oP 10 (.bin .num .lss (.t 9) (.t 8))]) (.seq (.cond (.t 10) .skip (.exit 0)) (.seq (.block 1 (.seq (.region false [oP 11 (.iaddr 3 (.t 7) (.t 9)),
 oP 12 (.load true 3 (.t 11)),
 oP 6 (.new 3 (.agg [(.bool false), .nil, (.int .i64 0)])),
 ⟨none, .store 3 (.t 6) (.t 12), none, false⟩]) (.seq (.region false [oP 13 (.load true 3 (.t 6)),
 oP 14 (.call (.f 51) [(.t 13)]),
 oP 15 (.un .not (.t 14))]) (.cond (.t 15) (.seq (.region false [oP 4 (.mv (.c (.int .i64 1)))]) .ret) .skip)))) (.region false [oP 16 (.bin .num .add (.t 9) (.c (.int .i64 1))),
 mV 9 16]))))
@[simp] def c_round_fault : AFn := ⟨[(.tmp 4)],
 (.seq (.region false [oP 4 (.mv (.c (.int .i64 0)))]) (.seq (.seq (.region false [mV 7 1,
 oP 8 (.len (.t 7)),
 oP 9 (.mv (.c (.int .i64 0)))]) (.block 0 (.loop c_round_fault_l0))) (.seq (.seq (.region false [mV 17 0,
 oP 18 (.call (.f 255) [(.t 17)]),
 oP 19 (.un .not (.t 18))]) (.cond (.t 19) (.seq (.region false [oP 4 (.mv (.c (.int .i64 2)))]) .ret) .skip)) (.seq (.region false [oP 4 (.mv (.c (.int .i64 0)))]) .ret)))),
 false, false⟩

/- round_sum -/
@[simp] def c_round_sum : AFn := ⟨[(.cell 6 true 3), (.tmp 7)],
 (.seq (.region false [oP 3 (.box 3 (.t 0)),
 oP 4 (.box 3 (.t 1)),
 oP 6 (.new 3 (.agg [.nil, (.int .i64 0), (.bool false)])),
 oP 7 (.mv (.c (.bool false)))]) (.seq (.region true [oP 18 (.faddr 2 (.t 3)),
 oP 19 (.load false 1 (.t 18)),
 oP 20 (.load true 3 (.t 3)),
 oP 21 (.call (.f 98) [(.t 20)]),
 mV 22 2,
 oP 23 (.bin .num .sub (.t 21) (.t 22)),
 oP 24 (.bin .num .sub (.t 23) (.c (.int .i64 8))),
 oP 25 (.min (.t 19) (.t 24)),
 mV 8 25]) (.seq (.seq (.region true [oP 26 (.load true 3 (.t 3)),
 oP 27 (.call (.f 98) [(.t 26)]),
 oP 28 (.load true 3 (.t 4)),
 oS 29 (.call (.f 98) [(.t 28)]),
 oP 30 (.bin .num .sub (.t 27) (.t 29)),
 oP 31 (.bin .num .leq (.t 30) (.c (.int .i64 2)))]) (.cond (.t 31) (.region false [mV 32 8,
 oP 33 (.faddr 2 (.t 4)),
 oP 34 (.load false 1 (.t 33)),
 oP 35 (.min (.t 32) (.t 34)),
 mV 8 35]) .skip)) (.seq (.region false [oP 36 (.faddr 1 (.t 3)),
 oP 37 (.load false 1 (.t 36)),
 oP 38 (.faddr 2 (.t 3)),
 oP 39 (.load false 1 (.t 38)),
 mV 40 8,
 oP 41 (.bin .num .sub (.t 39) (.t 40)),
 oP 42 (.call (.f 241) [(.t 37), (.t 41)]),
 mV 9 42]) (.seq (.region false [oP 10 (.mv (.c .nil))]) (.seq (.region false [oP 11 (.mv (.c (.bool false)))]) (.seq (.seq (.region false [oP 43 (.faddr 2 (.t 4)),
 oP 44 (.load false 1 (.t 43)),
 mV 45 8,
 oP 46 (.bin .num .geq (.t 44) (.t 45))]) (.cond (.t 46) (.region false [oP 47 (.faddr 1 (.t 4)),
 oP 48 (.load false 1 (.t 47)),
 oP 49 (.faddr 2 (.t 4)),
 oP 50 (.load false 1 (.t 49)),
 mV 51 8,
 oP 52 (.bin .num .sub (.t 50) (.t 51)),
 oP 53 (.call (.f 241) [(.t 48), (.t 52)]),
 mV 10 53]) (.region false [oP 55 (.faddr 1 (.t 4)),
 oP 56 (.load false 1 (.t 55)),
 mV 57 8,
 oP 58 (.faddr 2 (.t 4)),
 oP 59 (.load false 1 (.t 58)),
 oP 60 (.bin .num .sub (.t 57) (.t 59)),
 oP 61 (.call (.f 256) [(.t 56), (.t 60)]),
 mV 54 61,
 oP 62 (.extract 0 (.t 54)),
 oP 63 (.extract 1 (.t 54)),
 mV 10 62,
 mV 11 63]))) (.seq (.seq (.region false [oP 64 (.faddr 0 (.t 3)),
 oP 65 (.load false 1 (.t 64)),
 oP 66 (.faddr 0 (.t 4)),
 oP 67 (.load false 1 (.t 66)),
 oP 68 (.bin .bool .eql (.t 65) (.t 67))]) (.cond (.t 68) (.seq (.region false [mV 70 9,
 mV 71 10,
 oP 72 (.call (.f 257) [(.t 70), (.t 71)]),
 mV 69 72,
 oP 73 (.extract 0 (.t 69)),
 oP 74 (.extract 1 (.t 69)),
 mV 12 73,
 mV 13 74]) (.seq (.region false [mV 75 12,
 mV 76 8,
 mV 77 11,
 oP 78 (.build [.nil, (.int .i64 0), (.bool false)] [(0, 1, (.t 75)), (1, 1, (.t 76)), (2, 1, (.t 77))]),
 ⟨none, .store 3 (.t 6) (.t 78), none, false⟩,
 oP 7 (.mv (.c (.bool false)))]) .ret)) .skip)) (.seq (.seq (.region false [mV 79 11]) (.cond (.t 79) (.region false [mV 81 10,
 oP 82 (.bslice 1 1 (.int .u32 0) [(0, (.c (.int .u32 1)))]),
 oP 83 (.call (.f 257) [(.t 81), (.t 82)]),
 mV 80 83,
 oP 84 (.extract 0 (.t 80)),
 oP 85 (.extract 1 (.t 80)),
 mV 10 84]) .skip)) (.seq (.seq (.region false [mV 86 9,
 mV 87 10,
 oP 88 (.call (.f 99) [(.t 86), (.t 87)]),
 oP 89 (.bin .num .lss (.t 88) (.c (.int .i64 0)))]) (.cond (.t 89) (.seq (.region false [mV 91 10,
 mV 92 9,
 oP 93 (.call (.f 258) [(.t 91), (.t 92)]),
 mV 90 93,
 oP 94 (.extract 0 (.t 90)),
 oP 95 (.extract 1 (.t 90)),
 mV 14 94,
 mV 15 95]) (.seq (.region false [mV 96 14,
 mV 97 8,
 oP 98 (.build [.nil, (.int .i64 0), (.bool false)] [(0, 1, (.t 96)), (1, 1, (.t 97)), (2, 1, (.c (.bool false)))]),
 ⟨none, .store 3 (.t 6) (.t 98), none, false⟩,
 oP 7 (.mv (.c (.bool true)))]) .ret)) .skip)) (.seq (.region false [mV 100 9,
 mV 101 10,
 oP 102 (.call (.f 258) [(.t 100), (.t 101)]),
 mV 99 102,
 oP 103 (.extract 0 (.t 99)),
 oP 104 (.extract 1 (.t 99)),
 mV 16 103,
 mV 17 104]) (.seq (.region false [mV 105 16,
 mV 106 8,
 mV 107 11,
 oP 108 (.build [.nil, (.int .i64 0), (.bool false)] [(0, 1, (.t 105)), (1, 1, (.t 106)), (2, 1, (.t 107))]),
 ⟨none, .store 3 (.t 6) (.t 108), none, false⟩,
 oP 7 (.mv (.c (.bool false)))]) .ret)))))))))))),
 false, false⟩

/- round_signed -/
@[simp] def c_round_signed : AFn := ⟨[(.cell 8 true 3), (.tmp 9)],
 (.seq (.region false [oP 5 (.box 3 (.t 1)),
 oP 8 (.new 3 (.agg [(.bool false), .nil, (.int .i64 0)])),
 oP 9 (.mv (.c (.int .i64 0)))]) (.seq (.region false [oP 13 (.load true 3 (.t 5)),
 mV 14 2,
 mV 15 3,
 mV 16 0,
 oP 17 (.bin .bool .neq (.t 15) (.t 16)),
 oP 18 (.call (.f 254) [(.t 13), (.t 14), (.t 17)]),
 mV 12 18,
 oP 19 (.extract 0 (.t 12)),
 oP 20 (.extract 1 (.t 12)),
 oP 10 (.new 3 (.agg [(.bool false), .nil, (.int .i64 0)])),
 ⟨none, .store 3 (.t 10) (.t 19), none, false⟩,
 mV 11 20]) (.seq (.seq (.region false [mV 21 11,
 oP 22 (.bin .num .eql (.t 21) (.c (.int .i64 0))),
 mV 23 22,
 gT 24 23 (.mv (.t 0)),
 oP 25 (.pick (.t 23) (.t 24) (.c (.bool false)))]) (.cond (.t 25) (.region false [oP 26 (.load true 3 (.t 10)),
 oP 27 (.call (.f 198) [(.t 26)]),
 ⟨none, .store 3 (.t 10) (.t 27), none, false⟩]) .skip)) (.seq (.region false [oP 28 (.load true 3 (.t 10)),
 mV 29 11,
 ⟨none, .store 3 (.t 8) (.t 28), none, false⟩,
 mV 9 29]) .ret)))),
 false, false⟩

/- natural_Mul -/
@[simp] def c_natural_Mul : AFn := ⟨[(.tmp 4), (.tmp 5)],
 (.seq (.region false [oP 4 (.mv (.c .nil)),
 oP 5 (.mv (.c (.int .i64 0)))]) (.seq (.seq (.region false [mV 6 0,
 mV 7 1,
 oP 8 (.bslice 1 2 .nil [(0, (.t 6)), (1, (.t 7))]),
 oP 9 (.call (.f 114) [(.t 8)])]) (.cond (.t 9) (.seq (.region false [oP 4 (.mv (.c .nil)),
 oP 5 (.mv (.c (.int .i64 9)))]) .ret) .skip)) (.seq (.region false [mV 10 0,
 oP 11 (.call (.f 111) [(.t 10)]),
 mV 12 1,
 oP 13 (.call (.f 111) [(.t 12)]),
 oP 14 (.call (.f 259) [(.t 11), (.t 13)]),
 oP 15 (.call (.f 115) [(.t 14)]),
 oP 16 (.extract 0 (.t 15)),
 oP 17 (.extract 1 (.t 15)),
 mV 4 16,
 mV 5 17]) .ret))),
 false, false⟩

/- dyadic_Bits -/
@[simp] def c_dyadic_Bits : AFn := ⟨[(.tmp 2)],
 (.seq (.region false [oP 1 (.box 3 (.t 0)),
 oP 2 (.mv (.c (.int .i64 0)))]) (.seq (.seq (.region false [oP 3 (.load true 3 (.t 1)),
 oP 4 (.call (.f 51) [(.t 3)]),
 oP 5 (.un .not (.t 4))]) (.cond (.t 5) (.seq (.region false [oP 2 (.mv (.c (.int .i64 0)))]) .ret) .skip)) (.seq (.region false [oP 6 (.faddr 1 (.t 1)),
 oP 7 (.load false 1 (.t 6)),
 oP 8 (.call (.f 97) [(.t 7)]),
 mV 2 8]) .ret))),
 false, false⟩

/- natural_DivMod -/
@[simp] def c_natural_DivMod : AFn := ⟨[(.tmp 4), (.tmp 5), (.tmp 6)],
 (.seq (.region false [oP 4 (.mv (.c .nil)),
 oP 5 (.mv (.c .nil)),
 oP 6 (.mv (.c (.int .i64 0)))]) (.seq (.block 0 (.seq (.region false [mV 10 0,
 mV 11 1,
 oP 12 (.bslice 1 2 .nil [(0, (.t 10)), (1, (.t 11))]),
 oP 13 (.call (.f 114) [(.t 12)]),
 mV 9 13]) (.cond (.t 9) (.seq (.region false [oP 4 (.mv (.c .nil)),
 oP 5 (.mv (.c .nil)),
 oP 6 (.mv (.c (.int .i64 9)))]) .ret) (.seq (.region false [mV 15 1,
 oP 16 (.call (.f 111) [(.t 15)]),
 oP 17 (.len (.t 16)),
 oP 18 (.bin .num .eql (.t 17) (.c (.int .i64 0))),
 mV 14 18]) (.cond (.t 14) (.seq (.region false [oP 4 (.mv (.c .nil)),
 oP 5 (.mv (.c .nil)),
 oP 6 (.mv (.c (.int .i64 10)))]) .ret) .skip))))) (.seq (.region false [mV 20 0,
 mV 21 1,
 oP 22 (.call (.f 260) [(.t 20), (.t 21)]),
 mV 19 22,
 oP 23 (.extract 0 (.t 19)),
 oP 24 (.extract 1 (.t 19)),
 mV 7 23,
 mV 8 24]) (.seq (.region false [mV 25 7,
 oP 26 (.call (.f 111) [(.t 25)]),
 oP 27 (.call (.f 119) [(.t 26)]),
 mV 28 8,
 oP 29 (.call (.f 111) [(.t 28)]),
 oP 30 (.call (.f 119) [(.t 29)]),
 mV 4 27,
 mV 5 30,
 oP 6 (.mv (.c (.int .i64 0)))]) .ret)))),
 false, false⟩

/- round_shl -/
@[simp] def c_round_shl : AFn := ⟨[(.tmp 4)],
 (.seq (.region false [oP 4 (.mv (.c .nil))]) (.seq (.region false [mV 8 0,
 mV 9 1,
 oP 10 (.call (.f 112) [(.t 8), (.t 9)]),
 mV 7 10,
 oP 11 (.extract 0 (.t 7)),
 oP 12 (.extract 1 (.t 7)),
 mV 5 11,
 mV 6 12]) (.seq (.region false [mV 13 5,
 mV 4 13]) .ret))),
 false, false⟩

/- fpref03_Prec -/
@[simp] def c_fpref03_Prec : AFn := ⟨[(.tmp 2)],
 (.seq (.region false [oP 2 (.mv (.c (.bool false)))]) (.seq (.region false [mV 3 0,
 oP 4 (.bin .num .geq (.t 3) (.c (.int .i64 8))),
 mV 5 4,
 gT 6 5 (.mv (.t 0)),
 gT 7 5 (.bin .num .leq (.t 6) (.c (.int .i64 512))),
 oP 8 (.pick (.t 5) (.t 7) (.c (.bool false))),
 mV 2 8]) .ret)),
 false, false⟩

/- round_of -/
@[simp] def c_round_of : AFn := ⟨[(.cell 2 true 3)],
 (.seq (.region false [oP 1 (.box 3 (.t 0)),
 oP 2 (.new 3 (.agg [.nil, (.int .i64 0), (.bool false)]))]) (.seq (.region false [oP 3 (.faddr 1 (.t 1)),
 oP 4 (.load false 1 (.t 3)),
 oP 5 (.faddr 2 (.t 1)),
 oP 6 (.load false 1 (.t 5)),
 oP 7 (.build [.nil, (.int .i64 0), (.bool false)] [(0, 1, (.t 4)), (1, 1, (.t 6))]),
 ⟨none, .store 3 (.t 2) (.t 7), none, false⟩]) .ret)),
 false, false⟩

/- dyadic_trimmed -/
def c_dyadic_trimmed_l0 : AC := (.seq (.seq (.region false [mV 6 3,
 oP 7 (.bin .num .gtr (.t 6) (.c (.int .i64 0))),
 mV 8 7,
 gT 9 8 (.mv (.t 0)),
 gT 10 8 (.mv (.t 3)),
 gT 11 8 (.bin .num .sub (.t 10) (.c (.int .i64 1))),
 gT 12 8 (.iaddr 1 (.t 9) (.t 11)),
 gT 13 8 (.load false 1 (.t 12)),
 gT 14 8 (.bin .num .eql (.t 13) (.c (.int .u32 0))),
 oP 15 (.pick (.t 8) (.t 14) (.c (.bool false)))]) (.cond (.t 15) .skip (.exit 0))) (.block 1 (.region false [mV 16 3,
 oP 17 (.bin .num .sub (.t 16) (.c (.int .i64 1))),
 mV 3 17])))
@[simp] def c_dyadic_trimmed : AFn := ⟨[(.tmp 2)],
 (.seq (.region false [oP 2 (.mv (.c .nil))]) (.seq (.region false [mV 4 0,
 oP 5 (.len (.t 4)),
 mV 3 5]) (.seq (.block 0 (.loop c_dyadic_trimmed_l0)) (.seq (.region false [mV 18 0,
 mV 19 3,
 oP 20 (.slice 1 (.t 18) none (some (.t 19)) none),
 mV 2 20]) .ret)))),
 false, false⟩

/- dyadic_low -/
def c_dyadic_low_l0 : AC := (.seq (.region false [oP 9 (.bin .num .lss (.t 8) (.t 7))]) (.seq (.cond (.t 9) .skip (.exit 0)) (.seq (.block 1 (.seq (.region false [oP 10 (.iaddr 1 (.t 6) (.t 8)),
 oP 11 (.load false 1 (.t 10)),
 mV 5 11]) (.seq (.seq (.region false [mV 12 5,
 oP 13 (.bin .num .neq (.t 12) (.c (.int .u32 0)))]) (.cond (.t 13) (.seq (.region false [mV 14 3,
 mV 15 5,
 oP 16 (.call (.f 261) [(.t 15)]),
 oP 17 (.bin .num .add (.t 14) (.t 16)),
 mV 2 17]) .ret) .skip)) (.region false [mV 18 3,
 oP 19 (.bin .num .add (.t 18) (.c (.int .i64 32))),
 mV 3 19])))) (.region false [oP 20 (.bin .num .add (.t 8) (.c (.int .i64 1))),
 mV 8 20]))))
@[simp] def c_dyadic_low : AFn := ⟨[(.tmp 2)],
 (.seq (.region false [oP 2 (.mv (.c (.int .i64 0)))]) (.seq (.region false [oP 3 (.mv (.c (.int .i64 0)))]) (.seq (.seq (.region false [mV 6 0,
 oP 7 (.len (.t 6)),
 oP 8 (.mv (.c (.int .i64 0)))]) (.block 0 (.loop c_dyadic_low_l0))) (.seq (.region false [mV 21 3,
 mV 2 21]) .ret)))),
 false, false⟩

/- natural_Shr -/
@[simp] def c_natural_Shr : AFn := ⟨[(.tmp 4), (.tmp 5)],
 (.seq (.region false [oP 4 (.mv (.c .nil)),
 oP 5 (.mv (.c (.int .i64 0)))]) (.seq (.block 0 (.seq (.region false [mV 7 0,
 oP 8 (.bslice 1 1 .nil [(0, (.t 7))]),
 oP 9 (.call (.f 114) [(.t 8)]),
 mV 6 9]) (.cond (.t 6) (.seq (.region false [oP 4 (.mv (.c .nil)),
 oP 5 (.mv (.c (.int .i64 9)))]) .ret) (.seq (.region false [mV 11 1,
 oP 12 (.bin .num .lss (.t 11) (.c (.int .i64 0))),
 mV 13 12,
 gF 14 13 (.mv (.t 1)),
 gF 15 13 (.bin .num .gtr (.t 14) (.c (.int .i64 65536))),
 oP 16 (.pick (.t 13) (.c (.bool true)) (.t 15)),
 mV 10 16]) (.cond (.t 10) (.seq (.region false [oP 4 (.mv (.c .nil)),
 oP 5 (.mv (.c (.int .i64 2)))]) .ret) .skip))))) (.seq (.region false [mV 17 0,
 mV 18 1,
 oP 19 (.call (.f 262) [(.t 17), (.t 18)]),
 oP 20 (.call (.f 115) [(.t 19)]),
 oP 21 (.extract 0 (.t 20)),
 oP 22 (.extract 1 (.t 20)),
 mV 4 21,
 mV 5 22]) .ret))),
 false, false⟩

/- fpref01_Trim -/
def c_fpref01_Trim_l0 : AC := (.seq (.seq (.region false [mV 6 3,
 oP 7 (.bin .num .gtr (.t 6) (.c (.int .i64 0))),
 mV 8 7,
 gT 9 8 (.mv (.t 0)),
 gT 10 8 (.mv (.t 3)),
 gT 11 8 (.bin .num .sub (.t 10) (.c (.int .i64 1))),
 gT 12 8 (.iaddr 1 (.t 9) (.t 11)),
 gT 13 8 (.load false 1 (.t 12)),
 gT 14 8 (.bin .num .eql (.t 13) (.c (.int .u32 0))),
 oP 15 (.pick (.t 8) (.t 14) (.c (.bool false)))]) (.cond (.t 15) .skip (.exit 0))) (.block 1 (.region false [mV 16 3,
 oP 17 (.bin .num .sub (.t 16) (.c (.int .i64 1))),
 mV 3 17])))
@[simp] def c_fpref01_Trim : AFn := ⟨[(.tmp 2)],
 (.seq (.region false [oP 2 (.mv (.c .nil))]) (.seq (.region false [mV 4 0,
 oP 5 (.len (.t 4)),
 mV 3 5]) (.seq (.block 0 (.loop c_fpref01_Trim_l0)) (.seq (.region false [oP 18 (.bslice 1 0 (.int .u32 0) []),
 mV 19 0,
 mV 20 3,
 oP 21 (.slice 1 (.t 19) none (some (.t 20)) none),
 oP 22 (.append 1 4 (.t 18) (.t 21)),
 mV 2 22]) .ret)))),
 false, false⟩

/- fpref01_at -/
@[simp] def c_fpref01_at : AFn := ⟨[(.tmp 4)],
 (.seq (.region false [oP 4 (.mv (.c (.int .u64 0)))]) (.seq (.seq (.region false [mV 5 1,
 mV 6 0,
 oP 7 (.len (.t 6)),
 oP 8 (.bin .num .lss (.t 5) (.t 7))]) (.cond (.t 8) (.seq (.region false [mV 9 0,
 mV 10 1,
 oP 11 (.iaddr 1 (.t 9) (.t 10)),
 oP 12 (.load false 1 (.t 11)),
 oP 13 (.conv .u64 (.t 12)),
 mV 4 13]) .ret) .skip)) (.seq (.region false [oP 4 (.mv (.c (.int .u64 0)))]) .ret))),
 false, true⟩

/- fpref01_Shr -/
def c_fpref01_Shr_l0 : AC := (.seq (.seq (.region false [mV 10 6,
 mV 11 0,
 oP 12 (.len (.t 11)),
 oP 13 (.bin .num .lss (.t 10) (.t 12))]) (.cond (.t 13) .skip (.exit 0))) (.seq (.block 1 (.seq (.region false [mV 16 0,
 mV 17 6,
 oP 18 (.call (.f 249) [(.t 16), (.t 17)]),
 mV 19 0,
 mV 20 6,
 oP 21 (.bin .num .add (.t 20) (.c (.int .i64 1))),
 oP 22 (.call (.f 249) [(.t 19), (.t 21)]),
 oP 23 (.bin .num .shl (.t 22) (.c (.int .u64 32))),
 oP 24 (.bin .num .add (.t 18) (.t 23)),
 mV 7 24]) (.region false [mV 25 5,
 mV 26 7,
 mV 27 1,
 oP 28 (.bin .num .rem (.t 27) (.c (.int .i64 32))),
 oP 29 (.bin .num .shr (.t 26) (.t 28)),
 oP 30 (.bin .num .and (.t 29) (.c (.int .u64 4294967295))),
 oP 31 (.conv .u32 (.t 30)),
 oP 32 (.bslice 1 1 (.int .u32 0) [(0, (.t 31))]),
 oP 33 (.append 1 4 (.t 25) (.t 32)),
 mV 5 33]))) (.region false [mV 14 6,
 oP 15 (.bin .num .add (.t 14) (.c (.int .i64 1))),
 mV 6 15])))
@[simp] def c_fpref01_Shr : AFn := ⟨[(.tmp 4)],
 (.seq (.region false [oP 4 (.mv (.c .nil))]) (.seq (.region false [oP 5 (.mv (.c .nil))]) (.seq (.seq (.region false [mV 8 1,
 oP 9 (.bin .num .quo (.t 8) (.c (.int .i64 32))),
 mV 6 9]) (.block 0 (.loop c_fpref01_Shr_l0))) (.seq (.region false [mV 34 5,
 oP 35 (.call (.f 247) [(.t 34)]),
 mV 4 35]) .ret)))),
 false, false⟩

/- fpref01_Add -/
def c_fpref01_Add_l0 : AC := (.seq (.seq (.region false [mV 9 7,
 mV 10 0,
 oP 11 (.len (.t 10)),
 mV 12 1,
 oP 13 (.len (.t 12)),
 oP 14 (.max (.t 11) (.t 13)),
 oP 15 (.bin .num .lss (.t 9) (.t 14)),
 mV 16 15,
 gF 17 16 (.mv (.t 6)),
 gF 18 16 (.bin .num .gtr (.t 17) (.c (.int .u64 0))),
 oP 19 (.pick (.t 16) (.c (.bool true)) (.t 18))]) (.cond (.t 19) .skip (.exit 0))) (.seq (.block 1 (.seq (.region false [mV 22 0,
 mV 23 7,
 oP 24 (.call (.f 249) [(.t 22), (.t 23)]),
 mV 25 1,
 mV 26 7,
 oP 27 (.call (.f 249) [(.t 25), (.t 26)]),
 oP 28 (.bin .num .add (.t 24) (.t 27)),
 mV 29 6,
 oP 30 (.bin .num .add (.t 28) (.t 29)),
 mV 8 30]) (.seq (.region false [mV 31 5,
 mV 32 8,
 oP 33 (.bin .num .and (.t 32) (.c (.int .u64 4294967295))),
 oP 34 (.conv .u32 (.t 33)),
 oP 35 (.bslice 1 1 (.int .u32 0) [(0, (.t 34))]),
 oP 36 (.append 1 4 (.t 31) (.t 35)),
 mV 5 36]) (.region false [mV 37 8,
 oP 38 (.bin .num .shr (.t 37) (.c (.int .u64 32))),
 mV 6 38])))) (.region false [mV 20 7,
 oP 21 (.bin .num .add (.t 20) (.c (.int .i64 1))),
 mV 7 21])))
@[simp] def c_fpref01_Add : AFn := ⟨[(.tmp 4)],
 (.seq (.region false [oP 4 (.mv (.c .nil))]) (.seq (.region false [oP 5 (.mv (.c .nil))]) (.seq (.region false [oP 6 (.mv (.c (.int .u64 0)))]) (.seq (.seq (.region false [oP 7 (.mv (.c (.int .i64 0)))]) (.block 0 (.loop c_fpref01_Add_l0))) (.seq (.region false [mV 39 5,
 oP 40 (.call (.f 247) [(.t 39)]),
 mV 4 40]) .ret))))),
 false, false⟩

/- fpref03_greatest -/
@[simp] def c_fpref03_greatest : AFn := ⟨[(.cell 4 true 3)],
 (.seq (.region false [oP 4 (.new 3 (.agg [(.bool false), .nil, (.int .i64 0)]))]) (.seq (.region false [oP 6 (.bslice 1 1 (.int .u32 0) [(0, (.c (.int .u32 1)))]),
 mV 7 1,
 oP 8 (.call (.f 228) [(.t 6), (.t 7)]),
 oP 9 (.bslice 1 1 (.int .u32 0) [(0, (.c (.int .u32 1)))]),
 oP 10 (.call (.f 263) [(.t 8), (.t 9)]),
 mV 5 10]) (.seq (.region false [mV 11 0,
 mV 12 5,
 mV 13 1,
 oP 14 (.bin .num .sub (.c (.int .i64 16384)) (.t 13)),
 oP 15 (.call (.f 85) [(.t 11), (.t 12), (.t 14)]),
 ⟨none, .store 3 (.t 4) (.t 15), none, false⟩]) .ret))),
 false, false⟩

/- natural_Sqrt -/
def c_natural_Sqrt_l0 : AC := (.block 1 (.seq (.region false [mV 23 0,
 mV 24 5,
 oP 25 (.call (.f 260) [(.t 23), (.t 24)]),
 mV 22 25,
 oP 26 (.extract 0 (.t 22)),
 oP 27 (.extract 1 (.t 22)),
 mV 6 26,
 mV 7 27]) (.seq (.region false [mV 28 5,
 mV 29 6,
 oP 30 (.call (.f 111) [(.t 29)]),
 oP 31 (.call (.f 264) [(.t 28), (.t 30)]),
 oP 32 (.call (.f 262) [(.t 31), (.c (.int .i64 1))]),
 oP 33 (.call (.f 111) [(.t 32)]),
 mV 8 33]) (.seq (.seq (.region false [mV 34 8,
 mV 35 5,
 oP 36 (.call (.f 99) [(.t 34), (.t 35)]),
 oP 37 (.bin .num .geq (.t 36) (.c (.int .i64 0)))]) (.cond (.t 37) (.seq (.region false [mV 38 5,
 oP 39 (.call (.f 115) [(.t 38)]),
 oP 40 (.extract 0 (.t 39)),
 oP 41 (.extract 1 (.t 39)),
 mV 2 40,
 mV 3 41]) .ret) .skip)) (.region false [mV 42 8,
 mV 5 42])))))
@[simp] def c_natural_Sqrt : AFn := ⟨[(.tmp 2), (.tmp 3)],
 (.seq (.region false [oP 2 (.mv (.c .nil)),
 oP 3 (.mv (.c (.int .i64 0)))]) (.seq (.seq (.region false [mV 9 0,
 oP 10 (.bslice 1 1 .nil [(0, (.t 9))]),
 oP 11 (.call (.f 114) [(.t 10)])]) (.cond (.t 11) (.seq (.region false [oP 2 (.mv (.c .nil)),
 oP 3 (.mv (.c (.int .i64 9)))]) .ret) .skip)) (.seq (.region false [mV 12 0,
 oP 13 (.call (.f 110) [(.t 12)]),
 mV 4 13]) (.seq (.seq (.region false [mV 14 4,
 oP 15 (.bin .num .eql (.t 14) (.c (.int .i64 0)))]) (.cond (.t 15) (.seq (.region false [oP 2 (.mv (.c .nil)),
 oP 3 (.mv (.c (.int .i64 0)))]) .ret) .skip)) (.seq (.region false [oP 16 (.bslice 1 1 (.int .u32 0) [(0, (.c (.int .u32 1)))]),
 mV 17 4,
 oP 18 (.bin .num .add (.t 17) (.c (.int .i64 1))),
 oP 19 (.bin .num .quo (.t 18) (.c (.int .i64 2))),
 oP 20 (.call (.f 116) [(.t 16), (.t 19)]),
 oP 21 (.call (.f 111) [(.t 20)]),
 mV 5 21]) (.block 0 (.loop c_natural_Sqrt_l0))))))),
 false, false⟩

/- round_cut -/
@[simp] def c_round_cut : AFn := ⟨[(.cell 6 true 3), (.tmp 7)],
 (.seq (.region false [oP 3 (.box 3 (.t 0)),
 oP 6 (.new 3 (.agg [(.bool false), .nil, (.int .i64 0)])),
 oP 7 (.mv (.c (.int .i64 0)))]) (.seq (.region true [oP 13 (.faddr 1 (.t 3)),
 oP 14 (.load false 1 (.t 13)),
 oP 15 (.faddr 0 (.t 3)),
 oP 16 (.load false 1 (.t 15)),
 oP 17 (.call (.f 110) [(.t 16)]),
 oP 18 (.bin .num .add (.t 14) (.t 17)),
 mV 19 1,
 oP 20 (.bin .num .sub (.t 18) (.t 19)),
 oP 21 (.max (.t 20) (.c (.int .i64 (-16384)))),
 mV 8 21]) (.seq (.region true [oP 22 (.faddr 0 (.t 3)),
 oP 23 (.load false 1 (.t 22)),
 oP 24 (.faddr 2 (.t 3)),
 oP 25 (.load false 1 (.t 24)),
 mV 9 23,
 mV 10 25]) (.seq (.seq (.region false [oP 26 (.faddr 1 (.t 3)),
 oP 27 (.load false 1 (.t 26)),
 mV 28 8,
 oP 29 (.bin .num .geq (.t 27) (.t 28))]) (.cond (.t 29) (.region false [oP 30 (.faddr 0 (.t 3)),
 oP 31 (.load false 1 (.t 30)),
 oP 32 (.faddr 1 (.t 3)),
 oP 33 (.load false 1 (.t 32)),
 mV 34 8,
 oP 35 (.bin .num .sub (.t 33) (.t 34)),
 oP 36 (.call (.f 241) [(.t 31), (.t 35)]),
 mV 9 36]) (.seq (.region false [oP 38 (.faddr 0 (.t 3)),
 oP 39 (.load false 1 (.t 38)),
 mV 40 8,
 oP 41 (.faddr 1 (.t 3)),
 oP 42 (.load false 1 (.t 41)),
 oP 43 (.bin .num .sub (.t 40) (.t 42)),
 oP 44 (.call (.f 256) [(.t 39), (.t 43)]),
 mV 37 44,
 oP 45 (.extract 0 (.t 37)),
 oP 46 (.extract 1 (.t 37)),
 mV 11 45,
 mV 12 46]) (.region false [mV 47 11,
 mV 48 10,
 mV 49 48,
 gF 50 49 (.mv (.t 12)),
 oP 51 (.pick (.t 49) (.c (.bool true)) (.t 50)),
 mV 9 47,
 mV 10 51])))) (.seq (.seq (.region false [mV 52 2,
 mV 53 52,
 gT 54 53 (.mv (.t 10)),
 oP 55 (.pick (.t 53) (.t 54) (.c (.bool false)))]) (.cond (.t 55) (.region false [mV 57 9,
 oP 58 (.bslice 1 1 (.int .u32 0) [(0, (.c (.int .u32 1)))]),
 oP 59 (.call (.f 257) [(.t 57), (.t 58)]),
 mV 56 59,
 oP 60 (.extract 0 (.t 56)),
 oP 61 (.extract 1 (.t 56)),
 mV 9 60]) .skip)) (.seq (.seq (.region false [mV 62 9,
 oP 63 (.call (.f 110) [(.t 62)]),
 mV 64 8,
 oP 65 (.bin .num .add (.t 63) (.t 64)),
 oP 66 (.bin .num .gtr (.t 65) (.c (.int .i64 16384)))]) (.cond (.t 66) (.seq (.seq (.region false [mV 67 2]) (.cond (.t 67) (.seq (.region false [oP 68 (.build [(.bool false), .nil, (.int .i64 0)] []),
 ⟨none, .store 3 (.t 6) (.t 68), none, false⟩,
 oP 7 (.mv (.c (.int .i64 9)))]) .ret) .skip)) (.seq (.region false [oP 70 (.bslice 1 1 (.int .u32 0) [(0, (.c (.int .u32 1)))]),
 mV 71 1,
 oP 72 (.call (.f 241) [(.t 70), (.t 71)]),
 oP 73 (.bslice 1 1 (.int .u32 0) [(0, (.c (.int .u32 1)))]),
 oP 74 (.call (.f 258) [(.t 72), (.t 73)]),
 mV 69 74,
 oP 75 (.extract 0 (.t 69)),
 oP 76 (.extract 1 (.t 69)),
 mV 9 75]) (.region false [mV 77 1,
 oP 78 (.bin .num .sub (.c (.int .i64 16384)) (.t 77)),
 mV 8 78]))) .skip)) (.seq (.region false [mV 79 9,
 mV 80 8,
 oP 81 (.call (.f 265) [(.c (.bool false)), (.t 79), (.t 80)]),
 oP 82 (.extract 0 (.t 81)),
 oP 83 (.extract 1 (.t 81)),
 ⟨none, .store 3 (.t 6) (.t 82), none, false⟩,
 mV 7 83]) .ret))))))),
 false, false⟩

/- round_precise -/
@[simp] def c_round_precise : AFn := ⟨[(.tmp 2)],
 (.seq (.region false [oP 2 (.mv (.c (.bool false)))]) (.seq (.region false [mV 3 0,
 oP 4 (.bin .num .geq (.t 3) (.c (.int .i64 8))),
 mV 5 4,
 gT 6 5 (.mv (.t 0)),
 gT 7 5 (.bin .num .leq (.t 6) (.c (.int .i64 512))),
 oP 8 (.pick (.t 5) (.t 7) (.c (.bool false))),
 mV 2 8]) .ret)),
 false, false⟩

/- round_shr -/
@[simp] def c_round_shr : AFn := ⟨[(.tmp 4), (.tmp 5)],
 (.seq (.region false [oP 4 (.mv (.c .nil)),
 oP 5 (.mv (.c (.bool false)))]) (.seq (.seq (.region false [mV 8 1,
 mV 9 0,
 oP 10 (.call (.f 110) [(.t 9)]),
 oP 11 (.bin .num .gtr (.t 8) (.t 10))]) (.cond (.t 11) (.region false [mV 12 0,
 oP 13 (.call (.f 110) [(.t 12)]),
 mV 1 13]) .skip)) (.seq (.region false [mV 15 0,
 mV 16 1,
 oP 17 (.call (.f 246) [(.t 15), (.t 16)]),
 mV 14 17,
 oP 18 (.extract 0 (.t 14)),
 oP 19 (.extract 1 (.t 14)),
 mV 6 18,
 mV 7 19]) (.seq (.region false [mV 20 6,
 mV 21 6,
 mV 22 1,
 oP 23 (.call (.f 241) [(.t 21), (.t 22)]),
 mV 24 0,
 oP 25 (.call (.f 99) [(.t 23), (.t 24)]),
 oP 26 (.bin .num .neq (.t 25) (.c (.int .i64 0))),
 mV 4 20,
 mV 5 26]) .ret)))),
 false, false⟩

/- natural_Add -/
@[simp] def c_natural_Add : AFn := ⟨[(.tmp 4), (.tmp 5)],
 (.seq (.region false [oP 4 (.mv (.c .nil)),
 oP 5 (.mv (.c (.int .i64 0)))]) (.seq (.seq (.region false [mV 6 0,
 mV 7 1,
 oP 8 (.bslice 1 2 .nil [(0, (.t 6)), (1, (.t 7))]),
 oP 9 (.call (.f 114) [(.t 8)])]) (.cond (.t 9) (.seq (.region false [oP 4 (.mv (.c .nil)),
 oP 5 (.mv (.c (.int .i64 9)))]) .ret) .skip)) (.seq (.region false [mV 10 0,
 mV 11 1,
 oP 12 (.call (.f 264) [(.t 10), (.t 11)]),
 oP 13 (.call (.f 115) [(.t 12)]),
 oP 14 (.extract 0 (.t 13)),
 oP 15 (.extract 1 (.t 13)),
 mV 4 14,
 mV 5 15]) .ret))),
 false, false⟩

/- natural_Sub -/
@[simp] def c_natural_Sub : AFn := ⟨[(.tmp 4), (.tmp 5)],
 (.seq (.region false [oP 4 (.mv (.c .nil)),
 oP 5 (.mv (.c (.int .i64 0)))]) (.seq (.block 0 (.seq (.region false [mV 7 0,
 mV 8 1,
 oP 9 (.bslice 1 2 .nil [(0, (.t 7)), (1, (.t 8))]),
 oP 10 (.call (.f 114) [(.t 9)]),
 mV 6 10]) (.cond (.t 6) (.seq (.region false [oP 4 (.mv (.c .nil)),
 oP 5 (.mv (.c (.int .i64 9)))]) .ret) (.seq (.region false [mV 12 0,
 mV 13 1,
 oP 14 (.call (.f 99) [(.t 12), (.t 13)]),
 oP 15 (.bin .num .lss (.t 14) (.c (.int .i64 0))),
 mV 11 15]) (.cond (.t 11) (.seq (.region false [oP 4 (.mv (.c .nil)),
 oP 5 (.mv (.c (.int .i64 2)))]) .ret) .skip))))) (.seq (.region false [mV 16 0,
 mV 17 1,
 oP 18 (.call (.f 266) [(.t 16), (.t 17)]),
 oP 19 (.call (.f 115) [(.t 18)]),
 oP 20 (.extract 0 (.t 19)),
 oP 21 (.extract 1 (.t 19)),
 mV 4 20,
 mV 5 21]) .ret))),
 false, false⟩

/- natural_mul -/
def c_natural_mul_l0 : AC := (.seq (.region false [oP 28 (.bin .num .lss (.t 27) (.t 26))]) (.seq (.cond (.t 28) .skip (.exit 2)) (.seq (.block 3 (.seq (.region false [mV 29 27,
 oP 30 (.iaddr 1 (.t 25) (.t 27)),
 oP 31 (.load false 1 (.t 30)),
 mV 9 29,
 mV 10 31]) (.seq (.region false [mV 32 7,
 oP 33 (.conv .u64 (.t 32)),
 mV 34 10,
 oP 35 (.conv .u64 (.t 34)),
 oP 36 (.bin .num .mul (.t 33) (.t 35)),
 mV 37 5,
 mV 38 6,
 mV 39 9,
 oP 40 (.bin .num .add (.t 38) (.t 39)),
 oP 41 (.iaddr 1 (.t 37) (.t 40)),
 oP 42 (.load false 1 (.t 41)),
 oP 43 (.conv .u64 (.t 42)),
 oP 44 (.bin .num .add (.t 36) (.t 43)),
 mV 45 8,
 oP 46 (.bin .num .add (.t 44) (.t 45)),
 mV 11 46]) (.region false [mV 47 5,
 mV 48 6,
 mV 49 9,
 oP 50 (.bin .num .add (.t 48) (.t 49)),
 mV 51 11,
 oP 52 (.conv .u32 (.t 51)),
 mV 53 11,
 oP 54 (.bin .num .shr (.t 53) (.c (.int .u64 32))),
 oP 55 (.iaddr 1 (.t 47) (.t 50)),
 ⟨none, .store 1 (.t 55) (.t 52), none, false⟩,
 mV 8 54])))) (.region false [oP 56 (.bin .num .add (.t 27) (.c (.int .i64 1))),
 mV 27 56]))))
def c_natural_mul_l1 : AC := (.seq (.region false [oP 21 (.bin .num .lss (.t 20) (.t 19))]) (.seq (.cond (.t 21) .skip (.exit 0)) (.seq (.block 1 (.seq (.region false [mV 22 20,
 oP 23 (.iaddr 1 (.t 18) (.t 20)),
 oP 24 (.load false 1 (.t 23)),
 mV 6 22,
 mV 7 24]) (.seq (.region false [oP 8 (.mv (.c (.int .u64 0)))]) (.seq (.seq (.region false [mV 25 1,
 oP 26 (.len (.t 25)),
 oP 27 (.mv (.c (.int .i64 0)))]) (.block 2 (.loop c_natural_mul_l0))) (.region false [mV 57 5,
 mV 58 6,
 mV 59 1,
 oP 60 (.len (.t 59)),
 oP 61 (.bin .num .add (.t 58) (.t 60)),
 mV 62 8,
 oP 63 (.conv .u32 (.t 62)),
 oP 64 (.iaddr 1 (.t 57) (.t 61)),
 ⟨none, .store 1 (.t 64) (.t 63), none, false⟩]))))) (.region false [oP 65 (.bin .num .add (.t 20) (.c (.int .i64 1))),
 mV 20 65]))))
@[simp] def c_natural_mul : AFn := ⟨[(.tmp 4)],
 (.seq (.region false [oP 4 (.mv (.c .nil))]) (.seq (.region false [mV 12 0,
 oP 13 (.len (.t 12)),
 mV 14 1,
 oP 15 (.len (.t 14)),
 oP 16 (.bin .num .add (.t 13) (.t 15)),
 oP 17 (.mkslice 1 4 (.int .u32 0) (.t 16) (.t 16)),
 mV 5 17]) (.seq (.seq (.region false [mV 18 0,
 oP 19 (.len (.t 18)),
 oP 20 (.mv (.c (.int .i64 0)))]) (.block 0 (.loop c_natural_mul_l1))) (.seq (.region false [mV 66 5,
 mV 4 66]) .ret)))),
 false, false⟩

/- natural_divide -/
def c_natural_divide_l0 : AC := (.seq (.seq (.region false [mV 56 9,
 oP 57 (.len (.t 56)),
 mV 58 0,
 oP 59 (.len (.t 58)),
 oP 60 (.bin .num .leq (.t 57) (.t 59))]) (.cond (.t 60) .skip (.exit 0))) (.block 1 (.region false [mV 61 9,
 oP 62 (.bslice 1 1 (.int .u32 0) [(0, (.c (.int .u32 0)))]),
 oP 63 (.append 1 4 (.t 61) (.t 62)),
 mV 9 63])))
def c_natural_divide_l1 : AC := (.seq (.region false [oP 126 (.bin .num .lss (.t 125) (.t 124))]) (.seq (.cond (.t 126) .skip (.exit 4)) (.seq (.block 5 (.seq (.region false [mV 127 125,
 oP 128 (.iaddr 1 (.t 123) (.t 125)),
 oP 129 (.load false 1 (.t 128)),
 mV 16 127,
 mV 17 129]) (.region false [mV 131 9,
 mV 132 13,
 mV 133 16,
 oP 134 (.bin .num .add (.t 132) (.t 133)),
 mV 135 9,
 mV 136 13,
 mV 137 16,
 oP 138 (.bin .num .add (.t 136) (.t 137)),
 oP 139 (.iaddr 1 (.t 135) (.t 138)),
 oP 140 (.load false 1 (.t 139)),
 mV 141 17,
 mV 142 15,
 oP 143 (.call (.f 271) [(.t 140), (.t 141), (.t 142)]),
 mV 130 143,
 oP 144 (.extract 0 (.t 130)),
 oP 145 (.extract 1 (.t 130)),
 oP 146 (.iaddr 1 (.t 131) (.t 134)),
 ⟨none, .store 1 (.t 146) (.t 144), none, false⟩,
 mV 15 145]))) (.region false [oP 147 (.bin .num .add (.t 125) (.c (.int .i64 1))),
 mV 125 147]))))
def c_natural_divide_l2 : AC := (.seq (.seq (.region false [mV 76 13,
 oP 77 (.bin .num .geq (.t 76) (.c (.int .i64 0)))]) (.cond (.t 77) .skip (.exit 2))) (.seq (.block 3 (.seq (.region true [mV 80 9,
 mV 81 13,
 mV 82 11,
 oP 83 (.bin .num .add (.t 81) (.t 82)),
 oP 84 (.iaddr 1 (.t 80) (.t 83)),
 oP 85 (.load false 1 (.t 84)),
 mV 86 9,
 mV 87 13,
 mV 88 11,
 oP 89 (.bin .num .add (.t 87) (.t 88)),
 oP 90 (.bin .num .sub (.t 89) (.c (.int .i64 1))),
 oP 91 (.iaddr 1 (.t 86) (.t 90)),
 oP 92 (.load false 1 (.t 91)),
 mV 93 9,
 mV 94 13,
 mV 95 11,
 oP 96 (.bin .num .add (.t 94) (.t 95)),
 oP 97 (.bin .num .sub (.t 96) (.c (.int .i64 2))),
 oP 98 (.iaddr 1 (.t 93) (.t 97)),
 oP 99 (.load false 1 (.t 98)),
 mV 100 10,
 mV 101 11,
 oP 102 (.bin .num .sub (.t 101) (.c (.int .i64 1))),
 oP 103 (.iaddr 1 (.t 100) (.t 102)),
 oP 104 (.load false 1 (.t 103)),
 mV 105 10,
 mV 106 11,
 oP 107 (.bin .num .sub (.t 106) (.c (.int .i64 2))),
 oP 108 (.iaddr 1 (.t 105) (.t 107)),
 oP 109 (.load false 1 (.t 108)),
 oS 110 (.call (.f 269) [(.t 85), (.t 92), (.t 99), (.t 104), (.t 109)]),
 mV 14 110]) (.seq (.seq (.region false [mV 111 9,
 mV 112 13,
 mV 113 13,
 mV 114 11,
 oP 115 (.bin .num .add (.t 113) (.t 114)),
 oP 116 (.bin .num .add (.t 115) (.c (.int .i64 1))),
 oP 117 (.slice 1 (.t 111) (some (.t 112)) (some (.t 116)) none),
 mV 118 10,
 mV 119 14,
 oP 120 (.call (.f 270) [(.t 117), (.t 118), (.t 119)])]) (.cond (.t 120) (.seq (.region false [mV 121 14,
 oP 122 (.bin .num .sub (.t 121) (.c (.int .u64 1))),
 mV 14 122]) (.seq (.region false [oP 15 (.mv (.c (.int .u32 0)))]) (.seq (.seq (.region false [mV 123 10,
 oP 124 (.len (.t 123)),
 oP 125 (.mv (.c (.int .i64 0)))]) (.block 4 (.loop c_natural_divide_l1))) (.region false [mV 148 9,
 mV 149 13,
 mV 150 11,
 oP 151 (.bin .num .add (.t 149) (.t 150)),
 oP 152 (.iaddr 1 (.t 148) (.t 151)),
 oP 153 (.load false 1 (.t 152)),
 mV 154 15,
 oP 155 (.bin .num .add (.t 153) (.t 154)),
 oP 156 (.iaddr 1 (.t 148) (.t 151)),
 ⟨none, .store 1 (.t 156) (.t 155), none, false⟩])))) .skip)) (.region false [mV 157 12,
 mV 158 13,
 mV 159 14,
 oP 160 (.conv .u32 (.t 159)),
 oP 161 (.iaddr 1 (.t 157) (.t 158)),
 ⟨none, .store 1 (.t 161) (.t 160), none, false⟩])))) (.region false [mV 78 13,
 oP 79 (.bin .num .sub (.t 78) (.c (.int .i64 1))),
 mV 13 79])))
@[simp] def c_natural_divide : AFn := ⟨[(.tmp 4), (.tmp 5)],
 (.seq (.region false [oP 4 (.mv (.c .nil)),
 oP 5 (.mv (.c .nil))]) (.seq (.region false [mV 18 0,
 oP 19 (.call (.f 111) [(.t 18)]),
 mV 20 1,
 oP 21 (.call (.f 111) [(.t 20)]),
 mV 0 19,
 mV 1 21]) (.seq (.seq (.region false [mV 22 0,
 mV 23 1,
 oP 24 (.call (.f 99) [(.t 22), (.t 23)]),
 oP 25 (.bin .num .lss (.t 24) (.c (.int .i64 0)))]) (.cond (.t 25) (.seq (.region false [mV 26 0,
 oP 27 (.call (.f 221) [(.t 26)]),
 oP 4 (.mv (.c .nil)),
 mV 5 27]) .ret) .skip)) (.seq (.seq (.region false [mV 28 1,
 oP 29 (.len (.t 28)),
 oP 30 (.bin .num .eql (.t 29) (.c (.int .i64 1)))]) (.cond (.t 30) (.seq (.region false [mV 32 0,
 mV 33 1,
 oP 34 (.iaddr 1 (.t 33) (.c (.int .i64 0))),
 oP 35 (.load false 1 (.t 34)),
 oP 36 (.call (.f 267) [(.t 32), (.t 35)]),
 mV 31 36,
 oP 37 (.extract 0 (.t 31)),
 oP 38 (.extract 1 (.t 31)),
 mV 6 37,
 mV 7 38]) (.seq (.region false [mV 39 6,
 mV 40 7,
 oP 41 (.bslice 1 1 (.int .u32 0) [(0, (.t 40))]),
 mV 4 39,
 mV 5 41]) .ret)) .skip)) (.seq (.region false [mV 42 1,
 mV 43 1,
 oP 44 (.len (.t 43)),
 oP 45 (.bin .num .sub (.t 44) (.c (.int .i64 1))),
 oP 46 (.iaddr 1 (.t 42) (.t 45)),
 oP 47 (.load false 1 (.t 46)),
 oP 48 (.call (.f 268) [(.t 47)]),
 mV 8 48]) (.seq (.region false [mV 49 0,
 mV 50 8,
 oP 51 (.call (.f 116) [(.t 49), (.t 50)]),
 mV 52 1,
 mV 53 8,
 oP 54 (.call (.f 116) [(.t 52), (.t 53)]),
 oP 55 (.call (.f 111) [(.t 54)]),
 mV 9 51,
 mV 10 55]) (.seq (.block 0 (.loop c_natural_divide_l0)) (.seq (.region false [mV 64 10,
 oP 65 (.len (.t 64)),
 mV 11 65]) (.seq (.region false [mV 66 9,
 oP 67 (.len (.t 66)),
 mV 68 11,
 oP 69 (.bin .num .sub (.t 67) (.t 68)),
 oP 70 (.mkslice 1 4 (.int .u32 0) (.t 69) (.t 69)),
 mV 12 70]) (.seq (.seq (.region false [mV 71 9,
 oP 72 (.len (.t 71)),
 mV 73 11,
 oP 74 (.bin .num .sub (.t 72) (.t 73)),
 oP 75 (.bin .num .sub (.t 74) (.c (.int .i64 1))),
 mV 13 75]) (.block 2 (.loop c_natural_divide_l2))) (.seq (.region false [mV 162 12,
 mV 163 9,
 mV 164 11,
 oP 165 (.slice 1 (.t 163) none (some (.t 164)) none),
 mV 166 8,
 oP 167 (.call (.f 262) [(.t 165), (.t 166)]),
 mV 4 162,
 mV 5 167]) .ret))))))))))),
 false, false⟩

/- math_bits_TrailingZeros32 -/
@[simp] def c_math_bits_TrailingZeros32 : AFn := ⟨[(.tmp 2)],
 (.seq (.region false [oP 2 (.mv (.c (.int .i64 0)))]) (.seq (.seq (.region false [mV 3 0,
 oP 4 (.bin .num .eql (.t 3) (.c (.int .u32 0)))]) (.cond (.t 4) (.seq (.region false [oP 2 (.mv (.c (.int .i64 32)))]) .ret) .skip)) (.seq (.region false [mV 5 0,
 mV 6 0,
 oP 7 (.un .neg (.t 6)),
 oP 8 (.bin .num .and (.t 5) (.t 7)),
 oP 9 (.bin .num .mul (.t 8) (.c (.int .u32 125613361))),
 oP 10 (.bin .num .shr (.t 9) (.c (.int .u64 27))),
 oP 11 (.aiaddr 32 1 (.c (.eptr [(.int .u8 0), (.int .u8 1), (.int .u8 28), (.int .u8 2), (.int .u8 29), (.int .u8 14), (.int .u8 24), (.int .u8 3), (.int .u8 30), (.int .u8 22), (.int .u8 20), (.int .u8 15), (.int .u8 25), (.int .u8 17), (.int .u8 4), (.int .u8 8), (.int .u8 31), (.int .u8 27), (.int .u8 13), (.int .u8 23), (.int .u8 21), (.int .u8 19), (.int .u8 16), (.int .u8 7), (.int .u8 26), (.int .u8 12), (.int .u8 18), (.int .u8 6), (.int .u8 11), (.int .u8 5), (.int .u8 10), (.int .u8 9)])) (.t 10)),
 oP 12 (.load false 1 (.t 11)),
 oP 13 (.conv .i64 (.t 12)),
 mV 2 13]) .ret))),
 false, false⟩

/- natural_shr -/
def c_natural_shr_l0 : AC := (.seq (.region false [oP 26 (.bin .num .lss (.t 25) (.t 24))]) (.seq (.cond (.t 26) .skip (.exit 0)) (.seq (.block 1 (.seq (.region false [mV 27 25,
 oP 28 (.iaddr 1 (.t 23) (.t 25)),
 oP 29 (.load false 1 (.t 28)),
 mV 6 27,
 mV 7 29]) (.seq (.region false [mV 30 7,
 oP 31 (.conv .u64 (.t 30)),
 mV 8 31]) (.seq (.seq (.region false [mV 32 6,
 oP 33 (.bin .num .add (.t 32) (.c (.int .i64 1))),
 mV 34 0,
 oP 35 (.len (.t 34)),
 oP 36 (.bin .num .lss (.t 33) (.t 35))]) (.cond (.t 36) (.region false [mV 37 8,
 mV 38 0,
 mV 39 6,
 oP 40 (.bin .num .add (.t 39) (.c (.int .i64 1))),
 oP 41 (.iaddr 1 (.t 38) (.t 40)),
 oP 42 (.load false 1 (.t 41)),
 oP 43 (.conv .u64 (.t 42)),
 oP 44 (.bin .num .shl (.t 43) (.c (.int .u64 32))),
 oP 45 (.bin .num .or (.t 37) (.t 44)),
 mV 8 45]) .skip)) (.region false [mV 46 5,
 mV 47 6,
 mV 48 8,
 mV 49 1,
 oP 50 (.bin .num .rem (.t 49) (.c (.int .i64 32))),
 oP 51 (.bin .num .shr (.t 48) (.t 50)),
 oP 52 (.conv .u32 (.t 51)),
 oP 53 (.iaddr 1 (.t 46) (.t 47)),
 ⟨none, .store 1 (.t 53) (.t 52), none, false⟩]))))) (.region false [oP 54 (.bin .num .add (.t 25) (.c (.int .i64 1))),
 mV 25 54]))))
@[simp] def c_natural_shr : AFn := ⟨[(.tmp 4)],
 (.seq (.region false [oP 4 (.mv (.c .nil))]) (.seq (.region false [mV 9 0,
 oP 10 (.call (.f 111) [(.t 9)]),
 mV 0 10]) (.seq (.seq (.region false [mV 11 1,
 oP 12 (.bin .num .quo (.t 11) (.c (.int .i64 32))),
 mV 13 0,
 oP 14 (.len (.t 13)),
 oP 15 (.bin .num .geq (.t 12) (.t 14))]) (.cond (.t 15) (.seq (.region false [oP 4 (.mv (.c .nil))]) .ret) .skip)) (.seq (.region false [mV 16 0,
 mV 17 1,
 oP 18 (.bin .num .quo (.t 17) (.c (.int .i64 32))),
 oP 19 (.slice 1 (.t 16) (some (.t 18)) none none),
 mV 0 19]) (.seq (.region false [mV 20 0,
 oP 21 (.len (.t 20)),
 oP 22 (.mkslice 1 4 (.int .u32 0) (.t 21) (.t 21)),
 mV 5 22]) (.seq (.seq (.region false [mV 23 0,
 oP 24 (.len (.t 23)),
 oP 25 (.mv (.c (.int .i64 0)))]) (.block 0 (.loop c_natural_shr_l0))) (.seq (.region false [mV 55 5,
 mV 4 55]) .ret))))))),
 false, false⟩

/- fpref01_Sub -/
def c_fpref01_Sub_l0 : AC := (.seq (.seq (.region false [mV 9 7,
 mV 10 0,
 oP 11 (.len (.t 10)),
 oP 12 (.bin .num .lss (.t 9) (.t 11))]) (.cond (.t 12) .skip (.exit 0))) (.seq (.block 1 (.seq (.region false [mV 15 0,
 mV 16 7,
 oP 17 (.call (.f 249) [(.t 15), (.t 16)]),
 oP 18 (.bin .num .add (.t 17) (.c (.int .u64 4294967296))),
 mV 19 1,
 mV 20 7,
 oP 21 (.call (.f 249) [(.t 19), (.t 20)]),
 oP 22 (.bin .num .sub (.t 18) (.t 21)),
 mV 23 6,
 oP 24 (.bin .num .sub (.t 22) (.t 23)),
 mV 8 24]) (.seq (.region false [mV 25 5,
 mV 26 8,
 oP 27 (.bin .num .and (.t 26) (.c (.int .u64 4294967295))),
 oP 28 (.conv .u32 (.t 27)),
 oP 29 (.bslice 1 1 (.int .u32 0) [(0, (.t 28))]),
 oP 30 (.append 1 4 (.t 25) (.t 29)),
 mV 5 30]) (.region false [mV 31 8,
 oP 32 (.bin .num .shr (.t 31) (.c (.int .u64 32))),
 oP 33 (.bin .num .sub (.c (.int .u64 1)) (.t 32)),
 mV 6 33])))) (.region false [mV 13 7,
 oP 14 (.bin .num .add (.t 13) (.c (.int .i64 1))),
 mV 7 14])))
@[simp] def c_fpref01_Sub : AFn := ⟨[(.tmp 4)],
 (.seq (.region false [oP 4 (.mv (.c .nil))]) (.seq (.region false [oP 5 (.mv (.c .nil))]) (.seq (.region false [oP 6 (.mv (.c (.int .u64 0)))]) (.seq (.seq (.region false [oP 7 (.mv (.c (.int .i64 0)))]) (.block 0 (.loop c_fpref01_Sub_l0))) (.seq (.region false [mV 34 5,
 oP 35 (.call (.f 247) [(.t 34)]),
 mV 4 35]) .ret))))),
 false, false⟩

/- natural_add -/
def c_natural_add_l0 : AC := (.seq (.region false [oP 24 (.bin .num .lss (.t 23) (.t 22))]) (.seq (.cond (.t 24) .skip (.exit 0)) (.seq (.block 1 (.seq (.region false [mV 25 23,
 oP 26 (.iaddr 1 (.t 21) (.t 23)),
 oP 27 (.load false 1 (.t 26)),
 mV 7 25,
 mV 8 27]) (.seq (.region false [oP 9 (.mv (.c (.int .u32 0)))]) (.seq (.seq (.region false [mV 28 7,
 mV 29 1,
 oP 30 (.len (.t 29)),
 oP 31 (.bin .num .lss (.t 28) (.t 30))]) (.cond (.t 31) (.region false [mV 32 1,
 mV 33 7,
 oP 34 (.iaddr 1 (.t 32) (.t 33)),
 oP 35 (.load false 1 (.t 34)),
 mV 9 35]) .skip)) (.region false [mV 37 5,
 mV 38 7,
 mV 39 8,
 mV 40 9,
 mV 41 6,
 oP 42 (.call (.f 271) [(.t 39), (.t 40), (.t 41)]),
 mV 36 42,
 oP 43 (.extract 0 (.t 36)),
 oP 44 (.extract 1 (.t 36)),
 oP 45 (.iaddr 1 (.t 37) (.t 38)),
 ⟨none, .store 1 (.t 45) (.t 43), none, false⟩,
 mV 6 44]))))) (.region false [oP 46 (.bin .num .add (.t 23) (.c (.int .i64 1))),
 mV 23 46]))))
@[simp] def c_natural_add : AFn := ⟨[(.tmp 4)],
 (.seq (.region false [oP 4 (.mv (.c .nil))]) (.seq (.seq (.region false [mV 10 0,
 oP 11 (.len (.t 10)),
 mV 12 1,
 oP 13 (.len (.t 12)),
 oP 14 (.bin .num .lss (.t 11) (.t 13))]) (.cond (.t 14) (.region false [mV 15 1,
 mV 16 0,
 mV 0 15,
 mV 1 16]) .skip)) (.seq (.region false [mV 17 0,
 oP 18 (.len (.t 17)),
 oP 19 (.bin .num .add (.t 18) (.c (.int .i64 1))),
 oP 20 (.mkslice 1 4 (.int .u32 0) (.t 19) (.t 19)),
 mV 5 20]) (.seq (.region false [oP 6 (.mv (.c (.int .u32 0)))]) (.seq (.seq (.region false [mV 21 0,
 oP 22 (.len (.t 21)),
 oP 23 (.mv (.c (.int .i64 0)))]) (.block 0 (.loop c_natural_add_l0))) (.seq (.region false [mV 47 5,
 mV 48 0,
 oP 49 (.len (.t 48)),
 mV 50 6,
 oP 51 (.iaddr 1 (.t 47) (.t 49)),
 ⟨none, .store 1 (.t 51) (.t 50), none, false⟩]) (.seq (.region false [mV 52 5,
 mV 4 52]) .ret))))))),
 false, false⟩

/- dyadic_Make -/
@[simp] def c_dyadic_Make : AFn := ⟨[(.cell 6 true 3), (.tmp 7)],
 (.seq (.region false [oP 6 (.new 3 (.agg [(.bool false), .nil, (.int .i64 0)])),
 oP 7 (.mv (.c (.int .i64 0)))]) (.seq (.seq (.region false [mV 8 1,
 oP 9 (.len (.t 8)),
 oP 10 (.bin .num .gtr (.t 9) (.c (.int .i64 256))),
 mV 11 10,
 gF 12 11 (.mv (.t 2)),
 gF 13 11 (.call (.f 223) [(.t 12)]),
 gF 14 11 (.un .not (.t 13)),
 oP 15 (.pick (.t 11) (.c (.bool true)) (.t 14))]) (.cond (.t 15) (.seq (.region false [oP 16 (.build [(.bool false), .nil, (.int .i64 0)] []),
 ⟨none, .store 3 (.t 6) (.t 16), none, false⟩,
 oP 7 (.mv (.c (.int .i64 1)))]) .ret) .skip)) (.seq (.region false [mV 17 0,
 mV 18 1,
 mV 19 2,
 oP 20 (.call (.f 225) [(.t 17), (.t 18), (.t 19)]),
 oP 21 (.call (.f 224) [(.t 20)]),
 oP 22 (.extract 0 (.t 21)),
 oP 23 (.extract 1 (.t 21)),
 ⟨none, .store 3 (.t 6) (.t 22), none, false⟩,
 mV 7 23]) .ret))),
 false, false⟩

/- natural_sub -/
def c_natural_sub_l0 : AC := (.seq (.region false [oP 20 (.bin .num .lss (.t 19) (.t 18))]) (.seq (.cond (.t 20) .skip (.exit 0)) (.seq (.block 1 (.seq (.region false [mV 21 19,
 oP 22 (.iaddr 1 (.t 17) (.t 19)),
 oP 23 (.load false 1 (.t 22)),
 mV 7 21,
 mV 8 23]) (.seq (.region false [oP 9 (.mv (.c (.int .u32 0)))]) (.seq (.seq (.region false [mV 24 7,
 mV 25 1,
 oP 26 (.len (.t 25)),
 oP 27 (.bin .num .lss (.t 24) (.t 26))]) (.cond (.t 27) (.region false [mV 28 1,
 mV 29 7,
 oP 30 (.iaddr 1 (.t 28) (.t 29)),
 oP 31 (.load false 1 (.t 30)),
 mV 9 31]) .skip)) (.region false [mV 33 5,
 mV 34 7,
 mV 35 8,
 mV 36 9,
 mV 37 6,
 oP 38 (.call (.f 272) [(.t 35), (.t 36), (.t 37)]),
 mV 32 38,
 oP 39 (.extract 0 (.t 32)),
 oP 40 (.extract 1 (.t 32)),
 oP 41 (.iaddr 1 (.t 33) (.t 34)),
 ⟨none, .store 1 (.t 41) (.t 39), none, false⟩,
 mV 6 40]))))) (.region false [oP 42 (.bin .num .add (.t 19) (.c (.int .i64 1))),
 mV 19 42]))))
@[simp] def c_natural_sub : AFn := ⟨[(.tmp 4)],
 (.seq (.region false [oP 4 (.mv (.c .nil))]) (.seq (.region false [mV 10 0,
 oP 11 (.call (.f 111) [(.t 10)]),
 mV 12 1,
 oP 13 (.call (.f 111) [(.t 12)]),
 mV 0 11,
 mV 1 13]) (.seq (.region false [mV 14 0,
 oP 15 (.len (.t 14)),
 oP 16 (.mkslice 1 4 (.int .u32 0) (.t 15) (.t 15)),
 mV 5 16]) (.seq (.region false [oP 6 (.mv (.c (.int .u32 0)))]) (.seq (.seq (.region false [mV 17 0,
 oP 18 (.len (.t 17)),
 oP 19 (.mv (.c (.int .i64 0)))]) (.block 0 (.loop c_natural_sub_l0))) (.seq (.region false [mV 43 5,
 mV 4 43]) .ret)))))),
 false, false⟩

/- natural_short -/
def c_natural_short_l0 : AC := (.seq (.seq (.region false [mV 15 8,
 oP 16 (.bin .num .geq (.t 15) (.c (.int .i64 0)))]) (.cond (.t 16) .skip (.exit 0))) (.seq (.block 1 (.region false [mV 20 6,
 mV 21 8,
 mV 22 7,
 mV 23 0,
 mV 24 8,
 oP 25 (.iaddr 1 (.t 23) (.t 24)),
 oP 26 (.load false 1 (.t 25)),
 mV 27 1,
 oP 28 (.call (.f 273) [(.t 22), (.t 26), (.t 27)]),
 mV 19 28,
 oP 29 (.extract 0 (.t 19)),
 oP 30 (.extract 1 (.t 19)),
 oP 31 (.iaddr 1 (.t 20) (.t 21)),
 ⟨none, .store 1 (.t 31) (.t 29), none, false⟩,
 mV 7 30])) (.region false [mV 17 8,
 oP 18 (.bin .num .sub (.t 17) (.c (.int .i64 1))),
 mV 8 18])))
@[simp] def c_natural_short : AFn := ⟨[(.tmp 4), (.tmp 5)],
 (.seq (.region false [oP 4 (.mv (.c .nil)),
 oP 5 (.mv (.c (.int .u32 0)))]) (.seq (.region false [mV 9 0,
 oP 10 (.len (.t 9)),
 oP 11 (.mkslice 1 4 (.int .u32 0) (.t 10) (.t 10)),
 mV 6 11]) (.seq (.region false [oP 7 (.mv (.c (.int .u32 0)))]) (.seq (.seq (.region false [mV 12 0,
 oP 13 (.len (.t 12)),
 oP 14 (.bin .num .sub (.t 13) (.c (.int .i64 1))),
 mV 8 14]) (.block 0 (.loop c_natural_short_l0))) (.seq (.region false [mV 32 6,
 mV 33 7,
 mV 4 32,
 mV 5 33]) .ret))))),
 false, false⟩

/- math_bits_LeadingZeros32 -/
@[simp] def c_math_bits_LeadingZeros32 : AFn := ⟨[(.tmp 2)],
 (.seq (.region false [oP 2 (.mv (.c (.int .i64 0)))]) (.seq (.region false [mV 3 0,
 oP 4 (.call (.f 113) [(.t 3)]),
 oP 5 (.bin .num .sub (.c (.int .i64 32)) (.t 4)),
 mV 2 5]) .ret)),
 false, false⟩

/- natural_guess -/
@[simp] def c_natural_guess : AFn := ⟨[(.tmp 10)],
 (.seq (.region false [oP 10 (.mv (.c (.int .u64 0)))]) (.seq (.seq (.region false [mV 12 0,
 mV 13 3,
 oP 14 (.bin .num .geq (.t 12) (.t 13))]) (.cond (.t 14) (.seq (.region false [mV 15 0,
 mV 16 3,
 oP 17 (.bin .num .sub (.t 15) (.t 16)),
 oP 18 (.conv .u64 (.t 17)),
 oP 19 (.bin .num .shl (.t 18) (.c (.int .u64 32))),
 mV 20 1,
 oP 21 (.conv .u64 (.t 20)),
 oP 22 (.bin .num .add (.t 19) (.t 21)),
 mV 23 3,
 oP 24 (.conv .u64 (.t 23)),
 oP 25 (.bin .num .add (.t 22) (.t 24)),
 mV 26 2,
 mV 27 3,
 mV 28 4,
 oP 29 (.call (.f 274) [(.c (.int .u64 4294967295)), (.t 25), (.t 26), (.t 27), (.t 28)]),
 mV 10 29]) .ret) .skip)) (.seq (.region false [mV 30 0,
 oP 31 (.conv .u64 (.t 30)),
 oP 32 (.bin .num .shl (.t 31) (.c (.int .u64 32))),
 mV 33 1,
 oP 34 (.conv .u64 (.t 33)),
 oP 35 (.bin .num .or (.t 32) (.t 34)),
 mV 11 35]) (.seq (.region true [mV 36 11,
 mV 37 3,
 oP 38 (.conv .u64 (.t 37)),
 oP 39 (.bin .num .quo (.t 36) (.t 38)),
 mV 40 11,
 mV 41 3,
 oP 42 (.conv .u64 (.t 41)),
 oP 43 (.bin .num .rem (.t 40) (.t 42)),
 mV 44 2,
 mV 45 3,
 mV 46 4,
 oS 47 (.call (.f 274) [(.t 39), (.t 43), (.t 44), (.t 45), (.t 46)]),
 mV 10 47]) .ret)))),
 false, false⟩

/- natural_take -/
def c_natural_take_l0 : AC := (.seq (.region false [oP 17 (.bin .num .lss (.t 16) (.t 15))]) (.seq (.cond (.t 17) .skip (.exit 0)) (.seq (.block 1 (.seq (.region false [mV 18 16,
 oP 19 (.iaddr 1 (.t 14) (.t 16)),
 oP 20 (.load false 1 (.t 19)),
 mV 9 18,
 mV 10 20]) (.seq (.region false [mV 21 2,
 mV 22 10,
 oP 23 (.conv .u64 (.t 22)),
 oP 24 (.bin .num .mul (.t 21) (.t 23)),
 mV 25 7,
 oP 26 (.bin .num .add (.t 24) (.t 25)),
 mV 11 26]) (.seq (.region false [mV 27 11,
 oP 28 (.bin .num .shr (.t 27) (.c (.int .u64 32))),
 mV 7 28]) (.seq (.region false [mV 29 0,
 mV 30 9,
 oP 31 (.iaddr 1 (.t 29) (.t 30)),
 oP 32 (.load false 1 (.t 31)),
 oP 33 (.conv .u64 (.t 32)),
 mV 34 11,
 oP 35 (.bin .num .and (.t 34) (.c (.int .u64 4294967295))),
 oP 36 (.bin .num .sub (.t 33) (.t 35)),
 mV 37 8,
 oP 38 (.bin .num .sub (.t 36) (.t 37)),
 mV 12 38]) (.region false [mV 39 0,
 mV 40 9,
 mV 41 12,
 oP 42 (.conv .u32 (.t 41)),
 mV 43 12,
 oP 44 (.bin .num .shr (.t 43) (.c (.int .u64 63))),
 oP 45 (.iaddr 1 (.t 39) (.t 40)),
 ⟨none, .store 1 (.t 45) (.t 42), none, false⟩,
 mV 8 44])))))) (.region false [oP 46 (.bin .num .add (.t 16) (.c (.int .i64 1))),
 mV 16 46]))))
@[simp] def c_natural_take : AFn := ⟨[(.tmp 6)],
 (.seq (.region false [oP 6 (.mv (.c (.bool false)))]) (.seq (.region false [oP 7 (.mv (.c (.int .u64 0))),
 oP 8 (.mv (.c (.int .u64 0)))]) (.seq (.seq (.region false [mV 14 1,
 oP 15 (.len (.t 14)),
 oP 16 (.mv (.c (.int .i64 0)))]) (.block 0 (.loop c_natural_take_l0))) (.seq (.region false [mV 47 0,
 mV 48 1,
 oP 49 (.len (.t 48)),
 oP 50 (.iaddr 1 (.t 47) (.t 49)),
 oP 51 (.load false 1 (.t 50)),
 oP 52 (.conv .u64 (.t 51)),
 mV 53 7,
 oP 54 (.bin .num .sub (.t 52) (.t 53)),
 mV 55 8,
 oP 56 (.bin .num .sub (.t 54) (.t 55)),
 mV 13 56]) (.seq (.region false [mV 57 0,
 mV 58 1,
 oP 59 (.len (.t 58)),
 mV 60 13,
 oP 61 (.conv .u32 (.t 60)),
 oP 62 (.iaddr 1 (.t 57) (.t 59)),
 ⟨none, .store 1 (.t 62) (.t 61), none, false⟩]) (.seq (.region false [mV 63 13,
 oP 64 (.bin .num .shr (.t 63) (.c (.int .u64 63))),
 oP 65 (.bin .num .eql (.t 64) (.c (.int .u64 1))),
 mV 6 65]) .ret)))))),
 false, true⟩

/- math_bits_Add32 -/
@[simp] def c_math_bits_Add32 : AFn := ⟨[(.tmp 6), (.tmp 7)],
 (.seq (.region false [oP 6 (.mv (.c (.int .u32 0))),
 oP 7 (.mv (.c (.int .u32 0)))]) (.seq (.region false [mV 9 0,
 oP 10 (.conv .u64 (.t 9)),
 mV 11 1,
 oP 12 (.conv .u64 (.t 11)),
 oP 13 (.bin .num .add (.t 10) (.t 12)),
 mV 14 2,
 oP 15 (.conv .u64 (.t 14)),
 oP 16 (.bin .num .add (.t 13) (.t 15)),
 mV 8 16]) (.seq (.region false [mV 17 8,
 oP 18 (.conv .u32 (.t 17)),
 mV 6 18]) (.seq (.region false [mV 19 8,
 oP 20 (.bin .num .shr (.t 19) (.c (.int .u64 32))),
 oP 21 (.conv .u32 (.t 20)),
 mV 7 21]) .ret)))),
 false, false⟩

/- math_bits_Sub32 -/
@[simp] def c_math_bits_Sub32 : AFn := ⟨[(.tmp 6), (.tmp 7)],
 (.seq (.region false [oP 6 (.mv (.c (.int .u32 0))),
 oP 7 (.mv (.c (.int .u32 0)))]) (.seq (.region false [mV 8 0,
 mV 9 1,
 oP 10 (.bin .num .sub (.t 8) (.t 9)),
 mV 11 2,
 oP 12 (.bin .num .sub (.t 10) (.t 11)),
 mV 6 12]) (.seq (.region false [mV 13 0,
 oP 14 (.un .xor (.t 13)),
 mV 15 1,
 oP 16 (.bin .num .and (.t 14) (.t 15)),
 mV 17 0,
 mV 18 1,
 oP 19 (.bin .num .xor (.t 17) (.t 18)),
 oP 20 (.un .xor (.t 19)),
 mV 21 6,
 oP 22 (.bin .num .and (.t 20) (.t 21)),
 oP 23 (.bin .num .or (.t 16) (.t 22)),
 oP 24 (.bin .num .shr (.t 23) (.c (.int .u64 31))),
 mV 7 24]) .ret))),
 false, false⟩

/- math_bits_Div32 -/
@[simp] def c_math_bits_Div32 : AFn := ⟨[(.tmp 6), (.tmp 7)],
 (.seq (.region false [oP 6 (.mv (.c (.int .u32 0))),
 oP 7 (.mv (.c (.int .u32 0)))]) (.seq (.seq (.region false [mV 9 2,
 oP 10 (.bin .num .neq (.t 9) (.c (.int .u32 0))),
 mV 11 10,
 gT 12 11 (.mv (.t 2)),
 gT 13 11 (.mv (.t 0)),
 gT 14 11 (.bin .num .leq (.t 12) (.t 13)),
 oP 15 (.pick (.t 11) (.t 14) (.c (.bool false)))]) (.cond (.t 15) .stop .skip)) (.seq (.region false [mV 17 0,
 oP 18 (.conv .u64 (.t 17)),
 oP 19 (.bin .num .shl (.t 18) (.c (.int .u64 32))),
 mV 20 1,
 oP 21 (.conv .u64 (.t 20)),
 oP 22 (.bin .num .or (.t 19) (.t 21)),
 mV 8 22]) (.seq (.region true [mV 23 8,
 mV 24 2,
 oP 25 (.conv .u64 (.t 24)),
 oP 26 (.bin .num .quo (.t 23) (.t 25)),
 oP 27 (.conv .u32 (.t 26)),
 mV 28 8,
 mV 29 2,
 oP 30 (.conv .u64 (.t 29)),
 oP 31 (.bin .num .rem (.t 28) (.t 30)),
 oP 32 (.conv .u32 (.t 31)),
 mV 6 27,
 mV 7 32]) .ret)))),
 false, false⟩

/- natural_digit -/
def c_natural_digit_l0 : AC := (.seq (.seq (.region false [mV 11 1,
 oP 12 (.bin .num .lss (.t 11) (.c (.int .u64 4294967296))),
 mV 13 12,
 gT 14 13 (.mv (.t 0)),
 gT 15 13 (.mv (.t 4)),
 gT 16 13 (.conv .u64 (.t 15)),
 gT 17 13 (.bin .num .mul (.t 14) (.t 16)),
 gT 18 13 (.mv (.t 1)),
 gT 19 13 (.bin .num .shl (.t 18) (.c (.int .u64 32))),
 gT 20 13 (.mv (.t 2)),
 gT 21 13 (.conv .u64 (.t 20)),
 gT 22 13 (.bin .num .or (.t 19) (.t 21)),
 gT 23 13 (.bin .num .gtr (.t 17) (.t 22)),
 oP 24 (.pick (.t 13) (.t 23) (.c (.bool false)))]) (.cond (.t 24) .skip (.exit 0))) (.block 1 (.seq (.region false [mV 25 0,
 oP 26 (.bin .num .sub (.t 25) (.c (.int .u64 1))),
 mV 0 26]) (.region false [mV 27 1,
 mV 28 3,
 oP 29 (.conv .u64 (.t 28)),
 oP 30 (.bin .num .add (.t 27) (.t 29)),
 mV 1 30]))))
@[simp] def c_natural_digit : AFn := ⟨[(.tmp 10)],
 (.seq (.region false [oP 10 (.mv (.c (.int .u64 0)))]) (.seq (.block 0 (.loop c_natural_digit_l0)) (.seq (.region false [mV 31 0,
 mV 10 31]) .ret))),
 false, false⟩

end Go.Abs
/- MADE BY A PROGRAM (wip/tools/dump.sh, addcode.py): the abstract code of the functions that a further seat reaches. -/
namespace Go.Abs

/- fplaw21_SeriesRules -/
@[simp] def c_fplaw21_SeriesRules : AFn := ⟨[(.tmp 6)],
 (.seq (.region false [oP 6 (.mv (.c (.bool false)))]) (.seq (.seq (.region false [oP 11 (.call (.f 280) []),
 oP 12 (.un .not (.t 11))]) (.cond (.t 12) (.seq (.region false [oP 6 (.mv (.c (.bool false)))]) .ret) .skip)) (.seq (.seq (.region false [mV 13 2,
 mV 14 0,
 mV 15 1,
 oP 16 (.bslice 1 2 .nil [(0, (.t 14)), (1, (.t 15))]),
 oP 17 (.call (.f 281) [(.t 13), (.t 16)]),
 mV 18 17,
 gF 19 18 (.mv (.t 0)),
 gF 20 18 (.mv (.t 1)),
 gF 21 18 (.call (.f 296) [(.t 19), (.t 20)]),
 gF 22 18 (.un .not (.t 21)),
 oP 23 (.pick (.t 18) (.c (.bool true)) (.t 22)),
 mV 24 23,
 gF 25 24 (.mv (.t 0)),
 gF 26 24 (.len (.t 25)),
 gF 27 24 (.bin .num .lss (.t 26) (.c (.int .i64 2))),
 oP 28 (.pick (.t 24) (.c (.bool true)) (.t 27)),
 mV 29 28,
 gF 30 29 (.mv (.t 0)),
 gF 31 29 (.mv (.t 1)),
 gF 32 29 (.bslice 1 2 .nil [(0, (.t 30)), (1, (.t 31))]),
 gF 33 29 (.call (.f 298) [(.t 32)]),
 gF 34 29 (.call (.f 67) [(.t 33), (.f 299)]),
 oP 35 (.pick (.t 29) (.c (.bool true)) (.t 34))]) (.cond (.t 35) (.seq (.region false [oP 6 (.mv (.c (.bool true)))]) .ret) .skip)) (.seq (.region false [oP 7 (.mv (.f 300))]) (.seq (.region false [mV 36 0,
 oP 37 (.len (.t 36)),
 oP 38 (.bin .num .sub (.t 37) (.c (.int .i64 1))),
 mV 8 38]) (.seq (.region false [mV 39 0,
 mV 40 1,
 mV 41 2,
 oP 42 (.call (.f 302) [(.t 39), (.t 40), (.t 41)]),
 mV 43 2,
 oP 44 (.call (.f 283) [(.t 42), (.t 43)]),
 mV 9 44]) (.seq (.region true [mV 45 0,
 mV 46 2,
 oS 47 (.call (.f 283) [(.t 45), (.t 46)]),
 mV 48 1,
 mV 49 8,
 oP 50 (.slice 7 (.t 48) none (some (.t 49)) none),
 mV 51 2,
 oS 52 (.call (.f 302) [(.t 47), (.t 50), (.t 51)]),
 mV 53 0,
 mV 54 8,
 oP 55 (.slice 7 (.t 53) none (some (.t 54)) none),
 mV 56 1,
 mV 57 2,
 oS 58 (.call (.f 283) [(.t 56), (.t 57)]),
 mV 59 2,
 oS 60 (.call (.f 302) [(.t 55), (.t 58), (.t 59)]),
 mV 61 2,
 oS 62 (.call (.f 294) [(.t 52), (.t 60), (.t 61)]),
 mV 10 62]) (.seq (.region true [mV 63 7,
 mV 64 9,
 mV 65 10,
 oS 66 (.call (.t 63) [(.t 64), (.t 65)]),
 mV 67 66,
 gT 68 67 (.mv (.t 7)),
 gT 69 67 (.mv (.t 0)),
 gT 70 67 (.mv (.t 8)),
 gT 71 67 (.slice 7 (.t 69) none (some (.t 70)) none),
 gT 72 67 (.mv (.t 0)),
 gT 73 67 (.iaddr 7 (.t 72) (.c (.int .i64 0))),
 gT 74 67 (.load true 7 (.t 73)),
 gT 75 67 (.mv (.t 2)),
 ⟨some 76, .call (.f 282) [(.t 71), (.t 74), (.t 75)], some (67, true), true⟩,
 gT 77 67 (.mv (.t 2)),
 ⟨some 78, .call (.f 283) [(.t 76), (.t 77)], some (67, true), true⟩,
 gT 79 67 (.mv (.t 0)),
 gT 80 67 (.mv (.t 8)),
 gT 81 67 (.slice 7 (.t 79) none (some (.t 80)) none),
 ⟨some 82, .call (.t 68) [(.t 78), (.t 81)], some (67, true), true⟩,
 oP 83 (.pick (.t 67) (.t 82) (.c (.bool false))),
 mV 6 83]) .ret)))))))),
 false, false⟩

/- fplaw21_SeriesIsotone -/
def c_fplaw21_SeriesIsotone_l0 : AC := (.seq (.region false [oP 66 (.bin .num .lss (.t 65) (.t 64))]) (.seq (.cond (.t 66) .skip (.exit 0)) (.seq (.block 1 (.seq (.region false [oP 67 (.iaddr 1 (.t 63) (.t 65)),
 oP 68 (.load false 1 (.t 67)),
 mV 17 68]) (.seq (.region false [mV 69 17,
 mV 70 0,
 mV 71 1,
 mV 72 5,
 oP 73 (.call (.t 69) [(.t 70), (.t 71), (.t 72)]),
 mV 74 17,
 mV 75 14,
 mV 76 15,
 mV 77 5,
 oP 78 (.call (.t 74) [(.t 75), (.t 76), (.t 77)]),
 oP 79 (.call (.f 310) [(.t 73), (.t 78)]),
 oP 80 (.un .not (.t 79))]) (.cond (.t 80) (.seq (.region false [oP 12 (.mv (.c (.bool false)))]) .ret) .skip)))) (.region false [oP 81 (.bin .num .add (.t 65) (.c (.int .i64 1))),
 mV 65 81]))))
@[simp] def c_fplaw21_SeriesIsotone : AFn := ⟨[(.tmp 12)],
 (.seq (.region false [oP 12 (.mv (.c (.bool false)))]) (.seq (.seq (.region false [oP 18 (.call (.f 280) []),
 oP 19 (.un .not (.t 18))]) (.cond (.t 19) (.seq (.region false [oP 12 (.mv (.c (.bool false)))]) .ret) .skip)) (.seq (.seq (.region false [mV 20 5,
 mV 21 0,
 mV 22 1,
 mV 23 2,
 mV 24 3,
 oP 25 (.bslice 1 4 .nil [(0, (.t 21)), (1, (.t 22)), (2, (.t 23)), (3, (.t 24))]),
 oP 26 (.call (.f 281) [(.t 20), (.t 25)]),
 mV 27 26,
 gF 28 27 (.mv (.t 0)),
 gF 29 27 (.mv (.t 1)),
 gF 30 27 (.call (.f 296) [(.t 28), (.t 29)]),
 gF 31 27 (.un .not (.t 30)),
 oP 32 (.pick (.t 27) (.c (.bool true)) (.t 31)),
 mV 33 32,
 gF 34 33 (.mv (.t 2)),
 gF 35 33 (.mv (.t 3)),
 gF 36 33 (.call (.f 296) [(.t 34), (.t 35)]),
 gF 37 33 (.un .not (.t 36)),
 oP 38 (.pick (.t 33) (.c (.bool true)) (.t 37)),
 mV 39 38,
 gF 40 39 (.mv (.t 0)),
 gF 41 39 (.len (.t 40)),
 gF 42 39 (.mv (.t 2)),
 gF 43 39 (.len (.t 42)),
 gF 44 39 (.bin .num .neq (.t 41) (.t 43)),
 oP 45 (.pick (.t 39) (.c (.bool true)) (.t 44)),
 mV 46 45,
 gF 47 46 (.mv (.t 0)),
 gF 48 46 (.mv (.t 1)),
 gF 49 46 (.mv (.t 2)),
 gF 50 46 (.mv (.t 3)),
 gF 51 46 (.bslice 1 4 .nil [(0, (.t 47)), (1, (.t 48)), (2, (.t 49)), (3, (.t 50))]),
 gF 52 46 (.call (.f 298) [(.t 51)]),
 gF 53 46 (.call (.f 67) [(.t 52), (.f 308)]),
 oP 54 (.pick (.t 46) (.c (.bool true)) (.t 53))]) (.cond (.t 54) (.seq (.region false [oP 12 (.mv (.c (.bool true)))]) .ret) .skip)) (.seq (.region false [oP 13 (.mv (.f 309))]) (.seq (.region false [mV 55 13,
 mV 56 0,
 mV 57 2,
 oP 58 (.call (.t 55) [(.t 56), (.t 57)]),
 mV 59 13,
 mV 60 1,
 mV 61 3,
 oP 62 (.call (.t 59) [(.t 60), (.t 61)]),
 mV 14 58,
 mV 15 62]) (.seq (.seq (.region false [oP 63 (.bslice 1 4 .nilfn [(0, (.f 294)), (1, (.f 295)), (2, (.f 302)), (3, (.f 303))]),
 oP 64 (.len (.t 63)),
 oP 65 (.mv (.c (.int .i64 0)))]) (.block 0 (.loop c_fplaw21_SeriesIsotone_l0))) (.seq (.region false [mV 82 0,
 mV 83 4,
 mV 84 5,
 oP 85 (.call (.f 304) [(.t 82), (.t 83), (.t 84)]),
 mV 86 14,
 mV 87 4,
 mV 88 5,
 oP 89 (.call (.f 304) [(.t 86), (.t 87), (.t 88)]),
 oP 90 (.call (.f 310) [(.t 85), (.t 89)]),
 mV 91 90,
 gT 92 91 (.mv (.t 0)),
 gT 93 91 (.mv (.t 5)),
 gT 94 91 (.call (.f 311) [(.t 92), (.t 93)]),
 gT 95 91 (.mv (.t 14)),
 gT 96 91 (.mv (.t 5)),
 gT 97 91 (.call (.f 311) [(.t 95), (.t 96)]),
 gT 98 91 (.call (.f 310) [(.t 94), (.t 97)]),
 oP 99 (.pick (.t 91) (.t 98) (.c (.bool false))),
 mV 12 99]) .ret))))))),
 false, false⟩

/- fplaw21_awake -/
@[simp] def c_fplaw21_awake : AFn := ⟨[(.tmp 0)],
 (.seq (.region false [oP 0 (.mv (.c (.bool false)))]) (.seq (.region false [oP 5 (.call (.f 293) [(.c (.int .i64 1))]),
 oP 6 (.call (.f 291) [(.t 5), (.c (.int .i64 2))]),
 mV 1 6]) (.seq (.region false [oP 7 (.call (.f 293) [(.c (.int .i64 1))]),
 oP 8 (.call (.f 158) [(.t 7), (.c (.int .i64 (-1)))]),
 oP 2 (.new 7 (.agg [(.bool false), .nil, (.int .i64 0), (.bool false), .nil, (.int .i64 0), (.bool false)])),
 ⟨none, .store 7 (.t 2) (.t 8), none, false⟩]) (.seq (.region false [mV 9 1,
 oP 10 (.call (.f 311) [(.t 9), (.c (.int .i64 24))]),
 mV 3 10]) (.seq (.region false [oP 11 (.call (.f 293) [(.c (.int .i64 1))]),
 oP 12 (.call (.f 290) [(.t 11), (.c (.int .i64 2))]),
 mV 13 1,
 oP 14 (.call (.f 303) [(.t 12), (.t 13), (.c (.int .i64 24))]),
 mV 4 14]) (.seq (.region true [mV 15 3,
 oP 16 (.call (.f 293) [(.c (.int .i64 1))]),
 oP 17 (.load true 7 (.t 2)),
 oP 18 (.call (.f 293) [(.c (.int .i64 (-1)))]),
 oP 19 (.call (.f 158) [(.t 18), (.c (.int .i64 (-3)))]),
 oS 20 (.bslice 7 3 (.agg [(.bool false), .nil, (.int .i64 0), (.bool false), .nil, (.int .i64 0), (.bool false)]) [(0, (.t 16)), (1, (.t 17)), (2, (.t 19))]),
 oS 21 (.call (.f 286) [(.t 15), (.t 20)]),
 mV 22 21,
 gT 23 22 (.mv (.t 4)),
 ⟨some 24, .call (.f 293) [(.c (.int .i64 1))], some (22, true), true⟩,
 ⟨some 25, .call (.f 293) [(.c (.int .i64 (-1)))], some (22, true), true⟩,
 ⟨some 26, .call (.f 293) [(.c (.int .i64 1))], some (22, true), true⟩,
 ⟨some 27, .bslice 7 3 (.agg [(.bool false), .nil, (.int .i64 0), (.bool false), .nil, (.int .i64 0), (.bool false)]) [(0, (.t 24)), (1, (.t 25)), (2, (.t 26))], some (22, true), true⟩,
 ⟨some 28, .call (.f 286) [(.t 23), (.t 27)], some (22, true), true⟩,
 oP 29 (.pick (.t 22) (.t 28) (.c (.bool false))),
 mV 0 29]) .ret)))))),
 false, false⟩

/- fplaw21_great -/
@[simp] def c_fplaw21_great : AFn := ⟨[(.tmp 4)],
 (.seq (.region false [oP 4 (.mv (.c (.bool false)))]) (.seq (.region false [mV 5 0,
 oP 6 (.bin .num .gtr (.t 5) (.c (.int .i64 64))),
 mV 7 6,
 gT 8 7 (.mv (.t 0)),
 gT 9 7 (.bin .num .leq (.t 8) (.c (.int .i64 512))),
 oP 10 (.pick (.t 7) (.t 9) (.c (.bool false))),
 mV 11 10,
 gF 12 11 (.mv (.t 1)),
 gF 13 11 (.call (.f 312) [(.t 12), (.f 313)]),
 oP 14 (.pick (.t 11) (.c (.bool true)) (.t 13)),
 mV 4 14]) .ret)),
 false, false⟩

/- series_Integral -/
def c_series_Integral_l0 : AC := (.seq (.region false [oP 29 (.bin .num .lss (.t 28) (.t 27))]) (.seq (.cond (.t 29) .skip (.exit 0)) (.seq (.block 1 (.seq (.region false [mV 30 28,
 oP 31 (.iaddr 7 (.t 26) (.t 28)),
 oP 32 (.load true 7 (.t 31)),
 oP 9 (.new 7 (.agg [(.bool false), .nil, (.int .i64 0), (.bool false), .nil, (.int .i64 0), (.bool false)])),
 mV 8 30,
 ⟨none, .store 7 (.t 9) (.t 32), none, false⟩]) (.region true [mV 33 7,
 oP 34 (.load true 7 (.t 9)),
 mV 35 8,
 oP 36 (.bin .num .add (.t 35) (.c (.int .i64 1))),
 oP 37 (.call (.f 316) [(.t 36)]),
 mV 38 2,
 oS 39 (.call (.f 142) [(.t 34), (.t 37), (.t 38)]),
 oS 40 (.bslice 7 1 (.agg [(.bool false), .nil, (.int .i64 0), (.bool false), .nil, (.int .i64 0), (.bool false)]) [(0, (.t 39))]),
 oS 41 (.append 7 88 (.t 33) (.t 40)),
 mV 7 41]))) (.region false [oP 42 (.bin .num .add (.t 28) (.c (.int .i64 1))),
 mV 28 42]))))
@[simp] def c_series_Integral : AFn := ⟨[(.tmp 6)],
 (.seq (.region false [oP 4 (.box 7 (.t 1)),
 oP 6 (.mv (.c .nil))]) (.seq (.seq (.region false [mV 10 0,
 oP 11 (.bslice 1 1 .nil [(0, (.t 10))]),
 oP 12 (.call (.f 315) [(.t 11)]),
 oP 13 (.un .not (.t 12)),
 mV 14 13,
 gF 15 14 (.mv (.t 0)),
 gF 16 14 (.len (.t 15)),
 gF 17 14 (.bin .num .gtr (.t 16) (.c (.int .i64 16))),
 oP 18 (.pick (.t 14) (.c (.bool true)) (.t 17))]) (.cond (.t 18) (.seq (.region false [oP 6 (.mv (.c .nil))]) .ret) .skip)) (.seq (.region true [mV 19 0,
 oP 20 (.len (.t 19)),
 oP 21 (.bin .num .add (.t 20) (.c (.int .i64 1))),
 oP 22 (.mkslice 7 88 (.agg [(.bool false), (.sl []), (.int .i64 0), (.bool false), (.sl []), (.int .i64 0), (.bool false)]) (.c (.int .i64 0)) (.t 21)),
 oP 23 (.load true 7 (.t 4)),
 oP 24 (.bslice 7 1 (.agg [(.bool false), .nil, (.int .i64 0), (.bool false), .nil, (.int .i64 0), (.bool false)]) [(0, (.t 23))]),
 oS 25 (.append 7 88 (.t 22) (.t 24)),
 mV 7 25]) (.seq (.seq (.region false [mV 26 0,
 oP 27 (.len (.t 26)),
 oP 28 (.mv (.c (.int .i64 0)))]) (.block 0 (.loop c_series_Integral_l0))) (.seq (.region false [mV 43 7,
 mV 6 43]) .ret))))),
 false, false⟩

/- series_Derivative -/
def c_series_Derivative_l0 : AC := (.seq (.region false [oP 25 (.bin .num .lss (.t 24) (.t 23))]) (.seq (.cond (.t 25) .skip (.exit 0)) (.seq (.block 1 (.seq (.region false [mV 26 24,
 oP 27 (.iaddr 7 (.t 22) (.t 24)),
 oP 28 (.load true 7 (.t 27)),
 oP 7 (.new 7 (.agg [(.bool false), .nil, (.int .i64 0), (.bool false), .nil, (.int .i64 0), (.bool false)])),
 mV 6 26,
 ⟨none, .store 7 (.t 7) (.t 28), none, false⟩]) (.region true [mV 29 5,
 mV 30 6,
 oP 31 (.bin .num .add (.t 30) (.c (.int .i64 1))),
 oP 32 (.call (.f 316) [(.t 31)]),
 oP 33 (.load true 7 (.t 7)),
 mV 34 1,
 oS 35 (.call (.f 140) [(.t 32), (.t 33), (.t 34)]),
 oS 36 (.bslice 7 1 (.agg [(.bool false), .nil, (.int .i64 0), (.bool false), .nil, (.int .i64 0), (.bool false)]) [(0, (.t 35))]),
 oS 37 (.append 7 88 (.t 29) (.t 36)),
 mV 5 37]))) (.region false [oP 38 (.bin .num .add (.t 24) (.c (.int .i64 1))),
 mV 24 38]))))
@[simp] def c_series_Derivative : AFn := ⟨[(.tmp 4)],
 (.seq (.region false [oP 4 (.mv (.c .nil))]) (.seq (.seq (.region false [mV 8 0,
 oP 9 (.bslice 1 1 .nil [(0, (.t 8))]),
 oP 10 (.call (.f 315) [(.t 9)]),
 oP 11 (.un .not (.t 10)),
 mV 12 11,
 gF 13 12 (.mv (.t 0)),
 gF 14 12 (.len (.t 13)),
 gF 15 12 (.bin .num .eql (.t 14) (.c (.int .i64 1))),
 oP 16 (.pick (.t 12) (.c (.bool true)) (.t 15))]) (.cond (.t 16) (.seq (.region false [oP 4 (.mv (.c .nil))]) .ret) .skip)) (.seq (.region false [mV 17 0,
 oP 18 (.len (.t 17)),
 oP 19 (.bin .num .sub (.t 18) (.c (.int .i64 1))),
 oP 20 (.mkslice 7 88 (.agg [(.bool false), (.sl []), (.int .i64 0), (.bool false), (.sl []), (.int .i64 0), (.bool false)]) (.c (.int .i64 0)) (.t 19)),
 mV 5 20]) (.seq (.seq (.region false [mV 21 0,
 oP 22 (.slice 7 (.t 21) (some (.c (.int .i64 1))) none none),
 oP 23 (.len (.t 22)),
 oP 24 (.mv (.c (.int .i64 0)))]) (.block 0 (.loop c_series_Derivative_l0))) (.seq (.region false [mV 39 5,
 mV 4 39]) .ret))))),
 false, false⟩

/- fpref21_Right -/
@[simp] def c_fpref21_Right : AFn := ⟨[(.tmp 2)],
 (.seq (.region false [oP 2 (.mv (.c (.bool false)))]) (.seq (.region false [mV 3 0,
 oP 4 (.len (.t 3)),
 oP 5 (.bin .num .geq (.t 4) (.c (.int .i64 1))),
 mV 6 5,
 gT 7 6 (.mv (.t 0)),
 gT 8 6 (.len (.t 7)),
 gT 9 6 (.bin .num .leq (.t 8) (.c (.int .i64 17))),
 oP 10 (.pick (.t 6) (.t 9) (.c (.bool false))),
 mV 2 10]) .ret)),
 false, false⟩

/- fplaw21_same -/
@[simp] def c_fplaw21_same : AFn := ⟨[(.tmp 4)],
 (.seq (.region false [oP 4 (.mv (.c (.bool false)))]) (.seq (.region false [mV 5 0,
 mV 6 1,
 oP 7 (.call (.f 82) [(.t 5), (.t 6), (.f 60)]),
 mV 4 7]) .ret)),
 false, false⟩

/- series_Constant -/
@[simp] def c_series_Constant : AFn := ⟨[(.tmp 4)],
 (.seq (.region false [oP 2 (.box 7 (.t 0)),
 oP 4 (.mv (.c .nil))]) (.seq (.seq (.region false [mV 6 1,
 oP 7 (.bin .num .lss (.t 6) (.c (.int .i64 0))),
 mV 8 7,
 gF 9 8 (.mv (.t 1)),
 gF 10 8 (.bin .num .gtr (.t 9) (.c (.int .i64 16))),
 oP 11 (.pick (.t 8) (.c (.bool true)) (.t 10))]) (.cond (.t 11) (.seq (.region false [oP 4 (.mv (.c .nil))]) .ret) .skip)) (.seq (.region false [mV 12 1,
 oP 13 (.bin .num .add (.t 12) (.c (.int .i64 1))),
 oP 14 (.mkslice 7 88 (.agg [(.bool false), (.sl []), (.int .i64 0), (.bool false), (.sl []), (.int .i64 0), (.bool false)]) (.t 13) (.t 13)),
 mV 5 14]) (.seq (.region false [mV 15 5,
 oP 16 (.load true 7 (.t 2)),
 oP 17 (.iaddr 7 (.t 15) (.c (.int .i64 0))),
 ⟨none, .store 7 (.t 17) (.t 16), none, false⟩]) (.seq (.region false [mV 18 5,
 mV 4 18]) .ret))))),
 true, false⟩

/- series_Variable -/
@[simp] def c_series_Variable : AFn := ⟨[(.tmp 4)],
 (.seq (.region false [oP 2 (.box 7 (.t 0)),
 oP 4 (.mv (.c .nil))]) (.seq (.region false [oP 6 (.load true 7 (.t 2)),
 mV 7 1,
 oP 8 (.call (.f 290) [(.t 6), (.t 7)]),
 mV 5 8]) (.seq (.seq (.region false [mV 9 1,
 oP 10 (.bin .num .gtr (.t 9) (.c (.int .i64 0))),
 mV 11 10,
 gT 12 11 (.mv (.t 5)),
 gT 13 11 (.bin .slice .neq (.t 12) (.c .nil)),
 oP 14 (.pick (.t 11) (.t 13) (.c (.bool false)))]) (.cond (.t 14) (.region false [mV 15 5,
 oP 16 (.call (.f 316) [(.c (.int .i64 1))]),
 oP 17 (.iaddr 7 (.t 15) (.c (.int .i64 1))),
 ⟨none, .store 7 (.t 17) (.t 16), none, false⟩]) .skip)) (.seq (.region false [mV 18 5,
 mV 4 18]) .ret)))),
 false, false⟩

/- slices_Repeat_Interval -/
def c_slices_Repeat_Interval_l0 : AC := (.seq (.seq (.region false [mV 34 8,
 mV 35 7,
 oP 36 (.len (.t 35)),
 oP 37 (.bin .num .lss (.t 34) (.t 36))]) (.cond (.t 37) .skip (.exit 0))) (.block 1 (.region true [mV 38 8,
 mV 39 7,
 mV 40 8,
 oP 41 (.slice 7 (.t 39) (some (.t 40)) none none),
 mV 42 7,
 mV 43 8,
 oP 44 (.slice 7 (.t 42) none (some (.t 43)) none),
 oS 45 (.copy 7 (.t 41) (.t 44)),
 oP 46 (.bin .num .add (.t 38) (.t 45)),
 mV 8 46])))
@[simp] def c_slices_Repeat_Interval : AFn := ⟨[(.tmp 4)],
 (.seq (.region false [oP 4 (.mv (.c .nil))]) (.seq (.seq (.region false [mV 9 1,
 oP 10 (.bin .num .lss (.t 9) (.c (.int .i64 0)))]) (.cond (.t 10) .stop .skip)) (.seq (.region false [mV 13 0,
 oP 14 (.len (.t 13)),
 oP 15 (.conv .u64 (.t 14)),
 mV 16 1,
 oP 17 (.conv .u64 (.t 16)),
 oP 18 (.call (.f 317) [(.t 15), (.t 17)]),
 mV 12 18,
 oP 19 (.extract 0 (.t 12)),
 oP 20 (.extract 1 (.t 12)),
 mV 5 19,
 mV 6 20]) (.seq (.seq (.region false [mV 21 5,
 oP 22 (.bin .num .gtr (.t 21) (.c (.int .u64 0))),
 mV 23 22,
 gF 24 23 (.mv (.t 6)),
 gF 25 23 (.bin .num .gtr (.t 24) (.c (.int .u64 9223372036854775807))),
 oP 26 (.pick (.t 23) (.c (.bool true)) (.t 25))]) (.cond (.t 26) .stop .skip)) (.seq (.region false [mV 28 6,
 oP 29 (.conv .i64 (.t 28)),
 oP 30 (.mkslice 7 88 (.agg [(.bool false), (.sl []), (.int .i64 0), (.bool false), (.sl []), (.int .i64 0), (.bool false)]) (.t 29) (.t 29)),
 mV 7 30]) (.seq (.region false [mV 31 7,
 mV 32 0,
 oP 33 (.copy 7 (.t 31) (.t 32)),
 mV 8 33]) (.seq (.block 0 (.loop c_slices_Repeat_Interval_l0)) (.seq (.region false [mV 47 7,
 mV 4 47]) .ret)))))))),
 true, false⟩

/- fpref21_Num -/
@[simp] def c_fpref21_Num : AFn := ⟨[(.cell 2 true 7)],
 (.seq (.region false [oP 2 (.new 7 (.agg [(.bool false), .nil, (.int .i64 0), (.bool false), .nil, (.int .i64 0), (.bool false)]))]) (.seq (.region false [mV 3 0,
 oP 4 (.call (.f 74) [(.t 3)]),
 oP 5 (.call (.f 153) [(.t 4)]),
 ⟨none, .store 7 (.t 2) (.t 5), none, false⟩]) .ret)),
 false, false⟩

/- series_Add -/
@[simp] def c_series_Add : AFn := ⟨[(.tmp 6)],
 (.seq (.region false [oP 5 (.box 1 (.t 2)),
 oP 6 (.mv (.c .nil))]) (.seq (.region false [mV 7 0,
 mV 8 1,
 oP 9 (.mkfn 319 [(.t 5)]),
 oP 10 (.call (.f 318) [(.t 7), (.t 8), (.t 9)]),
 mV 6 10]) .ret)),
 false, false⟩

/- series_Sub -/
@[simp] def c_series_Sub : AFn := ⟨[(.tmp 6)],
 (.seq (.region false [oP 5 (.box 1 (.t 2)),
 oP 6 (.mv (.c .nil))]) (.seq (.region false [mV 7 0,
 mV 8 1,
 oP 9 (.mkfn 320 [(.t 5)]),
 oP 10 (.call (.f 318) [(.t 7), (.t 8), (.t 9)]),
 mV 6 10]) .ret)),
 false, false⟩

/- fplaw21_pair -/
@[simp] def c_fplaw21_pair : AFn := ⟨[(.tmp 4)],
 (.seq (.region false [oP 4 (.mv (.c (.bool false)))]) (.seq (.region false [mV 5 0,
 oP 6 (.call (.f 285) [(.t 5)]),
 mV 7 6,
 gT 8 7 (.mv (.t 0)),
 gT 9 7 (.len (.t 8)),
 gT 10 7 (.mv (.t 1)),
 gT 11 7 (.len (.t 10)),
 gT 12 7 (.bin .num .eql (.t 9) (.t 11)),
 oP 13 (.pick (.t 7) (.t 12) (.c (.bool false))),
 mV 4 13]) .ret)),
 false, false⟩

/- fpref21_Sum -/
def c_fpref21_Sum_l0 : AC := (.seq (.seq (.region false [mV 11 10,
 mV 12 0,
 oP 13 (.len (.t 12)),
 oP 14 (.bin .num .lss (.t 11) (.t 13))]) (.cond (.t 14) .skip (.exit 0))) (.seq (.block 1 (.seq (.region false [mV 17 2]) (.cond (.t 17) (.region true [mV 18 9,
 mV 19 0,
 mV 20 10,
 oP 21 (.iaddr 7 (.t 19) (.t 20)),
 oP 22 (.load true 7 (.t 21)),
 mV 23 1,
 mV 24 10,
 oP 25 (.iaddr 7 (.t 23) (.t 24)),
 oP 26 (.load true 7 (.t 25)),
 mV 27 3,
 oS 28 (.call (.f 146) [(.t 22), (.t 26), (.t 27)]),
 oS 29 (.bslice 7 1 (.agg [(.bool false), .nil, (.int .i64 0), (.bool false), .nil, (.int .i64 0), (.bool false)]) [(0, (.t 28))]),
 oS 30 (.append 7 88 (.t 18) (.t 29)),
 mV 9 30]) (.region true [mV 31 9,
 mV 32 0,
 mV 33 10,
 oP 34 (.iaddr 7 (.t 32) (.t 33)),
 oP 35 (.load true 7 (.t 34)),
 mV 36 1,
 mV 37 10,
 oP 38 (.iaddr 7 (.t 36) (.t 37)),
 oP 39 (.load true 7 (.t 38)),
 mV 40 3,
 oS 41 (.call (.f 145) [(.t 35), (.t 39), (.t 40)]),
 oS 42 (.bslice 7 1 (.agg [(.bool false), .nil, (.int .i64 0), (.bool false), .nil, (.int .i64 0), (.bool false)]) [(0, (.t 41))]),
 oS 43 (.append 7 88 (.t 31) (.t 42)),
 mV 9 43])))) (.region false [mV 15 10,
 oP 16 (.bin .num .add (.t 15) (.c (.int .i64 1))),
 mV 10 16])))
@[simp] def c_fpref21_Sum : AFn := ⟨[(.tmp 8)],
 (.seq (.region false [oP 8 (.mv (.c .nil))]) (.seq (.region false [oP 9 (.mv (.c .nil))]) (.seq (.seq (.region false [oP 10 (.mv (.c (.int .i64 0)))]) (.block 0 (.loop c_fpref21_Sum_l0))) (.seq (.region false [mV 44 9,
 mV 8 44]) .ret)))),
 false, false⟩

/- slices_Concat_Interval -/
def c_slices_Concat_Interval_l0 : AC := (.seq (.region false [oP 12 (.bin .num .lss (.t 11) (.t 10))]) (.seq (.cond (.t 12) .skip (.exit 0)) (.seq (.block 1 (.seq (.region false [oP 13 (.iaddr 1 (.t 9) (.t 11)),
 oP 14 (.load false 1 (.t 13)),
 mV 5 14]) (.seq (.region false [mV 15 3,
 mV 16 5,
 oP 17 (.len (.t 16)),
 oP 18 (.bin .num .add (.t 15) (.t 17)),
 mV 3 18]) (.seq (.region false [mV 19 3,
 oP 20 (.bin .num .lss (.t 19) (.c (.int .i64 0)))]) (.cond (.t 20) .stop .skip))))) (.region false [oP 22 (.bin .num .add (.t 11) (.c (.int .i64 1))),
 mV 11 22]))))
def c_slices_Concat_Interval_l1 : AC := (.seq (.region false [oP 28 (.bin .num .lss (.t 27) (.t 26))]) (.seq (.cond (.t 28) .skip (.exit 2)) (.seq (.block 3 (.seq (.region false [oP 29 (.iaddr 1 (.t 25) (.t 27)),
 oP 30 (.load false 1 (.t 29)),
 mV 8 30]) (.region false [mV 31 6,
 mV 32 8,
 oP 33 (.append 7 88 (.t 31) (.t 32)),
 mV 6 33]))) (.region false [oP 34 (.bin .num .add (.t 27) (.c (.int .i64 1))),
 mV 27 34]))))
@[simp] def c_slices_Concat_Interval : AFn := ⟨[(.tmp 2)],
 (.seq (.region false [oP 2 (.mv (.c .nil))]) (.seq (.region false [oP 3 (.mv (.c (.int .i64 0)))]) (.seq (.seq (.region false [mV 9 0,
 oP 10 (.len (.t 9)),
 oP 11 (.mv (.c (.int .i64 0)))]) (.block 0 (.loop c_slices_Concat_Interval_l0))) (.seq (.region false [mV 23 3,
 oP 24 (.call (.f 321) [(.c .nil), (.t 23)]),
 mV 6 24]) (.seq (.seq (.region false [mV 25 0,
 oP 26 (.len (.t 25)),
 oP 27 (.mv (.c (.int .i64 0)))]) (.block 2 (.loop c_slices_Concat_Interval_l1))) (.seq (.region false [mV 35 6,
 mV 2 35]) .ret)))))),
 false, true⟩

/- fplaw21_SeriesRules_1 -/
@[simp] def c_fplaw21_SeriesRules_1 : AFn := ⟨[(.tmp 2)],
 (.seq (.region false [oP 1 (.box 7 (.t 0)),
 oP 2 (.mv (.c (.bool false)))]) (.seq (.region false [oP 3 (.load true 7 (.t 1)),
 oP 4 (.call (.f 77) [(.t 3)]),
 oP 5 (.un .not (.t 4)),
 mV 2 5]) .ret)),
 false, false⟩

/- fplaw21_SeriesRules_2 -/
@[simp] def c_fplaw21_SeriesRules_2 : AFn := ⟨[(.tmp 4)],
 (.seq (.region false [oP 4 (.mv (.c (.bool false)))]) (.seq (.region false [mV 5 0,
 mV 6 1,
 oP 7 (.call (.f 82) [(.t 5), (.t 6), (.f 301)]),
 mV 4 7]) .ret)),
 false, false⟩

/- fplaw21_SeriesRules_2_1 -/
@[simp] def c_fplaw21_SeriesRules_2_1 : AFn := ⟨[(.tmp 4)],
 (.seq (.region false [oP 2 (.box 7 (.t 0)),
 oP 3 (.box 7 (.t 1)),
 oP 4 (.mv (.c (.bool false)))]) (.seq (.region false [oP 8 (.load true 7 (.t 2)),
 oP 9 (.load true 7 (.t 3)),
 oP 10 (.call (.f 90) [(.t 8), (.t 9)]),
 mV 7 10,
 oP 11 (.extract 0 (.t 7)),
 oP 12 (.extract 1 (.t 7)),
 oP 5 (.new 7 (.agg [(.bool false), .nil, (.int .i64 0), (.bool false), .nil, (.int .i64 0), (.bool false)])),
 ⟨none, .store 7 (.t 5) (.t 11), none, false⟩,
 mV 6 12]) (.seq (.region false [mV 13 6,
 mV 4 13]) .ret))),
 false, false⟩

/- series_Mul -/
def c_series_Mul_l0 : AC := (.seq (.region false [oP 20 (.bin .num .lss (.t 19) (.t 18))]) (.seq (.cond (.t 20) .skip (.exit 0)) (.seq (.block 1 (.seq (.region false [mV 21 19,
 oP 8 (.new 1 (.int .i64 0)),
 ⟨none, .store 1 (.t 8) (.t 21), none, false⟩]) (.region false [mV 22 7,
 oP 23 (.load false 1 (.t 8)),
 oP 24 (.load false 1 (.t 5)),
 oP 25 (.mkfn 323 [(.t 3), (.t 4), (.t 8), (.t 5)]),
 oP 26 (.call (.f 322) [(.c (.int .i64 0)), (.t 23), (.t 24), (.t 25)]),
 oP 27 (.bslice 7 1 (.agg [(.bool false), .nil, (.int .i64 0), (.bool false), .nil, (.int .i64 0), (.bool false)]) [(0, (.t 26))]),
 oP 28 (.append 7 88 (.t 22) (.t 27)),
 mV 7 28]))) (.region false [oP 29 (.bin .num .add (.t 19) (.c (.int .i64 1))),
 mV 19 29]))))
@[simp] def c_series_Mul : AFn := ⟨[(.tmp 6)],
 (.seq (.region false [oP 3 (.box 1 (.t 0)),
 oP 4 (.box 1 (.t 1)),
 oP 5 (.box 1 (.t 2)),
 oP 6 (.mv (.c .nil))]) (.seq (.seq (.region false [oP 9 (.load false 1 (.t 3)),
 oP 10 (.load false 1 (.t 4)),
 oP 11 (.bslice 1 2 .nil [(0, (.t 9)), (1, (.t 10))]),
 oP 12 (.call (.f 315) [(.t 11)]),
 oP 13 (.un .not (.t 12))]) (.cond (.t 13) (.seq (.region false [oP 6 (.mv (.c .nil))]) .ret) .skip)) (.seq (.region false [oP 14 (.load false 1 (.t 3)),
 oP 15 (.len (.t 14)),
 oP 16 (.mkslice 7 88 (.agg [(.bool false), (.sl []), (.int .i64 0), (.bool false), (.sl []), (.int .i64 0), (.bool false)]) (.c (.int .i64 0)) (.t 15)),
 mV 7 16]) (.seq (.seq (.region false [oP 17 (.load false 1 (.t 3)),
 oP 18 (.len (.t 17)),
 oP 19 (.mv (.c (.int .i64 0)))]) (.block 0 (.loop c_series_Mul_l0))) (.seq (.region false [mV 30 7,
 mV 6 30]) .ret))))),
 true, false⟩

/- series_Div -/
def c_series_Div_l0 : AC := (.seq (.region false [oP 21 (.bin .num .lss (.t 20) (.t 19))]) (.seq (.cond (.t 21) .skip (.exit 0)) (.seq (.block 1 (.seq (.region false [mV 22 20,
 oP 8 (.new 1 (.int .i64 0)),
 ⟨none, .store 1 (.t 8) (.t 22), none, false⟩]) (.seq (.region true [mV 23 0,
 oP 24 (.load false 1 (.t 8)),
 oP 25 (.iaddr 7 (.t 23) (.t 24)),
 oP 26 (.load true 7 (.t 25)),
 oP 27 (.load false 1 (.t 8)),
 oP 28 (.bin .num .sub (.t 27) (.c (.int .i64 1))),
 oP 29 (.load false 1 (.t 5)),
 oP 30 (.mkfn 325 [(.t 7), (.t 4), (.t 8), (.t 5)]),
 oP 31 (.call (.f 324) [(.t 26), (.c (.int .i64 0)), (.t 28), (.t 29), (.t 30)]),
 oP 9 (.new 7 (.agg [(.bool false), .nil, (.int .i64 0), (.bool false), .nil, (.int .i64 0), (.bool false)])),
 ⟨none, .store 7 (.t 9) (.t 31), none, true⟩]) (.region true [oP 32 (.load false 1 (.t 7)),
 oP 33 (.load true 7 (.t 9)),
 oP 34 (.load false 1 (.t 4)),
 oP 35 (.iaddr 7 (.t 34) (.c (.int .i64 0))),
 oP 36 (.load true 7 (.t 35)),
 oP 37 (.load false 1 (.t 5)),
 oP 38 (.call (.f 142) [(.t 33), (.t 36), (.t 37)]),
 oP 39 (.bslice 7 1 (.agg [(.bool false), .nil, (.int .i64 0), (.bool false), .nil, (.int .i64 0), (.bool false)]) [(0, (.t 38))]),
 oS 40 (.append 7 88 (.t 32) (.t 39)),
 ⟨none, .store 1 (.t 7) (.t 40), none, true⟩])))) (.region false [oP 41 (.bin .num .add (.t 20) (.c (.int .i64 1))),
 mV 20 41]))))
@[simp] def c_series_Div : AFn := ⟨[(.tmp 6)],
 (.seq (.region false [oP 4 (.box 1 (.t 1)),
 oP 5 (.box 1 (.t 2)),
 oP 6 (.mv (.c .nil))]) (.seq (.seq (.region false [mV 10 0,
 oP 11 (.load false 1 (.t 4)),
 oP 12 (.bslice 1 2 .nil [(0, (.t 10)), (1, (.t 11))]),
 oP 13 (.call (.f 315) [(.t 12)]),
 oP 14 (.un .not (.t 13))]) (.cond (.t 14) (.seq (.region false [oP 6 (.mv (.c .nil))]) .ret) .skip)) (.seq (.region false [mV 15 0,
 oP 16 (.len (.t 15)),
 oP 17 (.mkslice 7 88 (.agg [(.bool false), (.sl []), (.int .i64 0), (.bool false), (.sl []), (.int .i64 0), (.bool false)]) (.c (.int .i64 0)) (.t 16)),
 oP 7 (.new 1 .nil),
 ⟨none, .store 1 (.t 7) (.t 17), none, false⟩]) (.seq (.seq (.region false [mV 18 0,
 oP 19 (.len (.t 18)),
 oP 20 (.mv (.c (.int .i64 0)))]) (.block 0 (.loop c_series_Div_l0))) (.seq (.region false [oP 42 (.load false 1 (.t 7)),
 mV 6 42]) .ret))))),
 false, false⟩

/- series_Power -/
def c_series_Power_l0 : AC := (.seq (.region false [oP 26 (.bin .num .lss (.t 25) (.t 24))]) (.seq (.cond (.t 26) .skip (.exit 1)) (.seq (.block 2 (.seq (.region false [mV 27 25,
 mV 8 27]) (.region false [mV 28 7,
 mV 29 8,
 oP 30 (.call (.f 107) []),
 oP 31 (.iaddr 7 (.t 28) (.t 29)),
 ⟨none, .store 7 (.t 31) (.t 30), none, false⟩]))) (.region false [oP 32 (.bin .num .add (.t 25) (.c (.int .i64 1))),
 mV 25 32]))))
def c_series_Power_l1 : AC := (.seq (.region false [oP 40 (.bin .num .lss (.t 39) (.t 38))]) (.seq (.cond (.t 40) .skip (.exit 3)) (.seq (.block 4 (.seq (.region false [mV 41 39,
 mV 9 41]) (.region true [mV 42 7,
 mV 43 9,
 oP 44 (.call (.f 316) [(.c (.int .i64 0))]),
 mV 45 0,
 mV 46 9,
 oP 47 (.iaddr 7 (.t 45) (.t 46)),
 oP 48 (.load true 7 (.t 47)),
 mV 49 2,
 oS 50 (.call (.f 140) [(.t 44), (.t 48), (.t 49)]),
 oP 51 (.iaddr 7 (.t 42) (.t 43)),
 ⟨none, .store 7 (.t 51) (.t 50), none, true⟩]))) (.region false [oP 52 (.bin .num .add (.t 39) (.c (.int .i64 1))),
 mV 39 52]))))
def c_series_Power_l2 : AC := (.seq (.region false [oP 56 (.bin .num .lss (.t 55) (.t 54))]) (.seq (.cond (.t 56) .skip (.exit 5)) (.seq (.block 6 (.region false [mV 57 7,
 mV 58 0,
 mV 59 2,
 oP 60 (.call (.f 302) [(.t 57), (.t 58), (.t 59)]),
 mV 7 60])) (.region false [oP 61 (.bin .num .add (.t 55) (.c (.int .i64 1))),
 mV 55 61]))))
@[simp] def c_series_Power_r21 : List AOper :=
 [mV 62 7,
  mV 63 0,
  oP 64 (.iaddr 7 (.t 63) (.c (.int .i64 0))),
  oP 65 (.load true 7 (.t 64)),
  mV 66 1,
  mV 67 2,
  oP 68 (.call (.f 178) [(.t 65), (.t 66), (.t 67)]),
  oP 69 (.iaddr 7 (.t 62) (.c (.int .i64 0))),
  ⟨none, (.store 7 (.t 69) (.t 68)), none, false⟩]
@[simp] def c_series_Power_r22 : List AOper :=
 [mV 70 7,
  mV 6 70]
@[simp] def c_series_Power : AFn := ⟨[(.tmp 6)],
 (.seq (.region false [oP 6 (.mv (.c .nil))]) (.seq (.seq (.region false [mV 10 0,
 oP 11 (.bslice 1 1 .nil [(0, (.t 10))]),
 oP 12 (.call (.f 315) [(.t 11)]),
 oP 13 (.un .not (.t 12))]) (.cond (.t 13) (.seq (.region false [oP 6 (.mv (.c .nil))]) .ret) .skip)) (.seq (.region false [mV 14 0,
 oP 15 (.call (.f 330) [(.t 14)]),
 mV 7 15]) (.seq (.block 0 (.seq (.region false [mV 17 1,
 oP 18 (.bin .num .lss (.t 17) (.c (.int .i64 0))),
 mV 19 18,
 gF 20 19 (.mv (.t 1)),
 gF 21 19 (.bin .num .gtr (.t 20) (.c (.int .i64 16))),
 oP 22 (.pick (.t 19) (.c (.bool true)) (.t 21)),
 mV 16 22]) (.cond (.t 16) (.seq (.seq (.region false [mV 23 7,
 oP 24 (.len (.t 23)),
 oP 25 (.mv (.c (.int .i64 0)))]) (.block 1 (.loop c_series_Power_l0))) (.seq (.region false [mV 33 7,
 mV 6 33]) .ret)) (.seq (.region false [mV 35 1,
 oP 36 (.bin .num .eql (.t 35) (.c (.int .i64 0))),
 mV 34 36]) (.cond (.t 34) (.seq (.region false [mV 37 7,
 oP 38 (.len (.t 37)),
 oP 39 (.mv (.c (.int .i64 0)))]) (.block 3 (.loop c_series_Power_l1))) .skip))))) (.seq (.seq (.region false [mV 53 1,
 oP 54 (.bin .num .sub (.t 53) (.c (.int .i64 1))),
 oP 55 (.mv (.c (.int .i64 0)))]) (.block 5 (.loop c_series_Power_l2))) (.seq (.region false c_series_Power_r21) (.seq (.region false c_series_Power_r22) .ret))))))),
 false, false⟩

/- fplaw21_SeriesIsotone_1 -/
@[simp] def c_fplaw21_SeriesIsotone_1 : AFn := ⟨[(.tmp 2)],
 (.seq (.region false [oP 1 (.box 7 (.t 0)),
 oP 2 (.mv (.c (.bool false)))]) (.seq (.region false [oP 3 (.load true 7 (.t 1)),
 oP 4 (.call (.f 77) [(.t 3)]),
 oP 5 (.un .not (.t 4)),
 mV 2 5]) .ret)),
 false, false⟩

/- fplaw21_SeriesIsotone_2 -/
def c_fplaw21_SeriesIsotone_2_l0 : AC := (.seq (.region false [oP 10 (.bin .num .lss (.t 9) (.t 8))]) (.seq (.cond (.t 10) .skip (.exit 0)) (.seq (.block 1 (.seq (.region false [mV 11 9,
 mV 6 11]) (.region true [mV 12 5,
 mV 13 0,
 mV 14 6,
 oP 15 (.iaddr 7 (.t 13) (.t 14)),
 oP 16 (.load true 7 (.t 15)),
 mV 17 1,
 mV 18 6,
 oP 19 (.iaddr 7 (.t 17) (.t 18)),
 oP 20 (.load true 7 (.t 19)),
 oS 21 (.call (.f 94) [(.t 16), (.t 20)]),
 oS 22 (.bslice 7 1 (.agg [(.bool false), .nil, (.int .i64 0), (.bool false), .nil, (.int .i64 0), (.bool false)]) [(0, (.t 21))]),
 oS 23 (.append 7 88 (.t 12) (.t 22)),
 mV 5 23]))) (.region false [oP 24 (.bin .num .add (.t 9) (.c (.int .i64 1))),
 mV 9 24]))))
@[simp] def c_fplaw21_SeriesIsotone_2 : AFn := ⟨[(.tmp 4)],
 (.seq (.region false [oP 4 (.mv (.c .nil))]) (.seq (.region false [oP 5 (.mv (.c .nil))]) (.seq (.seq (.region false [mV 7 0,
 oP 8 (.len (.t 7)),
 oP 9 (.mv (.c (.int .i64 0)))]) (.block 0 (.loop c_fplaw21_SeriesIsotone_2_l0))) (.seq (.region false [mV 25 5,
 mV 4 25]) .ret)))),
 false, false⟩

/- fplaw21_all -/
@[simp] def c_fplaw21_all : AFn := ⟨[(.tmp 4)],
 (.seq (.region false [oP 4 (.mv (.c (.bool false)))]) (.seq (.region false [mV 5 0,
 mV 6 1,
 oP 7 (.call (.f 82) [(.t 5), (.t 6), (.f 83)]),
 mV 4 7]) .ret)),
 false, false⟩

/- series_Sqrt -/
def c_series_Sqrt_l0 : AC := (.seq (.seq (.region false [oP 28 (.load false 1 (.t 7)),
 mV 29 0,
 oP 30 (.len (.t 29)),
 oP 31 (.bin .num .lss (.t 28) (.t 30))]) (.cond (.t 31) .skip (.exit 0))) (.seq (.block 1 (.seq (.region true [mV 34 0,
 oP 35 (.load false 1 (.t 7)),
 oP 36 (.iaddr 7 (.t 34) (.t 35)),
 oP 37 (.load true 7 (.t 36)),
 oP 38 (.load false 1 (.t 7)),
 oP 39 (.bin .num .sub (.t 38) (.c (.int .i64 1))),
 oP 40 (.load false 1 (.t 3)),
 oP 41 (.mkfn 326 [(.t 5), (.t 7), (.t 3)]),
 oP 42 (.call (.f 324) [(.t 37), (.c (.int .i64 1)), (.t 39), (.t 40), (.t 41)]),
 oP 8 (.new 7 (.agg [(.bool false), .nil, (.int .i64 0), (.bool false), .nil, (.int .i64 0), (.bool false)])),
 ⟨none, .store 7 (.t 8) (.t 42), none, true⟩]) (.region true [oP 43 (.load false 1 (.t 5)),
 oP 44 (.load true 7 (.t 8)),
 oP 45 (.load true 7 (.t 6)),
 oP 46 (.load false 1 (.t 3)),
 oP 47 (.call (.f 142) [(.t 44), (.t 45), (.t 46)]),
 oP 48 (.bslice 7 1 (.agg [(.bool false), .nil, (.int .i64 0), (.bool false), .nil, (.int .i64 0), (.bool false)]) [(0, (.t 47))]),
 oS 49 (.append 7 88 (.t 43) (.t 48)),
 ⟨none, .store 1 (.t 5) (.t 49), none, true⟩]))) (.seq (.seq (.region false [oP 50 (.load false 1 (.t 7))]) (.region false [oP 7 (.new 1 (.int .i64 0)),
 ⟨none, .store 1 (.t 7) (.t 50), none, false⟩])) (.region false [oP 32 (.load false 1 (.t 7)),
 oP 33 (.bin .num .add (.t 32) (.c (.int .i64 1))),
 ⟨none, .store 1 (.t 7) (.t 33), none, false⟩]))))
@[simp] def c_series_Sqrt : AFn := ⟨[(.tmp 4)],
 (.seq (.region false [oP 3 (.box 1 (.t 1)),
 oP 4 (.mv (.c .nil))]) (.seq (.seq (.region false [mV 9 0,
 oP 10 (.bslice 1 1 .nil [(0, (.t 9))]),
 oP 11 (.call (.f 315) [(.t 10)]),
 oP 12 (.un .not (.t 11))]) (.cond (.t 12) (.seq (.region false [oP 4 (.mv (.c .nil))]) .ret) .skip)) (.seq (.region false [mV 13 0,
 oP 14 (.len (.t 13)),
 oP 15 (.mkslice 7 88 (.agg [(.bool false), (.sl []), (.int .i64 0), (.bool false), (.sl []), (.int .i64 0), (.bool false)]) (.c (.int .i64 0)) (.t 14)),
 oP 5 (.new 1 .nil),
 ⟨none, .store 1 (.t 5) (.t 15), none, false⟩]) (.seq (.region true [oP 16 (.load false 1 (.t 5)),
 mV 17 0,
 oP 18 (.iaddr 7 (.t 17) (.c (.int .i64 0))),
 oP 19 (.load true 7 (.t 18)),
 oP 20 (.load false 1 (.t 3)),
 oP 21 (.call (.f 176) [(.t 19), (.t 20)]),
 oP 22 (.bslice 7 1 (.agg [(.bool false), .nil, (.int .i64 0), (.bool false), .nil, (.int .i64 0), (.bool false)]) [(0, (.t 21))]),
 oS 23 (.append 7 88 (.t 16) (.t 22)),
 ⟨none, .store 1 (.t 5) (.t 23), none, true⟩]) (.seq (.region false [oP 24 (.load false 1 (.t 5)),
 oP 25 (.iaddr 7 (.t 24) (.c (.int .i64 0))),
 oP 26 (.load true 7 (.t 25)),
 oP 27 (.call (.f 158) [(.t 26), (.c (.int .i64 1))]),
 oP 6 (.new 7 (.agg [(.bool false), .nil, (.int .i64 0), (.bool false), .nil, (.int .i64 0), (.bool false)])),
 ⟨none, .store 7 (.t 6) (.t 27), none, false⟩]) (.seq (.seq (.region false [oP 7 (.new 1 (.int .i64 0)),
 ⟨none, .store 1 (.t 7) (.c (.int .i64 1)), none, false⟩]) (.block 0 (.loop c_series_Sqrt_l0))) (.seq (.region false [oP 51 (.load false 1 (.t 5)),
 mV 4 51]) .ret))))))),
 false, false⟩

/- slices_ContainsFunc_Intervals -/
@[simp] def c_slices_ContainsFunc_Intervals : AFn := ⟨[(.tmp 4)],
 (.seq (.region false [oP 4 (.mv (.c (.bool false)))]) (.seq (.region false [mV 5 0,
 mV 6 1,
 oP 7 (.call (.f 327) [(.t 5), (.t 6)]),
 oP 8 (.bin .num .geq (.t 7) (.c (.int .i64 0))),
 mV 4 8]) .ret)),
 false, false⟩

/- fplaw21_great_1 -/
@[simp] def c_fplaw21_great_1 : AFn := ⟨[(.tmp 2)],
 (.seq (.region false [oP 2 (.mv (.c (.bool false)))]) (.seq (.region false [mV 3 0,
 oP 4 (.len (.t 3)),
 oP 5 (.bin .num .gtr (.t 4) (.c (.int .i64 30))),
 mV 6 5,
 gF 7 6 (.mv (.t 0)),
 gF 8 6 (.call (.f 67) [(.t 7), (.f 314)]),
 oP 9 (.pick (.t 6) (.c (.bool true)) (.t 8)),
 mV 2 9]) .ret)),
 false, false⟩

/- fplaw21_great_1_1 -/
@[simp] def c_fplaw21_great_1_1 : AFn := ⟨[(.tmp 2)],
 (.seq (.region false [oP 1 (.box 7 (.t 0)),
 oP 2 (.mv (.c (.bool false)))]) (.seq (.region false [oP 3 (.faddr 0 (.t 1)),
 oP 4 (.faddr 1 (.t 3)),
 oP 5 (.load false 1 (.t 4)),
 oP 6 (.len (.t 5)),
 oP 7 (.bin .num .gtr (.t 6) (.c (.int .i64 20))),
 mV 8 7,
 gF 9 8 (.faddr 3 (.t 1)),
 gF 10 8 (.faddr 1 (.t 9)),
 gF 11 8 (.load false 1 (.t 10)),
 gF 12 8 (.len (.t 11)),
 gF 13 8 (.bin .num .gtr (.t 12) (.c (.int .i64 20))),
 oP 14 (.pick (.t 8) (.c (.bool true)) (.t 13)),
 mV 2 14]) .ret)),
 false, false⟩

/- series_are -/
def c_series_are_l0 : AC := (.seq (.region false [oP 8 (.bin .num .lss (.t 7) (.t 6))]) (.seq (.cond (.t 8) .skip (.exit 0)) (.seq (.block 1 (.seq (.region false [oP 9 (.iaddr 1 (.t 5) (.t 7)),
 oP 10 (.load false 1 (.t 9)),
 mV 4 10]) (.seq (.region false [mV 11 4,
 oP 12 (.len (.t 11)),
 oP 13 (.bin .num .lss (.t 12) (.c (.int .i64 1))),
 mV 14 13,
 gF 15 14 (.mv (.t 4)),
 gF 16 14 (.len (.t 15)),
 gF 17 14 (.bin .num .gtr (.t 16) (.c (.int .i64 17))),
 oP 18 (.pick (.t 14) (.c (.bool true)) (.t 17)),
 mV 19 18,
 gF 20 19 (.mv (.t 4)),
 gF 21 19 (.len (.t 20)),
 gF 22 19 (.mv (.t 0)),
 gF 23 19 (.iaddr 1 (.t 22) (.c (.int .i64 0))),
 gF 24 19 (.load false 1 (.t 23)),
 gF 25 19 (.len (.t 24)),
 gF 26 19 (.bin .num .neq (.t 21) (.t 25)),
 oP 27 (.pick (.t 19) (.c (.bool true)) (.t 26))]) (.cond (.t 27) (.seq (.region false [oP 2 (.mv (.c (.bool false)))]) .ret) .skip)))) (.region false [oP 28 (.bin .num .add (.t 7) (.c (.int .i64 1))),
 mV 7 28]))))
@[simp] def c_series_are : AFn := ⟨[(.tmp 2)],
 (.seq (.region false [oP 2 (.mv (.c (.bool false)))]) (.seq (.seq (.region false [mV 5 0,
 oP 6 (.len (.t 5)),
 oP 7 (.mv (.c (.int .i64 0)))]) (.block 0 (.loop c_series_are_l0))) (.seq (.region false [oP 2 (.mv (.c (.bool true)))]) .ret))),
 false, false⟩

/- series_whole -/
@[simp] def c_series_whole : AFn := ⟨[(.cell 2 true 7)],
 (.seq (.region false [oP 2 (.new 7 (.agg [(.bool false), .nil, (.int .i64 0), (.bool false), .nil, (.int .i64 0), (.bool false)]))]) (.seq (.region false [mV 3 0,
 oP 4 (.call (.f 210) [(.t 3)]),
 oP 5 (.call (.f 152) [(.t 4)]),
 ⟨none, .store 7 (.t 2) (.t 5), none, false⟩]) .ret)),
 false, false⟩

/- math_bits_Mul -/
@[simp] def c_math_bits_Mul : AFn := ⟨[(.tmp 4), (.tmp 5)],
 (.seq (.region false [oP 4 (.mv (.c (.int .u64 0))),
 oP 5 (.mv (.c (.int .u64 0)))]) (.seq (.cond (.c (.bool false)) (.seq (.region false [mV 11 0,
 oP 12 (.conv .u32 (.t 11)),
 mV 13 1,
 oP 14 (.conv .u32 (.t 13)),
 oP 15 (.call (.f 328) [(.t 12), (.t 14)]),
 mV 10 15,
 oP 16 (.extract 0 (.t 10)),
 oP 17 (.extract 1 (.t 10)),
 mV 6 16,
 mV 7 17]) (.seq (.region false [mV 18 6,
 oP 19 (.conv .u64 (.t 18)),
 mV 20 7,
 oP 21 (.conv .u64 (.t 20)),
 mV 4 19,
 mV 5 21]) .ret)) .skip) (.seq (.region false [mV 23 0,
 mV 24 1,
 oP 25 (.call (.f 329) [(.t 23), (.t 24)]),
 mV 22 25,
 oP 26 (.extract 0 (.t 22)),
 oP 27 (.extract 1 (.t 22)),
 mV 8 26,
 mV 9 27]) (.seq (.region false [mV 28 8,
 mV 29 9,
 mV 4 28,
 mV 5 29]) .ret)))),
 false, false⟩

/- series_each -/
def c_series_each_l0 : AC := (.seq (.region false [oP 20 (.bin .num .lss (.t 19) (.t 18))]) (.seq (.cond (.t 20) .skip (.exit 0)) (.seq (.block 1 (.seq (.region false [mV 21 19,
 mV 8 21]) (.region true [mV 22 7,
 mV 23 2,
 mV 24 0,
 mV 25 8,
 oP 26 (.iaddr 7 (.t 24) (.t 25)),
 oP 27 (.load true 7 (.t 26)),
 mV 28 1,
 mV 29 8,
 oP 30 (.iaddr 7 (.t 28) (.t 29)),
 oP 31 (.load true 7 (.t 30)),
 oS 32 (.call (.t 23) [(.t 27), (.t 31)]),
 oS 33 (.bslice 7 1 (.agg [(.bool false), .nil, (.int .i64 0), (.bool false), .nil, (.int .i64 0), (.bool false)]) [(0, (.t 32))]),
 oS 34 (.append 7 88 (.t 22) (.t 33)),
 mV 7 34]))) (.region false [oP 35 (.bin .num .add (.t 19) (.c (.int .i64 1))),
 mV 19 35]))))
@[simp] def c_series_each : AFn := ⟨[(.tmp 6)],
 (.seq (.region false [oP 6 (.mv (.c .nil))]) (.seq (.seq (.region false [mV 9 0,
 mV 10 1,
 oP 11 (.bslice 1 2 .nil [(0, (.t 9)), (1, (.t 10))]),
 oP 12 (.call (.f 315) [(.t 11)]),
 oP 13 (.un .not (.t 12))]) (.cond (.t 13) (.seq (.region false [oP 6 (.mv (.c .nil))]) .ret) .skip)) (.seq (.region false [mV 14 0,
 oP 15 (.len (.t 14)),
 oP 16 (.mkslice 7 88 (.agg [(.bool false), (.sl []), (.int .i64 0), (.bool false), (.sl []), (.int .i64 0), (.bool false)]) (.c (.int .i64 0)) (.t 15)),
 mV 7 16]) (.seq (.seq (.region false [mV 17 0,
 oP 18 (.len (.t 17)),
 oP 19 (.mv (.c (.int .i64 0)))]) (.block 0 (.loop c_series_each_l0))) (.seq (.region false [mV 36 7,
 mV 6 36]) .ret))))),
 false, false⟩

/- series_Add_1 -/
@[simp] def c_series_Add_1 : AFn := ⟨[(.cell 5 true 7)],
 (.seq (.region false [oP 3 (.box 7 (.t 0)),
 oP 4 (.box 7 (.t 1)),
 oP 5 (.new 7 (.agg [(.bool false), .nil, (.int .i64 0), (.bool false), .nil, (.int .i64 0), (.bool false)]))]) (.seq (.region false [oP 6 (.load true 7 (.t 3)),
 oP 7 (.load true 7 (.t 4)),
 oP 8 (.load false 1 (.t 2)),
 oP 9 (.call (.f 138) [(.t 6), (.t 7), (.t 8)]),
 ⟨none, .store 7 (.t 5) (.t 9), none, false⟩]) .ret)),
 false, false⟩

/- series_Sub_1 -/
@[simp] def c_series_Sub_1 : AFn := ⟨[(.cell 5 true 7)],
 (.seq (.region false [oP 3 (.box 7 (.t 0)),
 oP 4 (.box 7 (.t 1)),
 oP 5 (.new 7 (.agg [(.bool false), .nil, (.int .i64 0), (.bool false), .nil, (.int .i64 0), (.bool false)]))]) (.seq (.region false [oP 6 (.load true 7 (.t 3)),
 oP 7 (.load true 7 (.t 4)),
 oP 8 (.load false 1 (.t 2)),
 oP 9 (.call (.f 139) [(.t 6), (.t 7), (.t 8)]),
 ⟨none, .store 7 (.t 5) (.t 9), none, false⟩]) .ret)),
 false, false⟩

/- slices_Grow_Interval -/
@[simp] def c_slices_Grow_Interval : AFn := ⟨[(.tmp 4)],
 (.seq (.region false [oP 4 (.mv (.c .nil))]) (.seq (.seq (.region false [mV 5 1,
 oP 6 (.bin .num .lss (.t 5) (.c (.int .i64 0)))]) (.cond (.t 6) .stop .skip)) (.seq (.seq (.region false [mV 8 1,
 mV 9 0,
 oP 10 (.capn (.t 9)),
 mV 11 0,
 oP 12 (.len (.t 11)),
 oP 13 (.bin .num .sub (.t 10) (.t 12)),
 oP 14 (.bin .num .sub (.t 8) (.t 13)),
 mV 1 14]) (.seq (.region false [mV 15 1,
 oP 16 (.bin .num .gtr (.t 15) (.c (.int .i64 0)))]) (.cond (.t 16) (.region false [mV 17 0,
 mV 18 0,
 oP 19 (.capn (.t 18)),
 oP 20 (.slice 7 (.t 17) none (some (.t 19)) none),
 mV 21 1,
 oP 22 (.appendZ 7 88 (.agg [(.bool false), .nil, (.int .i64 0), (.bool false), .nil, (.int .i64 0), (.bool false)]) (.t 20) (.t 21)),
 mV 23 0,
 oP 24 (.len (.t 23)),
 oP 25 (.slice 7 (.t 22) none (some (.t 24)) none),
 mV 0 25]) .skip))) (.seq (.region false [mV 26 0,
 mV 4 26]) .ret)))),
 true, true⟩

/- series_sum -/
def c_series_sum_l0 : AC := (.seq (.seq (.region false [mV 16 10,
 mV 17 1,
 oP 18 (.bin .num .leq (.t 16) (.t 17))]) (.cond (.t 18) .skip (.exit 0))) (.seq (.block 1 (.region true [oP 21 (.load true 7 (.t 9)),
 mV 22 3,
 mV 23 10,
 oP 24 (.call (.t 22) [(.t 23)]),
 mV 25 2,
 oS 26 (.call (.f 138) [(.t 21), (.t 24), (.t 25)]),
 ⟨none, .store 7 (.t 9) (.t 26), none, true⟩])) (.region false [mV 19 10,
 oP 20 (.bin .num .add (.t 19) (.c (.int .i64 1))),
 mV 10 20])))
@[simp] def c_series_sum : AFn := ⟨[(.cell 8 true 7)],
 (.seq (.region false [oP 8 (.new 7 (.agg [(.bool false), .nil, (.int .i64 0), (.bool false), .nil, (.int .i64 0), (.bool false)]))]) (.seq (.region false [mV 11 3,
 mV 12 0,
 oP 13 (.call (.t 11) [(.t 12)]),
 oP 9 (.new 7 (.agg [(.bool false), .nil, (.int .i64 0), (.bool false), .nil, (.int .i64 0), (.bool false)])),
 ⟨none, .store 7 (.t 9) (.t 13), none, false⟩]) (.seq (.seq (.region false [mV 14 0,
 oP 15 (.bin .num .add (.t 14) (.c (.int .i64 1))),
 mV 10 15]) (.block 0 (.loop c_series_sum_l0))) (.seq (.region false [oP 27 (.load true 7 (.t 9)),
 ⟨none, .store 7 (.t 8) (.t 27), none, false⟩]) .ret)))),
 false, false⟩

/- series_Mul_1 -/
@[simp] def c_series_Mul_1 : AFn := ⟨[(.cell 6 true 7)],
 (.seq (.region false [oP 6 (.new 7 (.agg [(.bool false), .nil, (.int .i64 0), (.bool false), .nil, (.int .i64 0), (.bool false)]))]) (.seq (.region true [oP 7 (.load false 1 (.t 1)),
 mV 8 0,
 oP 9 (.iaddr 7 (.t 7) (.t 8)),
 oP 10 (.load true 7 (.t 9)),
 oP 11 (.load false 1 (.t 2)),
 oP 12 (.load false 1 (.t 3)),
 mV 13 0,
 oP 14 (.bin .num .sub (.t 12) (.t 13)),
 oP 15 (.iaddr 7 (.t 11) (.t 14)),
 oP 16 (.load true 7 (.t 15)),
 oP 17 (.load false 1 (.t 4)),
 oS 18 (.call (.f 140) [(.t 10), (.t 16), (.t 17)]),
 ⟨none, .store 7 (.t 6) (.t 18), none, true⟩]) .ret)),
 false, false⟩

/- series_less -/
def c_series_less_l0 : AC := (.seq (.seq (.region false [mV 13 11,
 mV 14 2,
 oP 15 (.bin .num .leq (.t 13) (.t 14))]) (.cond (.t 15) .skip (.exit 0))) (.seq (.block 1 (.region true [oP 18 (.load true 7 (.t 5)),
 mV 19 4,
 mV 20 11,
 oP 21 (.call (.t 19) [(.t 20)]),
 mV 22 3,
 oS 23 (.call (.f 139) [(.t 18), (.t 21), (.t 22)]),
 ⟨none, .store 7 (.t 5) (.t 23), none, true⟩])) (.region false [mV 16 11,
 oP 17 (.bin .num .add (.t 16) (.c (.int .i64 1))),
 mV 11 17])))
@[simp] def c_series_less : AFn := ⟨[(.cell 10 true 7)],
 (.seq (.region false [oP 5 (.box 7 (.t 0)),
 oP 10 (.new 7 (.agg [(.bool false), .nil, (.int .i64 0), (.bool false), .nil, (.int .i64 0), (.bool false)]))]) (.seq (.seq (.region false [mV 12 1,
 mV 11 12]) (.block 0 (.loop c_series_less_l0))) (.seq (.region false [oP 24 (.load true 7 (.t 5)),
 ⟨none, .store 7 (.t 10) (.t 24), none, false⟩]) .ret))),
 false, false⟩

/- series_Div_1 -/
@[simp] def c_series_Div_1 : AFn := ⟨[(.cell 6 true 7)],
 (.seq (.region false [oP 6 (.new 7 (.agg [(.bool false), .nil, (.int .i64 0), (.bool false), .nil, (.int .i64 0), (.bool false)]))]) (.seq (.region true [oP 7 (.load false 1 (.t 1)),
 mV 8 0,
 oP 9 (.iaddr 7 (.t 7) (.t 8)),
 oP 10 (.load true 7 (.t 9)),
 oP 11 (.load false 1 (.t 2)),
 oP 12 (.load false 1 (.t 3)),
 mV 13 0,
 oP 14 (.bin .num .sub (.t 12) (.t 13)),
 oP 15 (.iaddr 7 (.t 11) (.t 14)),
 oP 16 (.load true 7 (.t 15)),
 oP 17 (.load false 1 (.t 4)),
 oS 18 (.call (.f 140) [(.t 10), (.t 16), (.t 17)]),
 ⟨none, .store 7 (.t 6) (.t 18), none, true⟩]) .ret)),
 false, false⟩

/- series_Sqrt_1 -/
@[simp] def c_series_Sqrt_1 : AFn := ⟨[(.cell 5 true 7)],
 (.seq (.region false [oP 5 (.new 7 (.agg [(.bool false), .nil, (.int .i64 0), (.bool false), .nil, (.int .i64 0), (.bool false)]))]) (.seq (.region true [oP 6 (.load false 1 (.t 1)),
 mV 7 0,
 oP 8 (.iaddr 7 (.t 6) (.t 7)),
 oP 9 (.load true 7 (.t 8)),
 oP 10 (.load false 1 (.t 1)),
 oP 11 (.load false 1 (.t 2)),
 mV 12 0,
 oP 13 (.bin .num .sub (.t 11) (.t 12)),
 oP 14 (.iaddr 7 (.t 10) (.t 13)),
 oP 15 (.load true 7 (.t 14)),
 oP 16 (.load false 1 (.t 3)),
 oS 17 (.call (.f 140) [(.t 9), (.t 15), (.t 16)]),
 ⟨none, .store 7 (.t 5) (.t 17), none, true⟩]) .ret)),
 false, false⟩

/- slices_IndexFunc_Intervals -/
def c_slices_IndexFunc_Intervals_l0 : AC := (.seq (.region false [oP 9 (.bin .num .lss (.t 8) (.t 7))]) (.seq (.cond (.t 9) .skip (.exit 0)) (.seq (.block 1 (.seq (.region false [mV 10 8,
 mV 5 10]) (.seq (.region false [mV 11 1,
 mV 12 0,
 mV 13 5,
 oP 14 (.iaddr 1 (.t 12) (.t 13)),
 oP 15 (.load false 1 (.t 14)),
 oP 16 (.call (.t 11) [(.t 15)])]) (.cond (.t 16) (.seq (.region false [mV 17 5,
 mV 4 17]) .ret) .skip)))) (.region false [oP 18 (.bin .num .add (.t 8) (.c (.int .i64 1))),
 mV 8 18]))))
@[simp] def c_slices_IndexFunc_Intervals : AFn := ⟨[(.tmp 4)],
 (.seq (.region false [oP 4 (.mv (.c (.int .i64 0)))]) (.seq (.seq (.region false [mV 6 0,
 oP 7 (.len (.t 6)),
 oP 8 (.mv (.c (.int .i64 0)))]) (.block 0 (.loop c_slices_IndexFunc_Intervals_l0))) (.seq (.region false [oP 4 (.mv (.c (.int .i64 (-1))))]) .ret))),
 false, false⟩

/- math_bits_Mul32 -/
@[simp] def c_math_bits_Mul32 : AFn := ⟨[(.tmp 4), (.tmp 5)],
 (.seq (.region false [oP 4 (.mv (.c (.int .u32 0))),
 oP 5 (.mv (.c (.int .u32 0)))]) (.seq (.region false [mV 7 0,
 oP 8 (.conv .u64 (.t 7)),
 mV 9 1,
 oP 10 (.conv .u64 (.t 9)),
 oP 11 (.bin .num .mul (.t 8) (.t 10)),
 mV 6 11]) (.seq (.region false [mV 12 6,
 oP 13 (.bin .num .shr (.t 12) (.c (.int .u64 32))),
 oP 14 (.conv .u32 (.t 13)),
 mV 15 6,
 oP 16 (.conv .u32 (.t 15)),
 mV 4 14,
 mV 5 16]) .ret))),
 false, false⟩

/- math_bits_Mul64 -/
@[simp] def c_math_bits_Mul64 : AFn := ⟨[(.tmp 4), (.tmp 5)],
 (.seq (.region false [oP 4 (.mv (.c (.int .u64 0))),
 oP 5 (.mv (.c (.int .u64 0)))]) (.seq (.region false [mV 14 0,
 oP 15 (.bin .num .and (.t 14) (.c (.int .u64 4294967295))),
 mV 6 15]) (.seq (.region false [mV 16 0,
 oP 17 (.bin .num .shr (.t 16) (.c (.int .u64 32))),
 mV 7 17]) (.seq (.region false [mV 18 1,
 oP 19 (.bin .num .and (.t 18) (.c (.int .u64 4294967295))),
 mV 8 19]) (.seq (.region false [mV 20 1,
 oP 21 (.bin .num .shr (.t 20) (.c (.int .u64 32))),
 mV 9 21]) (.seq (.region false [mV 22 6,
 mV 23 8,
 oP 24 (.bin .num .mul (.t 22) (.t 23)),
 mV 10 24]) (.seq (.region false [mV 25 7,
 mV 26 8,
 oP 27 (.bin .num .mul (.t 25) (.t 26)),
 mV 28 10,
 oP 29 (.bin .num .shr (.t 28) (.c (.int .u64 32))),
 oP 30 (.bin .num .add (.t 27) (.t 29)),
 mV 11 30]) (.seq (.region false [mV 31 11,
 oP 32 (.bin .num .and (.t 31) (.c (.int .u64 4294967295))),
 mV 12 32]) (.seq (.region false [mV 33 11,
 oP 34 (.bin .num .shr (.t 33) (.c (.int .u64 32))),
 mV 13 34]) (.seq (.region false [mV 35 12,
 mV 36 6,
 mV 37 9,
 oP 38 (.bin .num .mul (.t 36) (.t 37)),
 oP 39 (.bin .num .add (.t 35) (.t 38)),
 mV 12 39]) (.seq (.region false [mV 40 7,
 mV 41 9,
 oP 42 (.bin .num .mul (.t 40) (.t 41)),
 mV 43 13,
 oP 44 (.bin .num .add (.t 42) (.t 43)),
 mV 45 12,
 oP 46 (.bin .num .shr (.t 45) (.c (.int .u64 32))),
 oP 47 (.bin .num .add (.t 44) (.t 46)),
 mV 4 47]) (.seq (.region false [mV 48 0,
 mV 49 1,
 oP 50 (.bin .num .mul (.t 48) (.t 49)),
 mV 5 50]) .ret)))))))))))),
 false, false⟩

/- slices_CloneO_Interval -/
@[simp] def c_slices_CloneO_Interval : AFn := ⟨[(.tmp 2)],
 (.seq (.region false [oP 2 (.mv (.c .nil))]) (.seq (.seq (.region false [mV 3 0,
 oP 4 (.bin .slice .eql (.t 3) (.c .nil))]) (.cond (.t 4) (.seq (.region false [oP 2 (.mv (.c .nil))]) .ret) .skip)) (.seq (.region false [oP 5 (.bslice 7 0 (.agg [(.bool false), .nil, (.int .i64 0), (.bool false), .nil, (.int .i64 0), (.bool false)]) []),
 mV 6 0,
 oP 7 (.append 7 88 (.t 5) (.t 6)),
 mV 2 7]) .ret))),
 true, false⟩

end Go.Abs
/- MADE BY A PROGRAM (wip/tools/dump.sh, addcode.py): the abstract code of the functions that a further seat reaches. -/
namespace Go.Abs

/- slices_EqualFuncR_Interval -/
def c_slices_EqualFuncR_Interval_l0 : AC := (.seq (.region false [oP 18 (.bin .num .lss (.t 17) (.t 16))]) (.seq (.cond (.t 18) .skip (.exit 0)) (.seq (.block 1 (.seq (.region false [mV 19 17,
 oP 20 (.iaddr 7 (.t 15) (.t 17)),
 oP 21 (.load true 7 (.t 20)),
 oP 8 (.new 7 (.agg [(.bool false), .nil, (.int .i64 0), (.bool false), .nil, (.int .i64 0), (.bool false)])),
 mV 7 19,
 ⟨none, .store 7 (.t 8) (.t 21), none, false⟩]) (.seq (.region false [mV 22 1,
 mV 23 7,
 oP 24 (.iaddr 7 (.t 22) (.t 23)),
 oP 25 (.load true 7 (.t 24)),
 oP 9 (.new 7 (.agg [(.bool false), .nil, (.int .i64 0), (.bool false), .nil, (.int .i64 0), (.bool false)])),
 ⟨none, .store 7 (.t 9) (.t 25), none, false⟩]) (.seq (.region false [mV 26 2,
 oP 27 (.load true 7 (.t 8)),
 oP 28 (.load true 7 (.t 9)),
 oP 29 (.call (.t 26) [(.t 27), (.t 28)]),
 oP 30 (.un .not (.t 29))]) (.cond (.t 30) (.seq (.region false [oP 6 (.mv (.c (.bool false)))]) .ret) .skip))))) (.region false [oP 31 (.bin .num .add (.t 17) (.c (.int .i64 1))),
 mV 17 31]))))
@[simp] def c_slices_EqualFuncR_Interval : AFn := ⟨[(.tmp 6)],
 (.seq (.region false [oP 6 (.mv (.c (.bool false)))]) (.seq (.seq (.region false [mV 10 0,
 oP 11 (.len (.t 10)),
 mV 12 1,
 oP 13 (.len (.t 12)),
 oP 14 (.bin .num .neq (.t 11) (.t 13))]) (.cond (.t 14) (.seq (.region false [oP 6 (.mv (.c (.bool false)))]) .ret) .skip)) (.seq (.seq (.region false [mV 15 0,
 oP 16 (.len (.t 15)),
 oP 17 (.mv (.c (.int .i64 0)))]) (.block 0 (.loop c_slices_EqualFuncR_Interval_l0))) (.seq (.region false [oP 6 (.mv (.c (.bool true)))]) .ret)))),
 false, true⟩

/- fplaw21_sameR -/
@[simp] def c_fplaw21_sameR : AFn := ⟨[(.tmp 4)],
 (.seq (.region false [oP 4 (.mv (.c (.bool false)))]) (.seq (.region false [mV 5 0,
 mV 6 1,
 oP 7 (.call (.f 331) [(.t 5), (.t 6), (.f 60)]),
 mV 4 7]) .ret)),
 false, true⟩

/- fplaw21_awakeR -/
@[simp] def c_fplaw21_awakeR : AFn := ⟨[(.tmp 0)],
 (.seq (.region false [oP 0 (.mv (.c (.bool false)))]) (.seq (.region false [oP 5 (.call (.f 293) [(.c (.int .i64 1))]),
 oP 6 (.call (.f 291) [(.t 5), (.c (.int .i64 2))]),
 mV 1 6]) (.seq (.region false [oP 7 (.call (.f 293) [(.c (.int .i64 1))]),
 oP 8 (.call (.f 158) [(.t 7), (.c (.int .i64 (-1)))]),
 oP 2 (.new 7 (.agg [(.bool false), .nil, (.int .i64 0), (.bool false), .nil, (.int .i64 0), (.bool false)])),
 ⟨none, .store 7 (.t 2) (.t 8), none, false⟩]) (.seq (.region false [mV 9 1,
 oP 10 (.call (.f 311) [(.t 9), (.c (.int .i64 24))]),
 mV 3 10]) (.seq (.region false [oP 11 (.call (.f 293) [(.c (.int .i64 1))]),
 oP 12 (.call (.f 290) [(.t 11), (.c (.int .i64 2))]),
 mV 13 1,
 oP 14 (.call (.f 303) [(.t 12), (.t 13), (.c (.int .i64 24))]),
 mV 4 14]) (.seq (.region true [mV 15 3,
 oP 16 (.call (.f 293) [(.c (.int .i64 1))]),
 oP 17 (.load true 7 (.t 2)),
 oP 18 (.call (.f 293) [(.c (.int .i64 (-1)))]),
 oP 19 (.call (.f 158) [(.t 18), (.c (.int .i64 (-3)))]),
 oS 20 (.bslice 7 3 (.agg [(.bool false), .nil, (.int .i64 0), (.bool false), .nil, (.int .i64 0), (.bool false)]) [(0, (.t 16)), (1, (.t 17)), (2, (.t 19))]),
 oS 21 (.call (.f 332) [(.t 15), (.t 20)]),
 mV 22 21,
 gT 23 22 (.mv (.t 4)),
 ⟨some 24, .call (.f 293) [(.c (.int .i64 1))], some (22, true), true⟩,
 ⟨some 25, .call (.f 293) [(.c (.int .i64 (-1)))], some (22, true), true⟩,
 ⟨some 26, .call (.f 293) [(.c (.int .i64 1))], some (22, true), true⟩,
 ⟨some 27, .bslice 7 3 (.agg [(.bool false), .nil, (.int .i64 0), (.bool false), .nil, (.int .i64 0), (.bool false)]) [(0, (.t 24)), (1, (.t 25)), (2, (.t 26))], some (22, true), true⟩,
 ⟨some 28, .call (.f 332) [(.t 23), (.t 27)], some (22, true), true⟩,
 oP 29 (.pick (.t 22) (.t 28) (.c (.bool false))),
 mV 0 29]) .ret)))))),
 false, false⟩

/- fplaw21_SeriesSumsR -/
@[simp] def c_fplaw21_SeriesSumsR : AFn := ⟨[(.tmp 10)],
 (.seq (.region false [oP 7 (.box 7 (.t 2)),
 oP 10 (.mv (.c (.bool false)))]) (.seq (.seq (.region false [oP 16 (.call (.f 333) []),
 oP 17 (.un .not (.t 16))]) (.cond (.t 17) (.seq (.region false [oP 10 (.mv (.c (.bool false)))]) .ret) .skip)) (.seq (.seq (.region false [mV 18 4,
 mV 19 0,
 mV 20 1,
 oP 21 (.load true 7 (.t 7)),
 oP 22 (.bslice 7 1 (.agg [(.bool false), .nil, (.int .i64 0), (.bool false), .nil, (.int .i64 0), (.bool false)]) [(0, (.t 21))]),
 oP 23 (.bslice 1 3 .nil [(0, (.t 19)), (1, (.t 20)), (2, (.t 22))]),
 oP 24 (.call (.f 281) [(.t 18), (.t 23)])]) (.cond (.t 24) (.seq (.region false [oP 10 (.mv (.c (.bool true)))]) .ret) .skip)) (.seq (.region true [oP 25 (.load true 7 (.t 7)),
 mV 26 3,
 oP 27 (.call (.f 290) [(.t 25), (.t 26)]),
 oP 28 (.load true 7 (.t 7)),
 mV 29 3,
 oS 30 (.call (.f 291) [(.t 28), (.t 29)]),
 mV 11 27,
 mV 12 30]) (.seq (.seq (.region false [mV 31 3,
 oP 32 (.bin .num .lss (.t 31) (.c (.int .i64 0))),
 mV 33 32,
 gF 34 33 (.mv (.t 3)),
 gF 35 33 (.bin .num .gtr (.t 34) (.c (.int .i64 16))),
 oP 36 (.pick (.t 33) (.c (.bool true)) (.t 35))]) (.cond (.t 36) (.seq (.region false [mV 37 11,
 oP 38 (.len (.t 37)),
 oP 39 (.bin .num .neq (.t 38) (.c (.int .i64 0))),
 mV 40 39,
 gF 41 40 (.mv (.t 12)),
 gF 42 40 (.len (.t 41)),
 gF 43 40 (.bin .num .neq (.t 42) (.c (.int .i64 0))),
 oP 44 (.pick (.t 40) (.c (.bool true)) (.t 43))]) (.cond (.t 44) (.seq (.region false [oP 10 (.mv (.c (.bool false)))]) .ret) .skip)) (.seq (.region false [oP 45 (.call (.f 293) [(.c (.int .i64 0))]),
 oP 46 (.bslice 7 1 (.agg [(.bool false), .nil, (.int .i64 0), (.bool false), .nil, (.int .i64 0), (.bool false)]) [(0, (.t 45))]),
 mV 47 3,
 oP 48 (.bin .num .add (.t 47) (.c (.int .i64 1))),
 oP 49 (.call (.f 292) [(.t 46), (.t 48)]),
 mV 13 49]) (.seq (.region false [mV 50 13,
 oP 51 (.load true 7 (.t 7)),
 oP 52 (.iaddr 7 (.t 50) (.c (.int .i64 0))),
 ⟨none, .store 7 (.t 52) (.t 51), none, false⟩]) (.seq (.seq (.region false [mV 53 11,
 mV 54 13,
 oP 55 (.call (.f 332) [(.t 53), (.t 54)]),
 oP 56 (.un .not (.t 55))]) (.cond (.t 56) (.seq (.region false [oP 10 (.mv (.c (.bool false)))]) .ret) .skip)) (.seq (.seq (.region false [mV 57 3,
 oP 58 (.bin .num .gtr (.t 57) (.c (.int .i64 0)))]) (.cond (.t 58) (.region false [mV 59 13,
 oP 60 (.call (.f 293) [(.c (.int .i64 1))]),
 oP 61 (.iaddr 7 (.t 59) (.c (.int .i64 1))),
 ⟨none, .store 7 (.t 61) (.t 60), none, false⟩]) .skip)) (.seq (.region false [mV 62 12,
 mV 63 13,
 oP 64 (.call (.f 332) [(.t 62), (.t 63)]),
 oP 65 (.un .not (.t 64))]) (.cond (.t 65) (.seq (.region false [oP 10 (.mv (.c (.bool false)))]) .ret) .skip)))))))) (.seq (.region false [mV 66 0,
 mV 67 1,
 mV 68 4,
 oP 69 (.call (.f 294) [(.t 66), (.t 67), (.t 68)]),
 mV 70 0,
 mV 71 1,
 mV 72 4,
 oP 73 (.call (.f 295) [(.t 70), (.t 71), (.t 72)]),
 mV 14 69,
 mV 15 73]) (.seq (.seq (.region false [mV 74 0,
 mV 75 1,
 oP 76 (.call (.f 296) [(.t 74), (.t 75)]),
 oP 77 (.un .not (.t 76))]) (.cond (.t 77) (.seq (.region false [mV 78 14,
 oP 79 (.len (.t 78)),
 oP 80 (.bin .num .eql (.t 79) (.c (.int .i64 0))),
 mV 81 80,
 gT 82 81 (.mv (.t 15)),
 gT 83 81 (.len (.t 82)),
 gT 84 81 (.bin .num .eql (.t 83) (.c (.int .i64 0))),
 oP 85 (.pick (.t 81) (.t 84) (.c (.bool false))),
 mV 10 85]) .ret) .skip)) (.seq (.region false [mV 86 14,
 mV 87 0,
 mV 88 1,
 mV 89 4,
 oP 90 (.call (.f 297) [(.t 87), (.t 88), (.c (.bool false)), (.t 89)]),
 oP 91 (.call (.f 332) [(.t 86), (.t 90)]),
 mV 92 91,
 gT 93 92 (.mv (.t 15)),
 gT 94 92 (.mv (.t 0)),
 gT 95 92 (.mv (.t 1)),
 gT 96 92 (.mv (.t 4)),
 gT 97 92 (.call (.f 297) [(.t 94), (.t 95), (.c (.bool true)), (.t 96)]),
 gT 98 92 (.call (.f 332) [(.t 93), (.t 97)]),
 oP 99 (.pick (.t 92) (.t 98) (.c (.bool false))),
 mV 10 99]) .ret)))))))),
 false, false⟩

end Go.Abs
/- MADE BY A PROGRAM (wip/tools/mkcode.py): our numbers of the functions, and the program. -/
namespace Go.Abs

abbrev g_fpref02_Valid : Nat := 12
abbrev g_fpref02_Cmp : Nat := 18
abbrev g_fpref02_Equal : Nat := 23
abbrev g_fpref02_bits : Nat := 49
abbrev g_dyadic_Valid : Nat := 51
abbrev g_dyadic_Cmp : Nat := 52
abbrev g_fpref02_Sign : Nat := 54
abbrev g_fpref02_Top : Nat := 55
abbrev g_fpref02_Sum : Nat := 56
abbrev g_fpref02_Neg : Nat := 57
abbrev g_fpref05_Equal : Nat := 60
abbrev g_fpref02_compare : Nat := 63
abbrev g_slices_ContainsFunc_Interval : Nat := 67
abbrev g_fpref05_Valid : Nat := 70
abbrev g_fpref02_Int : Nat := 74
abbrev g_interval_Valid : Nat := 77
abbrev g_dyadic_inRange : Nat := 78
abbrev g_dyadic_Sign : Nat := 79
abbrev g_dyadic_compare : Nat := 80
abbrev g_slices_EqualFunc_Interval : Nat := 82
abbrev g_interval_Inside : Nat := 83
abbrev g_fpref02_left : Nat := 84
abbrev g_fpref02_Of : Nat := 85
abbrev g_fpref02_plus : Nat := 86
abbrev g_fpref02_minus : Nat := 87
abbrev g_slices_IndexFunc_Interval : Nat := 89
abbrev g_interval_Meet : Nat := 90
abbrev g_fpref05_zero : Nat := 91
abbrev g_interval_Hull : Nat := 94
abbrev g_interval_Valid_1 : Nat := 96
abbrev g_dyadic_size : Nat := 97
abbrev g_dyadic_Top : Nat := 98
abbrev g_natural_Cmp : Nat := 99
abbrev g_dyadic_shifted : Nat := 100
abbrev g_fpref02_trim : Nat := 101
abbrev g_fpref02_zeros : Nat := 102
abbrev g_fpref02_right : Nat := 103
abbrev g_interval_more : Nat := 104
abbrev g_interval_less : Nat := 105
abbrev g_interval_known : Nat := 106
abbrev g_interval_Whole : Nat := 107
abbrev g_fpref05_known : Nat := 108
abbrev g_fpref05_Whole : Nat := 109
abbrev g_natural_Bits : Nat := 110
abbrev g_natural_trim : Nat := 111
abbrev g_natural_Shl : Nat := 112
abbrev g_math_bits_Len32 : Nat := 113
abbrev g_natural_long : Nat := 114
abbrev g_natural_done : Nat := 115
abbrev g_natural_shl : Nat := 116
abbrev g_slices_ContainsFunc_uint32s : Nat := 117
abbrev g_natural_long_1 : Nat := 118
abbrev g_slices_Clip_uint32 : Nat := 119
abbrev g_slices_IndexFunc_uint32s : Nat := 120
abbrev g_interval_Add : Nat := 138
abbrev g_interval_Sub : Nat := 139
abbrev g_interval_Mul : Nat := 140
abbrev g_interval_Div : Nat := 142
abbrev g_fpref05_Add : Nat := 145
abbrev g_fpref05_Sub : Nat := 146
abbrev g_interval_Neg : Nat := 147
abbrev g_fpref05_Neg : Nat := 148
abbrev g_interval_Point : Nat := 152
abbrev g_fpref05_Point : Nat := 153
abbrev g_interval_Abs : Nat := 156
abbrev g_interval_Scale : Nat := 158
abbrev g_interval_Mag : Nat := 164
abbrev g_interval_Mig : Nat := 165
abbrev g_interval_Sign : Nat := 173
abbrev g_interval_Sqrt : Nat := 176
abbrev g_interval_Power : Nat := 178
abbrev g_interval_permitted : Nat := 186
abbrev g_round_AddDown : Nat := 187
abbrev g_round_AddUp : Nat := 188
abbrev g_interval_made : Nat := 189
abbrev g_interval_four : Nat := 190
abbrev g_round_MulDown : Nat := 191
abbrev g_round_MulUp : Nat := 192
abbrev g_round_DivDown : Nat := 193
abbrev g_round_DivUp : Nat := 194
abbrev g_fpref05_Prec : Nat := 195
abbrev g_fpref03_Add : Nat := 196
abbrev g_fpref05_made : Nat := 197
abbrev g_dyadic_Neg : Nat := 198
abbrev g_round_Down : Nat := 199
abbrev g_round_Up : Nat := 200
abbrev g_dyadic_Scale : Nat := 204
abbrev g_dyadic_Abs : Nat := 205
abbrev g_round_SqrtDown : Nat := 207
abbrev g_round_SqrtUp : Nat := 208
abbrev g_dyadic_Int : Nat := 210
abbrev g_interval_end : Nat := 211
abbrev g_round_add : Nat := 216
abbrev g_round_mul : Nat := 217
abbrev g_round_div : Nat := 218
abbrev g_fpref03_fault : Nat := 219
abbrev g_fpref03_exact : Nat := 220
abbrev g_slices_Clone_uint32 : Nat := 221
abbrev g_round_round : Nat := 222
abbrev g_dyadic_exponent : Nat := 223
abbrev g_dyadic_checked : Nat := 224
abbrev g_dyadic_canonical : Nat := 225
abbrev g_fpref01_Bits : Nat := 226
abbrev g_fpref01_Shl : Nat := 228
abbrev g_fpref03_Cut : Nat := 229
abbrev g_round_sqrt : Nat := 230
abbrev g_fpref01_Cmp : Nat := 232
abbrev g_interval_power : Nat := 234
abbrev g_round_fault : Nat := 235
abbrev g_round_sum : Nat := 236
abbrev g_round_signed : Nat := 237
abbrev g_natural_Mul : Nat := 238
abbrev g_dyadic_Bits : Nat := 239
abbrev g_natural_DivMod : Nat := 240
abbrev g_round_shl : Nat := 241
abbrev g_fpref03_Prec : Nat := 242
abbrev g_round_of : Nat := 243
abbrev g_dyadic_trimmed : Nat := 244
abbrev g_dyadic_low : Nat := 245
abbrev g_natural_Shr : Nat := 246
abbrev g_fpref01_Trim : Nat := 247
abbrev g_fpref01_at : Nat := 249
abbrev g_fpref01_Shr : Nat := 250
abbrev g_fpref01_Add : Nat := 251
abbrev g_fpref03_greatest : Nat := 252
abbrev g_natural_Sqrt : Nat := 253
abbrev g_round_cut : Nat := 254
abbrev g_round_precise : Nat := 255
abbrev g_round_shr : Nat := 256
abbrev g_natural_Add : Nat := 257
abbrev g_natural_Sub : Nat := 258
abbrev g_natural_mul : Nat := 259
abbrev g_natural_divide : Nat := 260
abbrev g_math_bits_TrailingZeros32 : Nat := 261
abbrev g_natural_shr : Nat := 262
abbrev g_fpref01_Sub : Nat := 263
abbrev g_natural_add : Nat := 264
abbrev g_dyadic_Make : Nat := 265
abbrev g_natural_sub : Nat := 266
abbrev g_natural_short : Nat := 267
abbrev g_math_bits_LeadingZeros32 : Nat := 268
abbrev g_natural_guess : Nat := 269
abbrev g_natural_take : Nat := 270
abbrev g_math_bits_Add32 : Nat := 271
abbrev g_math_bits_Sub32 : Nat := 272
abbrev g_math_bits_Div32 : Nat := 273
abbrev g_natural_digit : Nat := 274
abbrev g_fplaw21_SeriesRules : Nat := 277
abbrev g_fplaw21_SeriesIsotone : Nat := 279
abbrev g_fplaw21_awake : Nat := 280
abbrev g_fplaw21_great : Nat := 281
abbrev g_series_Integral : Nat := 282
abbrev g_series_Derivative : Nat := 283
abbrev g_fpref21_Right : Nat := 285
abbrev g_fplaw21_same : Nat := 286
abbrev g_series_Constant : Nat := 290
abbrev g_series_Variable : Nat := 291
abbrev g_slices_Repeat_Interval : Nat := 292
abbrev g_fpref21_Num : Nat := 293
abbrev g_series_Add : Nat := 294
abbrev g_series_Sub : Nat := 295
abbrev g_fplaw21_pair : Nat := 296
abbrev g_fpref21_Sum : Nat := 297
abbrev g_slices_Concat_Interval : Nat := 298
abbrev g_fplaw21_SeriesRules_1 : Nat := 299
abbrev g_fplaw21_SeriesRules_2 : Nat := 300
abbrev g_fplaw21_SeriesRules_2_1 : Nat := 301
abbrev g_series_Mul : Nat := 302
abbrev g_series_Div : Nat := 303
abbrev g_series_Power : Nat := 304
abbrev g_fplaw21_SeriesIsotone_1 : Nat := 308
abbrev g_fplaw21_SeriesIsotone_2 : Nat := 309
abbrev g_fplaw21_all : Nat := 310
abbrev g_series_Sqrt : Nat := 311
abbrev g_slices_ContainsFunc_Intervals : Nat := 312
abbrev g_fplaw21_great_1 : Nat := 313
abbrev g_fplaw21_great_1_1 : Nat := 314
abbrev g_series_are : Nat := 315
abbrev g_series_whole : Nat := 316
abbrev g_math_bits_Mul : Nat := 317
abbrev g_series_each : Nat := 318
abbrev g_series_Add_1 : Nat := 319
abbrev g_series_Sub_1 : Nat := 320
abbrev g_slices_Grow_Interval : Nat := 321
abbrev g_series_sum : Nat := 322
abbrev g_series_Mul_1 : Nat := 323
abbrev g_series_less : Nat := 324
abbrev g_series_Div_1 : Nat := 325
abbrev g_series_Sqrt_1 : Nat := 326
abbrev g_slices_IndexFunc_Intervals : Nat := 327
abbrev g_math_bits_Mul32 : Nat := 328
abbrev g_math_bits_Mul64 : Nat := 329
abbrev g_slices_CloneO_Interval : Nat := 330
abbrev g_slices_EqualFuncR_Interval : Nat := 331
abbrev g_fplaw21_sameR : Nat := 332
abbrev g_fplaw21_awakeR : Nat := 333
abbrev g_fplaw21_SeriesSumsR : Nat := 334

def fnList : List (Nat × AFn) :=
 [(12, c_fpref02_Valid),
  (18, c_fpref02_Cmp),
  (23, c_fpref02_Equal),
  (49, c_fpref02_bits),
  (51, c_dyadic_Valid),
  (52, c_dyadic_Cmp),
  (54, c_fpref02_Sign),
  (55, c_fpref02_Top),
  (56, c_fpref02_Sum),
  (57, c_fpref02_Neg),
  (60, c_fpref05_Equal),
  (63, c_fpref02_compare),
  (67, c_slices_ContainsFunc_Interval),
  (70, c_fpref05_Valid),
  (74, c_fpref02_Int),
  (77, c_interval_Valid),
  (78, c_dyadic_inRange),
  (79, c_dyadic_Sign),
  (80, c_dyadic_compare),
  (82, c_slices_EqualFunc_Interval),
  (83, c_interval_Inside),
  (84, c_fpref02_left),
  (85, c_fpref02_Of),
  (86, c_fpref02_plus),
  (87, c_fpref02_minus),
  (89, c_slices_IndexFunc_Interval),
  (90, c_interval_Meet),
  (91, c_fpref05_zero),
  (94, c_interval_Hull),
  (96, c_interval_Valid_1),
  (97, c_dyadic_size),
  (98, c_dyadic_Top),
  (99, c_natural_Cmp),
  (100, c_dyadic_shifted),
  (101, c_fpref02_trim),
  (102, c_fpref02_zeros),
  (103, c_fpref02_right),
  (104, c_interval_more),
  (105, c_interval_less),
  (106, c_interval_known),
  (107, c_interval_Whole),
  (108, c_fpref05_known),
  (109, c_fpref05_Whole),
  (110, c_natural_Bits),
  (111, c_natural_trim),
  (112, c_natural_Shl),
  (113, c_math_bits_Len32),
  (114, c_natural_long),
  (115, c_natural_done),
  (116, c_natural_shl),
  (117, c_slices_ContainsFunc_uint32s),
  (118, c_natural_long_1),
  (119, c_slices_Clip_uint32),
  (120, c_slices_IndexFunc_uint32s),
  (138, c_interval_Add),
  (139, c_interval_Sub),
  (140, c_interval_Mul),
  (142, c_interval_Div),
  (145, c_fpref05_Add),
  (146, c_fpref05_Sub),
  (147, c_interval_Neg),
  (148, c_fpref05_Neg),
  (152, c_interval_Point),
  (153, c_fpref05_Point),
  (156, c_interval_Abs),
  (158, c_interval_Scale),
  (164, c_interval_Mag),
  (165, c_interval_Mig),
  (173, c_interval_Sign),
  (176, c_interval_Sqrt),
  (178, c_interval_Power),
  (186, c_interval_permitted),
  (187, c_round_AddDown),
  (188, c_round_AddUp),
  (189, c_interval_made),
  (190, c_interval_four),
  (191, c_round_MulDown),
  (192, c_round_MulUp),
  (193, c_round_DivDown),
  (194, c_round_DivUp),
  (195, c_fpref05_Prec),
  (196, c_fpref03_Add),
  (197, c_fpref05_made),
  (198, c_dyadic_Neg),
  (199, c_round_Down),
  (200, c_round_Up),
  (204, c_dyadic_Scale),
  (205, c_dyadic_Abs),
  (207, c_round_SqrtDown),
  (208, c_round_SqrtUp),
  (210, c_dyadic_Int),
  (211, c_interval_end),
  (216, c_round_add),
  (217, c_round_mul),
  (218, c_round_div),
  (219, c_fpref03_fault),
  (220, c_fpref03_exact),
  (221, c_slices_Clone_uint32),
  (222, c_round_round),
  (223, c_dyadic_exponent),
  (224, c_dyadic_checked),
  (225, c_dyadic_canonical),
  (226, c_fpref01_Bits),
  (228, c_fpref01_Shl),
  (229, c_fpref03_Cut),
  (230, c_round_sqrt),
  (232, c_fpref01_Cmp),
  (234, c_interval_power),
  (235, c_round_fault),
  (236, c_round_sum),
  (237, c_round_signed),
  (238, c_natural_Mul),
  (239, c_dyadic_Bits),
  (240, c_natural_DivMod),
  (241, c_round_shl),
  (242, c_fpref03_Prec),
  (243, c_round_of),
  (244, c_dyadic_trimmed),
  (245, c_dyadic_low),
  (246, c_natural_Shr),
  (247, c_fpref01_Trim),
  (249, c_fpref01_at),
  (250, c_fpref01_Shr),
  (251, c_fpref01_Add),
  (252, c_fpref03_greatest),
  (253, c_natural_Sqrt),
  (254, c_round_cut),
  (255, c_round_precise),
  (256, c_round_shr),
  (257, c_natural_Add),
  (258, c_natural_Sub),
  (259, c_natural_mul),
  (260, c_natural_divide),
  (261, c_math_bits_TrailingZeros32),
  (262, c_natural_shr),
  (263, c_fpref01_Sub),
  (264, c_natural_add),
  (265, c_dyadic_Make),
  (266, c_natural_sub),
  (267, c_natural_short),
  (268, c_math_bits_LeadingZeros32),
  (269, c_natural_guess),
  (270, c_natural_take),
  (271, c_math_bits_Add32),
  (272, c_math_bits_Sub32),
  (273, c_math_bits_Div32),
  (274, c_natural_digit),
  (277, c_fplaw21_SeriesRules),
  (279, c_fplaw21_SeriesIsotone),
  (280, c_fplaw21_awake),
  (281, c_fplaw21_great),
  (282, c_series_Integral),
  (283, c_series_Derivative),
  (285, c_fpref21_Right),
  (286, c_fplaw21_same),
  (290, c_series_Constant),
  (291, c_series_Variable),
  (292, c_slices_Repeat_Interval),
  (293, c_fpref21_Num),
  (294, c_series_Add),
  (295, c_series_Sub),
  (296, c_fplaw21_pair),
  (297, c_fpref21_Sum),
  (298, c_slices_Concat_Interval),
  (299, c_fplaw21_SeriesRules_1),
  (300, c_fplaw21_SeriesRules_2),
  (301, c_fplaw21_SeriesRules_2_1),
  (302, c_series_Mul),
  (303, c_series_Div),
  (304, c_series_Power),
  (308, c_fplaw21_SeriesIsotone_1),
  (309, c_fplaw21_SeriesIsotone_2),
  (310, c_fplaw21_all),
  (311, c_series_Sqrt),
  (312, c_slices_ContainsFunc_Intervals),
  (313, c_fplaw21_great_1),
  (314, c_fplaw21_great_1_1),
  (315, c_series_are),
  (316, c_series_whole),
  (317, c_math_bits_Mul),
  (318, c_series_each),
  (319, c_series_Add_1),
  (320, c_series_Sub_1),
  (321, c_slices_Grow_Interval),
  (322, c_series_sum),
  (323, c_series_Mul_1),
  (324, c_series_less),
  (325, c_series_Div_1),
  (326, c_series_Sqrt_1),
  (327, c_slices_IndexFunc_Intervals),
  (328, c_math_bits_Mul32),
  (329, c_math_bits_Mul64),
  (330, c_slices_CloneO_Interval),
  (331, c_slices_EqualFuncR_Interval),
  (332, c_fplaw21_sameR),
  (333, c_fplaw21_awakeR),
  (334, c_fplaw21_SeriesSumsR)]

end Go.Abs
/- Rules to find out what abstract code does: total correctness, backward, no loop without a measure. -/
namespace Go.Abs

section
variable {S : AProg}

def WC (S : AProg) (n0 : Nat) (c : AC) (E : Env) (H : Heap) (Q : AX → Env → Heap → Prop) : Prop :=
 ∃ x E1 H1, Ev S (.code n0 c E H) (.cd x E1 H1) ∧ Q x E1 H1

def WO (S : AProg) (n0 : Nat) (d : Bool) (l : List AOper) (E : Env) (H : Heap) (Q : Env → Heap → Prop) : Prop :=
 ∃ E1 H1, Ev S (.ops n0 d l E H) (.cd .normal E1 H1) ∧ Q E1 H1

def CT (S : AProg) (g : Nat) (args : List V) (H : Heap) (Q : V → Heap → Prop) : Prop :=
 ∃ v H1, Ev S (.call g args H) (.ret v H1) ∧ Q v H1

/-- The everyday contract: the answer, and nothing else has turned. -/
def CQ (S : AProg) (g : Nat) (args : List V) (v : V) : Prop := ∀ H, Ev S (.call g args H) (.ret v H)

variable {n0 : Nat} {E : Env} {H : Heap} {Q : AX → Env → Heap → Prop} {R : Env → Heap → Prop} {d : Bool}

theorem WC.mono {c : AC} {Q' : AX → Env → Heap → Prop} (h : WC S n0 c E H Q) (hq : ∀ x E H, Q x E H → Q' x E H) : WC S n0 c E H Q' :=
 let ⟨x, E1, H1, e, q⟩ := h; ⟨x, E1, H1, e, hq _ _ _ q⟩

theorem WO.mono {l : List AOper} {R' : Env → Heap → Prop} (h : WO S n0 d l E H R) (hq : ∀ E H, R E H → R' E H) : WO S n0 d l E H R' :=
 let ⟨E1, H1, e, q⟩ := h; ⟨E1, H1, e, hq _ _ q⟩

theorem CT.mono {g : Nat} {args : List V} {Q Q' : V → Heap → Prop} (h : CT S g args H Q) (hq : ∀ v H, Q v H → Q' v H) : CT S g args H Q' :=
 let ⟨v, H1, e, q⟩ := h; ⟨v, H1, e, hq _ _ q⟩

theorem WC_skip (h : Q .normal E H) : WC S n0 .skip E H Q := ⟨_, _, _, .skip, h⟩
theorem WC_exit {id : Nat} (h : Q (.exit id) E H) : WC S n0 (.exit id) E H Q := ⟨_, _, _, .exit, h⟩
theorem WC_ret (h : Q .ret E H) : WC S n0 .ret E H Q := ⟨_, _, _, .ret, h⟩

def AX.thn (K : Env → Heap → Prop) (Q : AX → Env → Heap → Prop) : AX → Env → Heap → Prop
 | .normal, E, H => K E H
 | x, E, H => Q x E H

theorem WC_seq {a b : AC} (h : WC S n0 a E H (AX.thn (fun E H => WC S n0 b E H Q) Q)) : WC S n0 (.seq a b) E H Q := by
 obtain ⟨x, E1, H1, e, q⟩ := h
 cases x with
 | normal => obtain ⟨y, E2, H2, e2, q2⟩ := q; exact ⟨y, E2, H2, .seqN e e2, q2⟩
 | exit id => exact ⟨_, _, _, .seqX e (by simp), q⟩
 | ret => exact ⟨_, _, _, .seqX e (by simp), q⟩

theorem WC_cond {c : X} {a b : AC} {t : Bool} (hc : getX E c = .bool t) (h1 : t = true → WC S n0 a E H Q) (h2 : t = false → WC S n0 b E H Q) : WC S n0 (.cond c a b) E H Q := by
 cases t with
 | true => obtain ⟨x, E1, H1, e, q⟩ := h1 rfl; exact ⟨x, E1, H1, .cond hc (by simpa using e), q⟩
 | false => obtain ⟨x, E1, H1, e, q⟩ := h2 rfl; exact ⟨x, E1, H1, .cond hc (by simpa using e), q⟩

theorem WC_true {c : X} {a b : AC} (hc : getX E c = .bool true) (h : WC S n0 a E H Q) : WC S n0 (.cond c a b) E H Q := WC_cond hc (fun _ => h) (by simp)
theorem WC_false {c : X} {a b : AC} (hc : getX E c = .bool false) (h : WC S n0 b E H Q) : WC S n0 (.cond c a b) E H Q := WC_cond hc (by simp) (fun _ => h)

theorem WC_block {id : Nat} {c : AC} (h : WC S n0 c E H (fun x E H => Q (x.outOf id) E H)) : WC S n0 (.block id c) E H Q := by
 obtain ⟨x, E1, H1, e, q⟩ := h
 exact ⟨_, _, _, .block e, q⟩

theorem WC_region {l : List AOper} (h : WO S n0 d l E H (fun E H => Q .normal E H)) : WC S n0 (.region d l) E H Q := by
 obtain ⟨E1, H1, e, q⟩ := h
 exact ⟨_, _, _, .region e, q⟩

theorem WC_loop {c : AC} (I : Nat → Env → Heap → Prop) (k : Nat) (h0 : I k E H)
   (round : ∀ k E H, I k E H → WC S n0 c E H (AX.thn (fun E1 H1 => ∃ j, j < k ∧ I j E1 H1) Q)) : WC S n0 (.loop c) E H Q := by
 induction k using Nat.strongRecOn generalizing E H with
 | _ k ih =>
   obtain ⟨x, E1, H1, e, q⟩ := round k E H h0
   cases x with
   | normal =>
     obtain ⟨j, hj, hI⟩ := q
     obtain ⟨y, E2, H2, e2, q2⟩ := ih j hj hI
     exact ⟨y, E2, H2, .loopN e e2, q2⟩
   | exit id => exact ⟨_, _, _, .loopX e (by simp), q⟩
   | ret => exact ⟨_, _, _, .loopX e (by simp), q⟩

theorem WO_nil (h : R E H) : WO S n0 d [] E H R := ⟨_, _, .opNil, h⟩

/-- The rest of a region, standing at a call: nothing is done before a contract is offered. -/
def WOcall (S : AProg) (n0 : Nat) (d : Bool) (dst : Option Nat) (x : X) (xs : List X) (gu : Option (Nat × Bool)) (sy : Bool) (l : List AOper) (E : Env) (H : Heap) (R : Env → Heap → Prop) : Prop :=
 WO S n0 d (⟨dst, .call x xs, gu, sy⟩ :: l) E H R

/-- What an operation comes to. -/
def stepP (S : AProg) (n0 : Nat) (d : Bool) (dst : Option Nat) (op : AOp) (gu : Option (Nat × Bool)) (sy : Bool) (l : List AOper) (E : Env) (H : Heap) (R : Env → Heap → Prop) : Prop :=
 match gd ⟨dst, op, gu, sy⟩ E with
 | some false => WO S n0 d l (put E dst .undef) H R
 | some true =>
   match op with
   | .call x xs => WOcall S n0 d dst x xs none sy l E H R
   | op =>
     match stp n0 op E H with
     | some (v, H1) => ((d && !sy) = true → H <+: H1) ∧ WO S n0 d l (put E dst v) H1 R
     | none => False
 | none => False

theorem WO_cons {dst : Option Nat} {op : AOp} {gu : Option (Nat × Bool)} {sy : Bool} {l : List AOper} (h : stepP S n0 d dst op gu sy l E H R) : WO S n0 d (⟨dst, op, gu, sy⟩ :: l) E H R := by
 unfold stepP at h
 split at h
 · rename_i hg
   obtain ⟨E1, H1, e, q⟩ := h
   exact ⟨_, _, .opSkip hg e, q⟩
 · rename_i hg
   split at h
   · obtain ⟨E1, H1, e, q⟩ := h
     refine ⟨E1, H1, ?_, q⟩
     cases e with
     | opSkip hg' _ => simp [gd] at hg'
     | opDo _ hs _ _ => cases hs
     | opCall _ ho hx hp e1 hpre e2 => exact .opCall hg ho hx hp e1 hpre e2
   · split at h
     · rename_i v H1 hs
       obtain ⟨hp, E1, H2, e, q⟩ := h
       exact ⟨_, _, .opDo hg hs (fun hd hsy => hp (by simp [hd]; simpa using hsy)) e, q⟩
     · exact h.elim
 · exact h.elim

theorem WO_iff {dst : Option Nat} {op : AOp} {gu : Option (Nat × Bool)} {sy : Bool} {l : List AOper} : WO S n0 d (⟨dst, op, gu, sy⟩ :: l) E H R ↔ stepP S n0 d dst op gu sy l E H R := by
 refine ⟨fun h => ?_, WO_cons⟩
 obtain ⟨E1, H1, e, q⟩ := h
 unfold stepP
 cases e with
 | opSkip hg e1 => rw [hg]; exact ⟨_, _, e1, q⟩
 | opDo hg hs hp e1 =>
   rw [hg]
   cases op <;> first
     | (cases hs; done)
     | (simp only [] at hs ⊢; rw [hs]; exact ⟨fun h => by simp at h; exact hp h.1 h.2, _, _, e1, q⟩)
 | opCall hg ho hx hp e1 hpre e2 =>
   simp only [] at ho
   subst ho
   rw [hg]
   exact ⟨_, _, .opCall rfl rfl hx hp e1 hpre e2, q⟩

theorem WO_nil_iff : WO S n0 d [] E H R ↔ R E H := by
 refine ⟨fun h => ?_, WO_nil⟩
 obtain ⟨E1, H1, e, q⟩ := h
 cases e; exact q

theorem WO_call {dst : Option Nat} {sy : Bool} {l : List AOper} {x : X} {args caps vs : List V} {xs : List X} {g : Nat} {H1 : Heap} (hx : getX E x = .fn g caps)
   (ha : xs.map (getX E) ++ caps = args) (hp : prep S g H args = some (vs, H1))
   (h : CT S g vs H1 (fun v H2 => ((d && !sy) = true → H <+: H2) ∧ WO S n0 d l (put E dst v) H2 R)) : WOcall S n0 d dst x xs none sy l E H R := by
 obtain ⟨v, H2, e, hpre, E1, H3, e1, q⟩ := h
 subst ha
 exact ⟨_, _, .opCall rfl rfl hx hp e (fun hd hsy => hpre (by simp [hd]; simpa using hsy)) e1, q⟩

theorem CQ.ct {g : Nat} {args : List V} {v : V} {Q : V → Heap → Prop} (h : CQ S g args v) (hq : Q v H) : CT S g args H Q := ⟨_, _, h H, hq⟩

theorem CQ_of {g : Nat} {f : AFn} {args : List V} {v : V} (hf : S.fn g = some f)
   (h : ∀ H, WC S H.length f.body (E0 args) H (fun x E1 H1 => (x = .normal ∨ x = .ret) ∧ ∃ v0, resV E1 H1 f.results = some v0 ∧ fin f.own H.length H1 v0 = some (v, H))) : CQ S g args v := by
 intro H
 obtain ⟨x, E1, H1, e, hx, v0, hr, hfin⟩ := h H
 exact .call hf e hx hr hfin

theorem CT_of {g : Nat} {f : AFn} {args : List V} {Q : V → Heap → Prop} (hf : S.fn g = some f)
   (h : WC S H.length f.body (E0 args) H (fun x E1 H1 => (x = .normal ∨ x = .ret) ∧ ∃ v0 v H2, resV E1 H1 f.results = some v0 ∧ fin f.own H.length H1 v0 = some (v, H2) ∧ Q v H2)) : CT S g args H Q := by
 obtain ⟨x, E1, H1, e, hx, v0, v, H2, hr, hfin, hq⟩ := h
 exact ⟨_, _, .call hf e hx hr hfin, hq⟩

theorem CQ_emp {g : Nat} {pre post : List V} {v : V} (h1 : CQ S g (pre ++ .nil :: post) v) (h2 : CQ S g (pre ++ .emp :: post) v) : CQ S g (pre ++ .sl [] :: post) v := fun H => .emp (h1 H) (h2 H)

end

/-- The variables of an environment, one by one. -/
theorem upd_apply (E : Env) (d : Nat) (v : V) (i : Nat) : upd E d v i = if i = d then v else E i := rfl

theorem wrap_i64 {n : Int} (h1 : -9223372036854775808 ≤ n) (h2 : n < 9223372036854775808) : IntKind.wrap .i64 n = n := by
 simp [IntKind.wrap, IntKind.bits, IntKind.signed]; split <;> omega
theorem wrap_u32 {n : Int} (h1 : 0 ≤ n) (h2 : n < 4294967296) : IntKind.wrap .u32 n = n := by
 simp only [IntKind.wrap, IntKind.bits, IntKind.signed]; simp; omega
theorem wrap_u64 {n : Int} (h1 : 0 ≤ n) (h2 : n < 18446744073709551616) : IntKind.wrap .u64 n = n := by
 simp only [IntKind.wrap, IntKind.bits, IntKind.signed]; simp; omega

end Go.Abs

/- The abstract program: the functions of this seat. -/
namespace Go.Abs

def prog : AProg := ⟨look fnList, fun _ _ => none⟩

end Go.Abs

/- What each operation comes to, one lemma each. -/
namespace Go.Abs

def stpAppend (z bytes : Nat) (x y : V) (H : Heap) : Option (V × Heap) :=
   (elems H y).bind fun ys =>
     if headOk z ys = true then
       match x with
       | .nil =>
         if ys = [] then some (.nil, H)
         else if appendLimit ys.length bytes = true then some (.ref H.length z 0 ys.length, H ++ [some ⟨z, ys, true, true⟩]) else none
       | .ref b z' off len =>
         match H[b]? with
         | some (some k) =>
           if k.arr = true ∧ k.wr = true ∧ k.z = z ∧ z' = z ∧ off + len ≤ k.el.length ∧ appendLimit (len + ys.length) bytes = true then
             if ys = [] then some (.ref b z' off len, H)
             else some (.ref H.length z 0 (len + ys.length), H.set b none ++ [some ⟨z, (k.el.drop off).take len ++ ys, true, true⟩])
           else none
         | _ => none
       | _ => none
     else none

theorem stq_append {n0 z bytes : Nat} {x y : X} {E : Env} {H : Heap} : stp n0 (.append z bytes x y) E H = stpAppend z bytes (getX E x) (getX E y) H := rfl

theorem stq_mv {n0 : Nat} {E : Env} {H : Heap} {x : X} : stp n0 (.mv x) E H = (some (getX E x, H)) := rfl

theorem stq_pick {n0 : Nat} {E : Env} {H : Heap} {c a b : X} : stp n0 (.pick c a b) E H =
   match getX E c with
   | .bool t => some (if t then getX E a else getX E b, H)
   | _ => none := rfl

theorem stq_box {n0 : Nat} {E : Env} {H : Heap} {z : Nat} {x : X} : stp n0 (.box z x) E H =
   if (getX E x).cells.length = z ∧ (getX E x).isTup = false then some (.ptr H.length 0 0, H ++ [some ⟨z, [getX E x], false, true⟩]) else none := rfl

theorem stq_new {n0 : Nat} {E : Env} {H : Heap} {z : Nat} {v : V} : stp n0 (.new z v) E H = (if v.cells.length = z ∧ v.pure = true then some (.ptr H.length 0 0, H ++ [some ⟨z, [v], false, true⟩]) else none) := rfl

theorem stq_build {n0 : Nat} {E : Env} {H : Heap} {zero : List V} {parts : List (Nat × Nat × X)} : stp n0 (.build zero parts) E H =
   if zero.all V.cellPure = true then (fillC zero (parts.map fun p => (p.1, p.2.1, getX E p.2.2))).map fun cs => (.agg cs, H) else none := rfl

theorem stq_bslice {n0 : Nat} {E : Env} {H : Heap} {z len : Nat} {zero : V} {parts : List (Nat × X)} : stp n0 (.bslice z len zero parts) E H =
   if zero.cells.length = z ∧ zero.pure = true then
     (pureIns H (parts.map fun p => getX E p.2)).bind fun (vs, H1) =>
       (fillE z (List.replicate len zero) ((parts.map (·.1)).zip vs)).map fun el => (.ref H1.length z 0 len, H1 ++ [some ⟨z, el, true, true⟩])
   else none := rfl

theorem stq_load {n0 : Nat} {E : Env} {H : Heap} {ag : Bool} {z : Nat} {x : X} : stp n0 (.load ag z x) E H =
   match getX E x with
   | .eptr cs => (wrapC ag z cs).map fun v => (v, H)
   | .ptr b i off =>
     match H[b]? with
     | some (some k) =>
       match k.el[i]? with
       | some e => (wrapC ag z (e.cells.drop off)).map fun v => (v, H)
       | none => none
     | _ => none
   | _ => none := rfl

theorem stq_store {n0 : Nat} {E : Env} {H : Heap} {z : Nat} {a x : X} : stp n0 (.store z a x) E H = (stStore n0 z (getX E a) (getX E x) H) := rfl

theorem stq_sload {n0 : Nat} {E : Env} {H : Heap} {ag : Bool} {z t : Nat} : stp n0 (.sload ag z t) E H =
   match E t with
   | .eptr cs => (wrapC ag z cs).map fun v => (v, H)
   | .ptr b i off =>
     match H[b]? with
     | some (some k) =>
       match k.el[i]? with
       | some e => (wrapC ag z (e.cells.drop off)).bind fun v => if v.cells.all (V.lowB H.length) = true ∧ v.isTup = false then some (v, H) else none
       | none => none
     | _ => none
   | _ => none := rfl

theorem stq_storeN {n0 : Nat} {E : Env} {H : Heap} {z : Nat} {a x : X} {av : List Nat} : stp n0 (.storeN z a x av) E H = (if (getX E x).pure = true ∧ (av.all fun t => apart (E t) (getX E a)) = true then stStore n0 z (getX E a) (getX E x) H else none) := rfl

theorem stq_bin {n0 : Nat} {E : Env} {H : Heap} {bk : BK} {op : BinOp} {x y : X} : stp n0 (.bin bk op x y) E H = ((binV bk op (getX E x) (getX E y)).map fun v => (v, H)) := rfl

theorem stq_un {n0 : Nat} {E : Env} {H : Heap} {op : UnOp} {x : X} : stp n0 (.un op x) E H = ((unV op (getX E x)).map fun v => (v, H)) := rfl

theorem stq_conv {n0 : Nat} {E : Env} {H : Heap} {k : IntKind} {x : X} : stp n0 (.conv k x) E H =
   match getX E x with
   | .int _ n => some (.int k (k.wrap n), H)
   | _ => none := rfl

theorem stq_mkfn {n0 : Nat} {E : Env} {H : Heap} {g : Nat} {caps : List X} : stp n0 (.mkfn g caps) E H = (if (caps.map (getX E)).all V.isCell = true then some (.fn g (caps.map (getX E)), H) else none) := rfl

theorem stq_mkslice {n0 : Nat} {E : Env} {H : Heap} {z bytes : Nat} {zero : V} {l c : X} : stp n0 (.mkslice z bytes zero l c) E H =
   match natOf (getX E l), natOf (getX E c) with
   | some l, some c =>
     if l ≤ c ∧ c * bytes ≤ 281474976710656 ∧ c ≤ 9223372036854775807 ∧ zero.cells.length = z ∧ zero.pure = true then
       some (.ref H.length z 0 l, H ++ [some ⟨z, List.replicate c zero, true, true⟩])
     else none
   | _, _ => none := rfl

theorem stq_appendZ {n0 z bytes : Nat} {zero : V} {x n : X} {E : Env} {H : Heap} : stp n0 (.appendZ z bytes zero x n) E H =
   match getX E x, natOf (getX E n) with
   | .nil, some m =>
     if 0 < m ∧ m * bytes ≤ 140737488355328 ∧ m ≤ 9223372036854775807 ∧ zero.cells.length = z ∧ zero.pure = true then some (.ref H.length z 0 m, H ++ [some ⟨z, List.replicate m zero, true, true⟩]) else none
   | _, _ => none := rfl

theorem stq_slice {n0 : Nat} {E : Env} {H : Heap} {z : Nat} {x : X} {lo hi mx : Option X} : stp n0 (.slice z x lo hi mx) E H =
   match getX E x with
   | .nil =>
     match optNat E 0 lo, optNat E 0 hi, optNat E 0 mx with
     | some 0, some 0, some 0 => some (.nil, H)
     | _, _, _ => none
   | .sl l =>
     match optNat E 0 lo, optNat E l.length hi, optNat E l.length mx with
     | some lo, some hi, some mx =>
       if lo ≤ hi ∧ hi ≤ mx ∧ mx ≤ l.length ∧ (lo = 0 ∨ headOk z ((l.take hi).drop lo) = true) then some (.sl ((l.take hi).drop lo), H) else none
     | _, _, _ => none
   | .ref b z' off len =>
     match optNat E 0 lo, optNat E len hi, mx with
     | some lo, some hi, none => if lo ≤ hi ∧ hi ≤ len ∧ z' = z then some (.ref b z' (off + lo) (hi - lo), H) else none
     | _, _, _ => none
   | _ => none := rfl

theorem stq_faddr {n0 : Nat} {E : Env} {H : Heap} {off : Nat} {x : X} : stp n0 (.faddr off x) E H =
   match getX E x with
   | .ptr b i o => some (.ptr b i (o + off), H)
   | .eptr cs => some (.eptr (cs.drop off), H)
   | _ => none := rfl

theorem stq_field {n0 : Nat} {E : Env} {H : Heap} {ag : Bool} {off z : Nat} {x : X} : stp n0 (.field ag off z x) E H =
   match getX E x with
   | .agg cs => (wrapC ag z (cs.drop off)).map fun v => (v, H)
   | _ => none := rfl

theorem stq_iaddr {n0 : Nat} {E : Env} {H : Heap} {z : Nat} {x i : X} : stp n0 (.iaddr z x i) E H =
   match getX E x, natOf (getX E i) with
   | .sl l, some i =>
     match l[i]? with
     | some e => if e.cells.length = z then some (.eptr e.cells, H) else none
     | none => none
   | .ref b z' off len, some i => if i < len ∧ z' = z then some (.ptr b (off + i) 0, H) else none
   | _, _ => none := rfl

theorem stq_aiaddr {n0 : Nat} {E : Env} {H : Heap} {n z : Nat} {x i : X} : stp n0 (.aiaddr n z x i) E H =
   match getX E x, natOf (getX E i) with
   | .ptr b j off, some i => if i < n then some (.ptr b j (off + i * z), H) else none
   | .eptr cs, some i => if i < n then some (.eptr (cs.drop (i * z)), H) else none
   | _, _ => none := rfl

theorem stq_index {n0 : Nat} {E : Env} {H : Heap} {ag : Bool} {n z : Nat} {x i : X} : stp n0 (.index ag n z x i) E H =
   match getX E x, natOf (getX E i) with
   | .agg cs, some i => if i < n then (wrapC ag z (cs.drop (i * z))).map fun v => (v, H) else none
   | _, _ => none := rfl

theorem stq_sindex {n0 : Nat} {E : Env} {H : Heap} {x i : X} : stp n0 (.sindex x i) E H =
   match getX E x, natOf (getX E i) with
   | .str s, some i =>
     match s[i]? with
     | some b => some (.int .u8 b.toNat, H)
     | none => none
   | _, _ => none := rfl

theorem stq_extract {n0 : Nat} {E : Env} {H : Heap} {i : Nat} {x : X} : stp n0 (.extract i x) E H =
   match getX E x with
   | .tup vs => (vs[i]?).map fun v => (v, H)
   | _ => none := rfl

theorem stq_len {n0 : Nat} {E : Env} {H : Heap} {x : X} : stp n0 (.len x) E H =
   match getX E x with
   | .sl l => some (.int .i64 l.length, H)
   | .nil => some (.int .i64 0, H)
   | .emp => some (.int .i64 0, H)
   | .ref _ _ _ len => some (.int .i64 len, H)
   | _ => none := rfl

theorem stq_lenc {n0 : Nat} {E : Env} {H : Heap} {n : Nat} {x : X} : stp n0 (.lenc n x) E H = (some (.int .i64 n, H)) := rfl

theorem stq_capn {n0 : Nat} {E : Env} {H : Heap} {x : X} : stp n0 (.capn x) E H =
   match getX E x with
   | .nil => some (.int .i64 0, H)
   | _ => none := rfl

theorem stq_copy {n0 : Nat} {E : Env} {H : Heap} {z : Nat} {x y : X} : stp n0 (.copy z x y) E H =
   match getX E x with
   | .ref b z' off len =>
     (elems H (getX E y)).bind fun ys =>
       match H[b]? with
       | some (some k) =>
         if k.arr = true ∧ k.wr = true ∧ k.z = z ∧ z' = z ∧ headOk z ys = true ∧ off + len ≤ k.el.length then
           some (.int .i64 (Nat.min ys.length len), H.set b (some { k with el := splice k.el off (ys.take len) }))
         else none
       | _ => none
   | _ => none := rfl

theorem stq_min {n0 : Nat} {E : Env} {H : Heap} {x y : X} : stp n0 (.min x y) E H =
   match getX E x, getX E y with
   | .int k a, .int k' b => if k = k' then some (.int k (if b < a then b else a), H) else none
   | _, _ => none := rfl

theorem stq_max {n0 : Nat} {E : Env} {H : Heap} {x y : X} : stp n0 (.max x y) E H =
   match getX E x, getX E y with
   | .int k a, .int k' b => if k = k' then some (.int k (if a < b then b else a), H) else none
   | _, _ => none := rfl

theorem stq_max3 {n0 : Nat} {E : Env} {H : Heap} {x y z : X} : stp n0 (.max3 x y z) E H =
   match getX E x, getX E y, getX E z with
   | .int k a, .int k' b, .int k'' c => if k = k' ∧ k = k'' then some (.int k (if (if a < b then b else a) < c then c else if a < b then b else a), H) else none
   | _, _, _ => none := rfl

attribute [simp] stq_max3 stq_append stq_mv stq_pick stq_box stq_new stq_build stq_bslice stq_load stq_store stq_sload stq_storeN stq_bin stq_un stq_conv stq_mkfn stq_mkslice stq_appendZ stq_slice stq_faddr stq_field stq_iaddr stq_aiaddr stq_index stq_sindex stq_extract stq_len stq_lenc stq_capn stq_copy stq_min stq_max

end Go.Abs

/- The rules once more, with what comes behind as a list: so that 'simp' runs straight-line code by itself. -/
namespace Go.Abs

inductive Fr where
 | seq (b : AC)
 | blk (id : Nat)

section
variable {S : AProg} {n0 : Nat} {Q : AX → Env → Heap → Prop}

def WP (S : AProg) (n0 : Nat) (Q : AX → Env → Heap → Prop) : List Fr → AX → Env → Heap → Prop
 | [], x, E, H => Q x E H
 | .seq b :: K, .normal, E, H => WC S n0 b E H (fun x E H => WP S n0 Q K x E H)
 | .seq _ :: K, x, E, H => WP S n0 Q K x E H
 | .blk id :: K, x, E, H => WP S n0 Q K (x.outOf id) E H

/-- Code, and what comes behind. -/
def WK (S : AProg) (n0 : Nat) (c : AC) (K : List Fr) (E : Env) (H : Heap) (Q : AX → Env → Heap → Prop) : Prop := WC S n0 c E H (fun x E H => WP S n0 Q K x E H)
/-- Operations, and what comes behind. -/
def WL (S : AProg) (n0 : Nat) (d : Bool) (l : List AOper) (K : List Fr) (E : Env) (H : Heap) (Q : AX → Env → Heap → Prop) : Prop := WO S n0 d l E H (fun E H => WP S n0 Q K .normal E H)

theorem WC_of_WK {c : AC} {E : Env} {H : Heap} (h : WK S n0 c [] E H Q) : WC S n0 c E H Q := h

theorem WP_nil {x : AX} {E : Env} {H : Heap} : WP S n0 Q [] x E H ↔ Q x E H := Iff.rfl
theorem WP_seq {b : AC} {K : List Fr} {E : Env} {H : Heap} : WP S n0 Q (.seq b :: K) .normal E H ↔ WK S n0 b K E H Q := Iff.rfl
theorem WP_seq_exit {b : AC} {K : List Fr} {id : Nat} {E : Env} {H : Heap} : WP S n0 Q (.seq b :: K) (.exit id) E H ↔ WP S n0 Q K (.exit id) E H := Iff.rfl
theorem WP_seq_ret {b : AC} {K : List Fr} {E : Env} {H : Heap} : WP S n0 Q (.seq b :: K) .ret E H ↔ WP S n0 Q K .ret E H := Iff.rfl
theorem WP_blk {id : Nat} {K : List Fr} {x : AX} {E : Env} {H : Heap} : WP S n0 Q (.blk id :: K) x E H ↔ WP S n0 Q K (x.outOf id) E H := by cases x <;> exact Iff.rfl

theorem WC_mono {c : AC} {E : Env} {H : Heap} {Q' : AX → Env → Heap → Prop} (h : WC S n0 c E H Q) (hq : ∀ x E H, Q x E H → Q' x E H) : WC S n0 c E H Q' := by
 obtain ⟨x, E1, H1, e, q⟩ := h
 exact ⟨x, E1, H1, e, hq _ _ _ q⟩

theorem WK_seq_iff {a b : AC} {K : List Fr} {E : Env} {H : Heap} : WK S n0 (.seq a b) K E H Q ↔ WK S n0 a (.seq b :: K) E H Q := by
 constructor
 · rintro ⟨x, E1, H1, e, q⟩
   cases e with
   | seqN e1 e2 => exact ⟨.normal, _, _, e1, _, _, _, e2, q⟩
   | seqX e1 hx =>
     refine ⟨x, E1, H1, e1, ?_⟩
     cases x with
     | normal => exact absurd rfl hx
     | exit id => exact q
     | ret => exact q
 · intro h
   refine WC_seq (WC_mono h fun x E1 H1 q => ?_)
   cases x with
   | normal => exact q
   | exit id => exact q
   | ret => exact q

theorem WK_cond_iff {x : X} {a b : AC} {K : List Fr} {E : Env} {H : Heap} : WK S n0 (.cond x a b) K E H Q ↔ match getX E x with | .bool true => WK S n0 a K E H Q | .bool false => WK S n0 b K E H Q | _ => False := by
 constructor
 · rintro ⟨y, E1, H1, e, q⟩
   cases e with
   | @cond _ _ _ _ _ _ t _ hc e1 =>
     rw [hc]
     cases t with
     | true => exact ⟨_, _, _, by simpa using e1, q⟩
     | false => exact ⟨_, _, _, by simpa using e1, q⟩
 · intro h
   split at h
   · rename_i hc; exact WC_true hc h
   · rename_i hc; exact WC_false hc h
   · exact h.elim

theorem WK_block_iff {id : Nat} {c : AC} {K : List Fr} {E : Env} {H : Heap} : WK S n0 (.block id c) K E H Q ↔ WK S n0 c (.blk id :: K) E H Q := by
 constructor
 · rintro ⟨y, E1, H1, e, q⟩
   cases e with
   | block e1 => exact ⟨_, _, _, e1, WP_blk.2 q⟩
 · intro h
   exact WC_block (WC_mono h fun x E1 H1 q => WP_blk.1 q)

theorem WK_region_iff {d : Bool} {l : List AOper} {K : List Fr} {E : Env} {H : Heap} : WK S n0 (.region d l) K E H Q ↔ WL S n0 d l K E H Q := by
 constructor
 · rintro ⟨y, E1, H1, e, q⟩
   cases e with
   | region e1 => exact ⟨_, _, e1, q⟩
 · intro h; exact WC_region h

theorem WK_skip_iff {K : List Fr} {E : Env} {H : Heap} : WK S n0 .skip K E H Q ↔ WP S n0 Q K .normal E H := ⟨by rintro ⟨y, E1, H1, e, q⟩; cases e; exact q, WC_skip⟩
theorem WK_exit_iff {id : Nat} {K : List Fr} {E : Env} {H : Heap} : WK S n0 (.exit id) K E H Q ↔ WP S n0 Q K (.exit id) E H := ⟨by rintro ⟨y, E1, H1, e, q⟩; cases e; exact q, WC_exit⟩
theorem WK_ret_iff {K : List Fr} {E : Env} {H : Heap} : WK S n0 .ret K E H Q ↔ WP S n0 Q K .ret E H := ⟨by rintro ⟨y, E1, H1, e, q⟩; cases e; exact q, WC_ret⟩

theorem WL_nil_iff {d : Bool} {K : List Fr} {E : Env} {H : Heap} : WL S n0 d [] K E H Q ↔ WP S n0 Q K .normal E H := WO_nil_iff

/-- A call, before a contract is offered. -/
def WLcall (S : AProg) (n0 : Nat) (d : Bool) (dst : Option Nat) (x : X) (xs : List X) (sy : Bool) (l : List AOper) (K : List Fr) (E : Env) (H : Heap) (Q : AX → Env → Heap → Prop) : Prop :=
 WOcall S n0 d dst x xs none sy l E H (fun E H => WP S n0 Q K .normal E H)

def stepL (S : AProg) (n0 : Nat) (d : Bool) (dst : Option Nat) (op : AOp) (gu : Option (Nat × Bool)) (sy : Bool) (l : List AOper) (K : List Fr) (E : Env) (H : Heap) (Q : AX → Env → Heap → Prop) : Prop :=
 match gd ⟨dst, op, gu, sy⟩ E with
 | some false => WL S n0 d l K (put E dst .undef) H Q
 | some true =>
   match op with
   | .call x xs => WLcall S n0 d dst x xs sy l K E H Q
   | op =>
     match stp n0 op E H with
     | some (v, H1) => ((d && !sy) = true → H <+: H1) ∧ WL S n0 d l K (put E dst v) H1 Q
     | none => False
 | none => False

theorem WL_cons_iff {d : Bool} {dst : Option Nat} {op : AOp} {gu : Option (Nat × Bool)} {sy : Bool} {l : List AOper} {K : List Fr} {E : Env} {H : Heap} : WL S n0 d (⟨dst, op, gu, sy⟩ :: l) K E H Q ↔ stepL S n0 d dst op gu sy l K E H Q := WO_iff

theorem WL_call {d : Bool} {dst : Option Nat} {sy : Bool} {l : List AOper} {K : List Fr} {E : Env} {H : Heap} {x : X} {args caps vs : List V} {xs : List X} {g : Nat} {v : V} (hx : getX E x = .fn g caps)
   (ha : xs.map (getX E) ++ caps = args) (hp : prep S g H args = some (vs, H)) (h : CQ S g vs v) (k : WL S n0 d l K (put E dst v) H Q) : WLcall S n0 d dst x xs sy l K E H Q :=
 WO_call hx ha hp (h.ct ⟨fun _ => List.prefix_refl H, k⟩)

theorem WL_callT {d : Bool} {dst : Option Nat} {sy : Bool} {l : List AOper} {K : List Fr} {E : Env} {H H1 : Heap} {x : X} {args caps vs : List V} {xs : List X} {g : Nat} (hx : getX E x = .fn g caps)
   (ha : xs.map (getX E) ++ caps = args) (hp : prep S g H args = some (vs, H1)) (h : CT S g vs H1 (fun v H2 => ((d && !sy) = true → H <+: H2) ∧ WL S n0 d l K (put E dst v) H2 Q)) : WLcall S n0 d dst x xs sy l K E H Q :=
 WO_call hx ha hp h

/-- A loop: an invariant, with a number that falls. -/
theorem WK_loop {c : AC} {K : List Fr} {E : Env} {H : Heap} (I : Nat → Env → Heap → Prop) (k : Nat) (h0 : I k E H)
   (round : ∀ k E H, I k E H → WC S n0 c E H (AX.thn (fun E1 H1 => ∃ j, j < k ∧ I j E1 H1) (fun x E H => WP S n0 Q K x E H))) : WK S n0 (.loop c) K E H Q := WC_loop I k h0 round

/-- One round of a loop: the code, with the invariant at its end. -/
theorem WC_round {c : AC} {E : Env} {H : Heap} {J : Env → Heap → Prop} {R : AX → Env → Heap → Prop} (h : WK S n0 c [] E H (AX.thn J R)) : WC S n0 c E H (AX.thn J R) := h

theorem thn_normal {J : Env → Heap → Prop} {R : AX → Env → Heap → Prop} {E : Env} {H : Heap} : AX.thn J R .normal E H ↔ J E H := Iff.rfl
theorem thn_exit {J : Env → Heap → Prop} {R : AX → Env → Heap → Prop} {id : Nat} {E : Env} {H : Heap} : AX.thn J R (.exit id) E H ↔ R (.exit id) E H := Iff.rfl
theorem thn_ret {J : Env → Heap → Prop} {R : AX → Env → Heap → Prop} {E : Env} {H : Heap} : AX.thn J R .ret E H ↔ R .ret E H := Iff.rfl

theorem CQ_run {g : Nat} {f : AFn} {args : List V} {v : V} (hf : S.fn g = some f)
   (h : ∀ H, WK S H.length f.body [] (E0 args) H (fun x E1 H1 => (x = .normal ∨ x = .ret) ∧ ∃ v0, resV E1 H1 f.results = some v0 ∧ fin f.own H.length H1 v0 = some (v, H))) : CQ S g args v := CQ_of hf h

end

theorem fin_sl {n : Nat} {H : Heap} {l : List V} : fin false n H (.sl l) = some (.sl l, H.take n) := rfl
theorem fin_int {n : Nat} {H : Heap} {k : IntKind} {i : Int} : fin false n H (.int k i) = some (.int k i, H.take n) := rfl
theorem fin_bool {n : Nat} {H : Heap} {b : Bool} : fin false n H (.bool b) = some (.bool b, H.take n) := rfl

@[simp] theorem vcells_agg {cs : List V} : (V.agg cs).cells = cs := rfl
@[simp] theorem vcells_bool {b : Bool} : (V.bool b).cells = [.bool b] := rfl
@[simp] theorem vcells_int {k : IntKind} {n : Int} : (V.int k n).cells = [.int k n] := rfl
@[simp] theorem vcells_sl {l : List V} : (V.sl l).cells = [.sl l] := rfl
@[simp] theorem vcells_nil : V.nil.cells = [.nil] := rfl
@[simp] theorem vcells_ref {b z off len : Nat} : (V.ref b z off len).cells = [.ref b z off len] := rfl
@[simp] theorem vcells_ptr {b i off : Nat} : (V.ptr b i off).cells = [.ptr b i off] := rfl
@[simp] theorem vcells_fn {g : Nat} {cs : List V} : (V.fn g cs).cells = [.fn g cs] := rfl
@[simp] theorem vtup_agg {cs : List V} : (V.agg cs).isTup = false := rfl
@[simp] theorem vtup_bool {b : Bool} : (V.bool b).isTup = false := rfl
@[simp] theorem vtup_int {k : IntKind} {n : Int} : (V.int k n).isTup = false := rfl
@[simp] theorem vtup_sl {l : List V} : (V.sl l).isTup = false := rfl
@[simp] theorem vtup_nil : V.nil.isTup = false := rfl
@[simp] theorem vtup_ref {b z off len : Nat} : (V.ref b z off len).isTup = false := rfl
@[simp] theorem vtup_ptr {b i off : Nat} : (V.ptr b i off).isTup = false := rfl
@[simp] theorem vtup_fn {g : Nat} {cs : List V} : (V.fn g cs).isTup = false := rfl

attribute [simp] fin_sl fin_int fin_bool WP_nil WP_seq WP_seq_exit WP_seq_ret WP_blk WK_seq_iff WK_block_iff WK_region_iff WK_skip_iff WK_exit_iff WK_ret_iff WL_nil_iff thn_normal thn_exit thn_ret
attribute [simp] getX put upd_apply E0 AX.outOf binV binI unV natOf optNat stStore wrapC V.isNil resV resVs resV1

end Go.Abs

/- Rules that open both ways of a branch: simp runs a function to its calls and loops on all of its paths. -/
namespace Go.Abs

section
variable {S : AProg} {n0 : Nat} {Q : AX → Env → Heap → Prop}

/-- A branch on a value. -/
def WKc (S : AProg) (n0 : Nat) (v : V) (a b : AC) (K : List Fr) (E : Env) (H : Heap) (Q : AX → Env → Heap → Prop) : Prop :=
 match v with
 | .bool true => WK S n0 a K E H Q
 | .bool false => WK S n0 b K E H Q
 | _ => False

theorem WKc_bool {t : Bool} {a b : AC} {K : List Fr} {E : Env} {H : Heap} : WKc S n0 (.bool t) a b K E H Q ↔ (t = true → WK S n0 a K E H Q) ∧ (t = false → WK S n0 b K E H Q) := by cases t <;> simp [WKc]
theorem WKc_true {a b : AC} {K : List Fr} {E : Env} {H : Heap} : WKc S n0 (.bool true) a b K E H Q ↔ WK S n0 a K E H Q := Iff.rfl
theorem WKc_false {a b : AC} {K : List Fr} {E : Env} {H : Heap} : WKc S n0 (.bool false) a b K E H Q ↔ WK S n0 b K E H Q := Iff.rfl

theorem WK_cond_x {x : X} {a b : AC} {K : List Fr} {E : Env} {H : Heap} : WK S n0 (.cond x a b) K E H Q ↔ WKc S n0 (getX E x) a b K E H Q := by
 rw [WK_cond_iff]; unfold WKc; split <;> simp_all

/-- An operation that is done. -/
def stepN (S : AProg) (n0 : Nat) (d : Bool) (dst : Option Nat) (op : AOp) (sy : Bool) (l : List AOper) (K : List Fr) (E : Env) (H : Heap) (Q : AX → Env → Heap → Prop) : Prop :=
 match op with
 | .call x xs => WLcall S n0 d dst x xs sy l K E H Q
 | op =>
   match stp n0 op E H with
   | some (v, H1) => ((d && !sy) = true → H <+: H1) ∧ WL S n0 d l K (put E dst v) H1 Q
   | none => False

theorem WL_none {d : Bool} {dst : Option Nat} {op : AOp} {sy : Bool} {l : List AOper} {K : List Fr} {E : Env} {H : Heap} :
   WL S n0 d (⟨dst, op, none, sy⟩ :: l) K E H Q ↔ stepN S n0 d dst op sy l K E H Q := WL_cons_iff

theorem upd_self {E : Env} {t : Nat} {v : V} (h : E t = v) : upd E t v = E := by
 funext i; unfold upd; split
 · rename_i e; rw [e, h]
 · rfl

/-- An operation with a guard. -/
def WLg (S : AProg) (n0 : Nat) (v : V) (t : Nat) (want d : Bool) (dst : Option Nat) (op : AOp) (sy : Bool) (l : List AOper) (K : List Fr) (E : Env) (H : Heap) (Q : AX → Env → Heap → Prop) : Prop :=
 match v with
 | .bool b => if b = want then stepN S n0 d dst op sy l K (upd E t (.bool b)) H Q else WL S n0 d l K (put (upd E t (.bool b)) dst .undef) H Q
 | .tup _ => WL S n0 d l K (put E dst .undef) H Q
 | _ => False

theorem WL_some {d : Bool} {dst : Option Nat} {op : AOp} {sy : Bool} {l : List AOper} {K : List Fr} {E : Env} {H : Heap} {t : Nat} {want : Bool} :
   WL S n0 d (⟨dst, op, some (t, want), sy⟩ :: l) K E H Q ↔ WLg S n0 (E t) t want d dst op sy l K E H Q := by
 rw [WL_cons_iff]
 unfold stepL WLg gd
 simp only
 cases hv : E t with
 | bool b => cases b <;> cases want <;> (simp only [upd_self hv]; exact Iff.rfl)
 | tup vs => exact Iff.rfl
 | _ => exact Iff.rfl

variable {t : Nat} {d : Bool} {dst : Option Nat} {op : AOp} {sy : Bool} {l : List AOper} {K : List Fr} {E : Env} {H : Heap}

theorem WLg_t {b : Bool} : WLg S n0 (.bool b) t true d dst op sy l K E H Q ↔ (b = true → stepN S n0 d dst op sy l K (upd E t (.bool true)) H Q) ∧ (b = false → WL S n0 d l K (put (upd E t (.bool false)) dst .undef) H Q) := by
 cases b <;> simp [WLg]
theorem WLg_f {b : Bool} : WLg S n0 (.bool b) t false d dst op sy l K E H Q ↔ (b = true → WL S n0 d l K (put (upd E t (.bool true)) dst .undef) H Q) ∧ (b = false → stepN S n0 d dst op sy l K (upd E t (.bool false)) H Q) := by
 cases b <;> simp [WLg]
theorem WLg_tt : WLg S n0 (.bool true) t true d dst op sy l K E H Q ↔ stepN S n0 d dst op sy l K (upd E t (.bool true)) H Q := Iff.rfl
theorem WLg_ft : WLg S n0 (.bool false) t true d dst op sy l K E H Q ↔ WL S n0 d l K (put (upd E t (.bool false)) dst .undef) H Q := Iff.rfl
theorem WLg_tf : WLg S n0 (.bool true) t false d dst op sy l K E H Q ↔ WL S n0 d l K (put (upd E t (.bool true)) dst .undef) H Q := Iff.rfl
theorem WLg_ff : WLg S n0 (.bool false) t false d dst op sy l K E H Q ↔ stepN S n0 d dst op sy l K (upd E t (.bool false)) H Q := Iff.rfl
theorem WLg_tup {want : Bool} {vs : List V} : WLg S n0 (.tup vs) t want d dst op sy l K E H Q ↔ WL S n0 d l K (put E dst .undef) H Q := Iff.rfl
theorem WLg_undef {want : Bool} : WLg S n0 .undef t want d dst op sy l K E H Q ↔ WL S n0 d l K (put E dst .undef) H Q := Iff.rfl

end

/-- A loop that counts up. -/
theorem WK_up {S : AProg} {n0 : Nat} {Q : AX → Env → Heap → Prop} {c : AC} {K : List Fr} {E : Env} {H : Heap} (I : Nat → Env → Heap → Prop) (n : Nat) (h0 : I 0 E H)
   (round : ∀ i E H, i ≤ n → I i E H → WK S n0 c [] E H (AX.thn (fun E1 H1 => i < n ∧ I (i + 1) E1 H1) (fun x E H => WP S n0 Q K x E H))) : WK S n0 (.loop c) K E H Q := by
 refine WK_loop (fun k E H => ∃ i, i + k = n ∧ I i E H) n ⟨0, by omega, h0⟩ ?_
 rintro k E H ⟨i, hi, h⟩
 refine WC_mono (round i E H (by omega) h) ?_
 intro x E1 H1 hx
 cases x with
 | normal => exact ⟨k - 1, by have := hx.1; omega, i + 1, by have := hx.1; omega, hx.2⟩
 | exit id => exact hx
 | ret => exact hx

theorem getE_app {α : Type} (H l : List α) (k : Nat) : (H ++ l)[H.length + k]? = l[k]? := by
 rw [List.getElem?_append_right (by omega)]; congr 1; omega
theorem getE_app0 {α : Type} (H l : List α) : (H ++ l)[H.length]? = l[0]? := getE_app H l 0
theorem set_app {α : Type} (H l : List α) (k : Nat) (v : α) : (H ++ l).set (H.length + k) v = H ++ l.set k v := by
 rw [List.set_append_right _ _ (by omega)]; congr 2; omega
theorem set_app0 {α : Type} (H l : List α) (v : α) : (H ++ l).set H.length v = H ++ l.set 0 v := set_app H l 0 v

attribute [simp low] WKc_bool WLg_t WLg_f
attribute [simp] WK_cond_x WKc_true WKc_false stepN WL_none WL_some WLg_tt WLg_ft WLg_tf WLg_ff WLg_tup WLg_undef getE_app getE_app0 set_app set_app0

end Go.Abs

/- Numbers out of limbs. -/
namespace Go.Abs

/-- The number that limbs are, the least significant one first. -/
def natV : List Nat → Nat
 | [] => 0
 | x :: l => x + 4294967296 * natV l

def Li (l : List Nat) : Prop := ∀ x ∈ l, x < 4294967296

theorem Li.cons {x : Nat} {l : List Nat} (h : Li (x :: l)) : x < 4294967296 ∧ Li l := ⟨h x (by simp), fun y hy => h y (by simp [hy])⟩
theorem Li.take {l : List Nat} (h : Li l) (n : Nat) : Li (l.take n) := fun x hx => h x (List.mem_of_mem_take hx)
theorem Li.drop {l : List Nat} (h : Li l) (n : Nat) : Li (l.drop n) := fun x hx => h x (List.mem_of_mem_drop hx)
theorem Li.append {l m : List Nat} (h : Li l) (k : Li m) : Li (l ++ m) := fun x hx => (List.mem_append.1 hx).elim (h x) (k x)

theorem natV_append : ∀ (l m : List Nat), natV (l ++ m) = natV l + 4294967296 ^ l.length * natV m
 | [], m => by simp [natV]
 | x :: l, m => by
   simp only [List.cons_append, natV, natV_append l m, List.length_cons, Nat.pow_succ]
   rw [Nat.mul_add, ← Nat.mul_assoc, Nat.mul_comm 4294967296 (4294967296 ^ l.length)]
   omega

theorem natV_lt : ∀ {l : List Nat}, Li l → natV l < 4294967296 ^ l.length
 | [], _ => by simp [natV]
 | x :: l, h => by
   have h1 := natV_lt h.cons.2
   have h2 := h.cons.1
   simp only [natV, List.length_cons, Nat.pow_succ]
   omega

theorem natV_zeros (n : Nat) : natV (List.replicate n 0) = 0 := by
 induction n with
 | zero => rfl
 | succ n ih => simp [List.replicate_succ, natV, ih]

/-- How many limbs are left of the first n, without zeros at the top. -/
def trimN (l : List Nat) : Nat → Nat
 | 0 => 0
 | n + 1 => if l[n]? = some 0 then trimN l n else n + 1
def trimL (l : List Nat) : List Nat := l.take (trimN l l.length)

theorem trimN_le (l : List Nat) : ∀ n, trimN l n ≤ n
 | 0 => Nat.le_refl _
 | n + 1 => by unfold trimN; split; exact Nat.le_succ_of_le (trimN_le l n); exact Nat.le_refl _

theorem natV_trimN (l : List Nat) : ∀ n, n ≤ l.length → natV (l.take (trimN l n)) = natV (l.take n)
 | 0, _ => by simp [trimN]
 | n + 1, h => by
   unfold trimN
   split
   · rename_i h0
     rw [natV_trimN l n (by omega), List.take_add_one, h0, natV_append]
     simp [natV]
   · rfl

theorem natV_trimL (l : List Nat) : natV (trimL l) = natV l := by rw [trimL, natV_trimN l _ (Nat.le_refl _), List.take_length]

theorem Li.trimL {l : List Nat} (h : Li l) : Li (trimL l) := h.take _

/-- The top limb, if there is one, is not zero. -/
def Trim (l : List Nat) : Prop := ∀ x, l.getLast? = some x → x ≠ 0

theorem trimN_top (l : List Nat) : ∀ n, n ≤ l.length → ∀ m, trimN l n = m + 1 → l[m]? ≠ some 0
 | 0, _, m, h => by simp [trimN] at h
 | n + 1, hn, m, h => by
   unfold trimN at h
   split at h
   · exact trimN_top l n (by omega) m h
   · rename_i h0
     have : n = m := by omega
     subst this
     exact h0

theorem trim_trimL (l : List Nat) : Trim (trimL l) := by
 intro x hx
 unfold trimL at hx
 have hle := trimN_le l l.length
 rw [List.getLast?_eq_getElem?, List.length_take, Nat.min_eq_left hle] at hx
 cases hq : trimN l l.length with
 | zero => rw [hq] at hx; simp at hx
 | succ m =>
   rw [hq] at hx
   have h1 := trimN_top l l.length (Nat.le_refl _) m hq
   have h2 : (l.take (m + 1))[m + 1 - 1]? = l[m]? := by rw [List.getElem?_take]; simp
   rw [h2] at hx
   intro h0
   subst h0
   exact h1 hx

theorem trimL_of_trim {l : List Nat} (h : Trim l) : trimL l = l := by
 unfold trimL
 cases hl : l.length with
 | zero => rw [List.eq_nil_of_length_eq_zero hl]; rfl
 | succ n =>
   have h1 : l[n]? ≠ some 0 := by
     intro h0
     exact h 0 (by rw [List.getLast?_eq_getElem?, hl]; exact h0) rfl
   unfold trimN
   rw [if_neg h1, ← hl, List.take_length]

/-- Trimmed limbs with more limbs are more. -/
theorem natV_ge {l : List Nat} (h : Trim l) (hn : l ≠ []) : 4294967296 ^ (l.length - 1) ≤ natV l := by
 obtain ⟨x, hx⟩ : ∃ x, l.getLast? = some x := by
   cases hq : l.getLast? with
   | none => exact absurd (List.getLast?_eq_none_iff.1 hq) hn
   | some x => exact ⟨x, rfl⟩
 have hx0 := h x hx
 have : l = l.dropLast ++ [x] := by
   have := List.dropLast_concat_getLast hn
   rw [List.getLast?_eq_some_getLast hn] at hx
   injection hx with hx
   rw [hx] at this
   exact this.symm
 rw [this, natV_append]
 simp only [natV, List.length_append, List.length_dropLast, List.length_singleton, Nat.mul_zero, Nat.add_zero]
 have e : l.length - 1 + 1 - 1 = l.length - 1 := by omega
 rw [e]
 have : 4294967296 ^ (l.length - 1) * 1 ≤ 4294967296 ^ (l.length - 1) * x := Nat.mul_le_mul_left _ (by omega)
 omega

theorem natV_lt_of_len {a b : List Nat} (ha : Li a) (hb : Trim b) (h : a.length < b.length) : natV a < natV b := by
 have h1 := natV_lt ha
 have h2 := natV_ge hb (fun e => by rw [e] at h; simp at h)
 have h3 : 4294967296 ^ a.length ≤ 4294967296 ^ (b.length - 1) := Nat.pow_le_pow_right (by omega) (by omega)
 omega

/-- The first difference from the top decides. -/
theorem natV_lt_of_top {a b : List Nat} (ha : Li a) {k : Nat} (hka : k < a.length) (hkb : k < b.length) (hd : a.drop (k + 1) = b.drop (k + 1)) (h : a[k] < b[k]) : natV a < natV b := by
 have ea : a = a.take k ++ (a[k] :: a.drop (k + 1)) := by rw [← List.drop_eq_getElem_cons hka, List.take_append_drop]
 have eb : b = b.take k ++ (b[k] :: b.drop (k + 1)) := by rw [← List.drop_eq_getElem_cons hkb, List.take_append_drop]
 have h1 := natV_lt (ha.take k)
 rw [ea, eb, natV_append, natV_append]
 simp only [List.length_take, Nat.min_eq_left (Nat.le_of_lt hka), Nat.min_eq_left (Nat.le_of_lt hkb), natV] at h1 ⊢
 rw [hd]
 have h2 : 4294967296 ^ k * (a[k] + 4294967296 * natV (b.drop (k + 1))) + 4294967296 ^ k ≤ 4294967296 ^ k * (b[k] + 4294967296 * natV (b.drop (k + 1))) := by
   rw [← Nat.mul_succ]
   exact Nat.mul_le_mul_left _ (by omega)
 omega

def cmpN (x y : Nat) : Int := if x < y then -1 else if y < x then 1 else 0

end Go.Abs

/- Limbs: what the functions on lists of limbs compute. -/
namespace Go.Abs
attribute [local simp] WK_cond_iff WL_cons_iff stepL gd

def u32 (x : Nat) : V := .int .u32 (x : Int)
def lim (l : List Nat) : V := .sl (l.map u32)
def i64 (n : Int) : V := .int .i64 n
@[simp] theorem cells_u32 {x : Nat} : (u32 x).cells = [u32 x] := rfl
@[simp] theorem cells_lim {l : List Nat} : (lim l).cells = [lim l] := rfl
@[simp] theorem cells_i64 {n : Int} : (i64 n).cells = [i64 n] := rfl
@[simp] theorem isTup_u32 {x : Nat} : (u32 x).isTup = false := rfl
@[simp] theorem isTup_lim {l : List Nat} : (lim l).isTup = false := rfl
@[simp] theorem isTup_i64 {n : Int} : (i64 n).isTup = false := rfl

theorem fn_natural_trim : prog.fn g_natural_trim = some c_natural_trim := by rfl

set_option maxHeartbeats 1000000 in
theorem trim_cq (l : List Nat) (hl : l.length ≤ 9223372036854775807) : CQ prog g_natural_trim [lim l] (lim (trimL l)) := by
 refine CQ_run fn_natural_trim fun H => ?_
 simp [c_natural_trim, lim]
 refine WK_loop (fun k E H' => H' = H ∧ E 0 = lim l ∧ k ≤ l.length ∧ E 3 = .int .i64 k ∧ trimN l k = trimN l l.length) l.length ?_ ?_
 · simp [lim]
 · rintro n E H' ⟨rfl, h0, hn, h3, ht⟩
   refine WC_round ?_
   simp only [lim] at h0
   rcases n with _ | n
   · simp [c_natural_trim_l0, h0, h3, trimL, ← ht, trimN]
   · have e1 : IntKind.i64.wrap (n : Int) = n := by rw [wrap_i64] <;> omega
     have hlt : n < l.length := by omega
     have p1 : (0 : Int) ≤ (n : Int) + 1 := by omega
     by_cases hx : l[n] = 0
     · simp [c_natural_trim_l0, h0, h3, e1, hlt, hx, u32]
       refine ⟨n, by omega, rfl, by omega, rfl, ?_⟩
       rw [← ht, trimN, if_pos (by rw [List.getElem?_eq_getElem hlt, hx])]
     · simp [c_natural_trim_l0, h0, h3, e1, hlt, hx, u32, p1, hn]
       rw [trimL, ← ht, trimN, if_neg (by rw [List.getElem?_eq_getElem hlt]; simpa using hx), List.map_take]

@[simp] theorem frzVs_lim (H : Heap) (l : List Nat) (vs : List V) : frzVs H (lim l :: vs) = (frzVs H vs).bind fun p => some (lim l :: p.1, p.2) := rfl
@[simp] theorem frzVs_int (H : Heap) (k : IntKind) (n : Int) (vs : List V) : frzVs H (.int k n :: vs) = (frzVs H vs).bind fun p => some (.int k n :: p.1, p.2) := rfl
@[simp] theorem frzVs_bool (H : Heap) (b : Bool) (vs : List V) : frzVs H (.bool b :: vs) = (frzVs H vs).bind fun p => some (.bool b :: p.1, p.2) := rfl
@[simp] theorem frzVs_nil (H : Heap) : frzVs H [] = some ([], H) := rfl

theorem fn_natural_Cmp : prog.fn g_natural_Cmp = some c_natural_Cmp := by rfl

theorem prep_trim (H : Heap) (l : List Nat) : prep prog 111 H [lim l] = some ([lim l], H) := rfl

set_option maxHeartbeats 1000000 in
theorem Cmp_cq (a b : List Nat) (ha : a.length ≤ 9223372036854775807) (hb : b.length ≤ 9223372036854775807) (la : Li a) (lb : Li b) : CQ prog g_natural_Cmp [lim a, lim b] (i64 (cmpN (natV a) (natV b))) := by
 refine CQ_run fn_natural_Cmp fun H => ?_
 simp
 refine WL_call rfl rfl (prep_trim H a) (trim_cq a ha) ?_
 simp
 refine WL_call rfl rfl (prep_trim H b) (trim_cq b hb) ?_
 rw [← natV_trimL a, ← natV_trimL b]
 have ta := trim_trimL a
 have tb := trim_trimL b
 have la' := la.trimL
 have lb' := lb.trimL
 have hla : (trimL a).length ≤ 9223372036854775807 := by unfold trimL; simp; omega
 generalize trimL a = x at *
 generalize trimL b = y at *
 by_cases hlt : x.length < y.length
 · have h1 : ¬ ((x.length : Int) = (y.length : Int)) := by omega
   have h2 := natV_lt_of_len la' tb hlt
   simp [lim, hlt, h1, cmpN, h2, i64]
 · by_cases hgt : y.length < x.length
   · have h1 : ¬ ((x.length : Int) = (y.length : Int)) := by omega
     have h2 := natV_lt_of_len lb' ta hgt
     have h3 : ¬ natV x < natV y := by omega
     simp [lim, hlt, h1, cmpN, h2, h3, i64]
   · have heq : x.length = y.length := by omega
     simp [lim, heq]
     refine WK_loop (fun k E H' => H' = H ∧ E 0 = lim x ∧ E 1 = lim y ∧ k ≤ x.length ∧ E 5 = .int .i64 ((k : Int) - 1) ∧ x.drop k = y.drop k) x.length ?_ ?_
     · have e1 : IntKind.i64.wrap ((y.length : Int) - 1) = (y.length : Int) - 1 := by rw [wrap_i64] <;> omega
       have e2 : y.drop x.length = [] := by rw [heq]; exact List.drop_length
       simp [lim, e1, heq]
     · rintro n E H' ⟨rfl, h0, h1, hn, h5, hd⟩
       refine WC_round ?_
       simp only [lim] at h0 h1
       rcases n with _ | n
       · have e1 : x = y := by simpa using hd
         have e2 : ¬ ((0 : Int) ≤ -1) := by omega
         simp [c_natural_Cmp_l0, h5, e1, cmpN, i64]
       · have e1 : (n + 1 : Int) - 1 = n := by omega
         have hx : n < x.length := by omega
         have hy : n < y.length := by omega
         have p1 : ((0 : Int) ≤ n) := by omega
         by_cases hlt : x[n] < y[n]
         · have h2 := natV_lt_of_top la' hx hy hd hlt
           have h3 : ((x[n] : Int) < (y[n] : Int)) := by omega
           simp [c_natural_Cmp_l0, h0, h1, h5, e1, p1, hx, hy, u32, hlt, cmpN, h2, i64]
         · by_cases hgt : y[n] < x[n]
           · have h2 := natV_lt_of_top lb' hy hx hd.symm hgt
             have h3 : ¬ natV x < natV y := by omega
             simp [c_natural_Cmp_l0, h0, h1, h5, e1, p1, hx, hy, u32, hlt, hgt, cmpN, h2, h3, i64]
           · have e2 : IntKind.i64.wrap ((n : Int) - 1) = (n : Int) - 1 := by rw [wrap_i64] <;> omega
             simp [c_natural_Cmp_l0, h0, h1, h5, e1, p1, hx, hy, u32, hlt, hgt, e2]
             refine ⟨n, by omega, rfl, rfl, by omega, rfl, ?_⟩
             rw [List.drop_eq_getElem_cons hx, List.drop_eq_getElem_cons hy, hd]
             congr 1
             omega

end Go.Abs

/- The number of the bits of a limb. -/
namespace Go.Abs
theorem fn_Len32 : prog.fn g_math_bits_Len32 = some c_math_bits_Len32 := by rfl

/-- The number of the bits. -/
def bitL (n : Nat) : Nat := if n = 0 then 0 else Nat.log2 n + 1

theorem tab_len : ∀ i : Fin 256, str_0[i.val]? = some (UInt8.ofNat (bitL i.val)) := by decide +kernel

theorem tab_at {i : Nat} (h : i < 256) : str_0[i]? = some (UInt8.ofNat (bitL i)) := tab_len ⟨i, h⟩

theorem bitL_le {i : Nat} (h : i < 256) : bitL i ≤ 8 := by
 have : ∀ i : Fin 256, bitL i.val ≤ 8 := by decide +kernel
 exact this ⟨i, h⟩

theorem bitL_shift {n k : Nat} (h : 2 ^ k ≤ n) : bitL n = bitL (n / 2 ^ k) + k := by
 have h0 : 0 < 2 ^ k := Nat.two_pow_pos k
 have h1 : n ≠ 0 := by omega
 have h2 : n / 2 ^ k ≠ 0 := by
   have := (Nat.le_div_iff_mul_le h0 (x := 1) (y := n)).2 (by omega)
   omega
 unfold bitL
 rw [if_neg h1, if_neg h2]
 have : Nat.log2 n = Nat.log2 (n / 2 ^ k) + k := by
   rw [Nat.log2_eq_iff h1]
   have h3 := (Nat.log2_eq_iff h2).1 rfl
   rw [Nat.pow_add, show Nat.log2 (n / 2 ^ k) + k + 1 = (Nat.log2 (n / 2 ^ k) + 1) + k by omega, Nat.pow_add]
   exact ⟨(Nat.le_div_iff_mul_le h0).1 h3.1, (Nat.div_lt_iff_lt_mul h0).1 h3.2⟩
 omega

theorem bitL_eq {n b : Nat} (h0 : n ≠ 0) (h1 : 2 ^ b ≤ n) (h2 : n < 2 ^ (b + 1)) : bitL n = b + 1 := by
 unfold bitL
 rw [if_neg h0, (Nat.log2_eq_iff h0).2 ⟨h1, h2⟩]

theorem bitL_pow {n : Nat} (h : n ≠ 0) : 2 ^ (bitL n - 1) ≤ n ∧ n < 2 ^ bitL n ∧ 0 < bitL n := by
 unfold bitL
 rw [if_neg h]
 have := (Nat.log2_eq_iff h).1 rfl
 exact ⟨this.1, this.2, by omega⟩

theorem pow32 (n : Nat) : 4294967296 ^ n = 2 ^ (32 * n) := by rw [Nat.pow_mul]

/-- The bits of trimmed limbs: of the top one, and 32 for each other one. -/
theorem bitL_top {l : List Nat} {t : Nat} (hl : Li l) (ht : t ≠ 0) : bitL (natV (l ++ [t])) = 32 * l.length + bitL t := by
 have h1 := natV_lt hl
 obtain ⟨h2, h3, h4⟩ := bitL_pow ht
 rw [natV_append]
 simp only [natV, Nat.mul_zero, Nat.add_zero]
 rw [pow32] at h1 ⊢
 have e1 : 2 ^ (32 * l.length) * t ≥ 2 ^ (32 * l.length) * 2 ^ (bitL t - 1) := Nat.mul_le_mul_left _ h2
 have e2 : 2 ^ (32 * l.length) * (t + 1) ≤ 2 ^ (32 * l.length) * 2 ^ bitL t := Nat.mul_le_mul_left _ h3
 rw [← Nat.pow_add] at e1 e2
 rw [Nat.mul_add, Nat.mul_one] at e2
 have hp := Nat.two_pow_pos (32 * l.length + (bitL t - 1))
 have := bitL_eq (n := natV l + 2 ^ (32 * l.length) * t) (b := 32 * l.length + (bitL t - 1)) (by omega) (by omega) (by rw [show 32 * l.length + (bitL t - 1) + 1 = 32 * l.length + bitL t by omega]; omega)
 omega

theorem bitL_lt {t : Nat} (h : t < 4294967296) : bitL t ≤ 32 := by
 unfold bitL
 split
 · omega
 · rename_i h0
   have := (Nat.log2_lt h0 (k := 32)).2 (by omega)
   omega

end Go.Abs

namespace Go.Abs
attribute [local simp] WK_cond_iff WL_cons_iff stepL gd shiftI

theorem fdiv_nat (x k : Nat) : Int.fdiv (x : Int) (k : Int) = ((x / k : Nat) : Int) := by
 rw [Int.fdiv_eq_ediv_of_nonneg _ (by omega)]; rfl

theorem fdiv_65536 (x : Nat) : Int.fdiv (x : Int) 65536 = ((x / 65536 : Nat) : Int) := fdiv_nat x 65536
theorem fdiv_256 (x : Nat) : Int.fdiv (x : Int) 256 = ((x / 256 : Nat) : Int) := fdiv_nat x 256

theorem wrap_u8 {n : Int} (h1 : 0 ≤ n) (h2 : n < 256) : IntKind.wrap .u8 n = n := by
 simp only [IntKind.wrap, IntKind.bits, IntKind.signed]; simp; omega

theorem len_fact {y : Nat} (h : y < 256) : ((UInt8.ofNat (bitL y)).toNat : Int) = bitL y := by
 have := bitL_le h
 simp; omega

@[simp] theorem bits_u32 : IntKind.u32.bits = 32 := rfl
@[simp] theorem bits_u64 : IntKind.u64.bits = 64 := rfl
@[simp] theorem bits_i64 : IntKind.i64.bits = 64 := rfl
theorem w8 : IntKind.i64.wrap 8 = 8 := by decide
theorem w24 : IntKind.i64.wrap 24 = 24 := by decide

set_option maxHeartbeats 1000000 in
theorem Len32_cq (x : Nat) (hx : x < 4294967296) : CQ prog g_math_bits_Len32 [u32 x] (i64 (bitL x)) := by
 refine CQ_run fn_Len32 fun H => ?_
 have fin' : ∀ (y k : Nat), y < 256 → k ≤ 24 → bitL x = bitL y + k → IntKind.i64.wrap ((k : Int) + IntKind.i64.wrap (((UInt8.ofNat (bitL y)).toNat : Nat) : Int)) = bitL x := by
   intro y k hy hk he
   have := bitL_le hy
   rw [len_fact hy, wrap_i64 (n := (bitL y : Int)) (by omega) (by omega), wrap_i64 (by omega) (by omega), he]
   omega
 have u8' : ∀ y : Nat, y < 256 → IntKind.u8.wrap (y : Int) = y := fun y hy => wrap_u8 (by omega) (by omega)
 by_cases h1 : x < 65536
 · have e1 : ¬ ((65536 : Int) ≤ x) := by omega
   by_cases h2 : x < 256
   · have e2 : ¬ ((256 : Int) ≤ x) := by omega
     have := fin' x 0 h2 (by omega) rfl
     simp [u32, e1, e2, u8' x h2, tab_at h2, i64]
     simpa using this
   · have e2 : ((256 : Int) ≤ x) := by omega
     obtain ⟨y, hy⟩ : ∃ y, y = x / 256 := ⟨_, rfl⟩
     have f1 : Int.fdiv (x : Int) 256 = (y : Int) := by rw [hy]; exact fdiv_256 x
     have h3 : y < 256 := by omega
     have := fin' y 8 h3 (by omega) (by rw [hy]; exact bitL_shift (k := 8) (by omega))
     simp [u32, e1, e2, f1, w8, u8' _ h3, tab_at h3, i64]
     simpa using this
 · have e1 : ((65536 : Int) ≤ x) := by omega
   obtain ⟨y, hy⟩ : ∃ y, y = x / 65536 := ⟨_, rfl⟩
   have f1 : Int.fdiv (x : Int) 65536 = (y : Int) := by rw [hy]; exact fdiv_65536 x
   have he : bitL x = bitL y + 16 := by rw [hy]; exact bitL_shift (k := 16) (by omega)
   by_cases h2 : y < 256
   · have e2 : ¬ ((256 : Int) ≤ y) := by omega
     have := fin' y 16 h2 (by omega) he
     simp [u32, e1, e2, f1, u8' _ h2, tab_at h2, i64]
     simpa using this
   · have e2 : ((256 : Int) ≤ y) := by omega
     obtain ⟨z, hz⟩ : ∃ z, z = y / 256 := ⟨_, rfl⟩
     have f2 : Int.fdiv (y : Int) 256 = (z : Int) := by rw [hz]; exact fdiv_256 y
     have h3 : z < 256 := by omega
     have he2 : bitL y = bitL z + 8 := by rw [hz]; exact bitL_shift (k := 8) (by omega)
     have := fin' z 24 h3 (by omega) (by rw [he, he2])
     simp [u32, e1, e2, f1, f2, w24, u8' _ h3, tab_at h3, i64]
     simpa using this
end Go.Abs

namespace Go.Abs
attribute [local simp] WK_cond_iff WL_cons_iff stepL gd

theorem fn_natural_Bits : prog.fn g_natural_Bits = some c_natural_Bits := by rfl

@[simp] theorem prep_lim (g : Nat) (hg : (prog.fn g).elim true (fun f => !f.raw) = true) (H : Heap) (l : List Nat) : prep prog g H [lim l] = some ([lim l], H) := by
 unfold prep
 cases hq : prog.fn g with
 | none => rfl
 | some f => rw [hq] at hg; simp at hg; simp [hg]

theorem snoc_cases (l : List Nat) : l = [] ∨ ∃ k t, l = k ++ [t] := by
 cases l with
 | nil => exact .inl rfl
 | cons x xs => exact .inr ⟨(x :: xs).dropLast, (x :: xs).getLast (by simp), (List.dropLast_concat_getLast (by simp)).symm⟩

set_option maxHeartbeats 1000000 in
theorem Bits_cq (a : List Nat) (ha : a.length ≤ 100000000) (la : Li a) : CQ prog g_natural_Bits [lim a] (i64 (bitL (natV a))) := by
 refine CQ_run fn_natural_Bits fun H => ?_
 simp
 refine WL_call rfl rfl (prep_trim H a) (trim_cq a (by omega)) ?_
 rw [← natV_trimL a]
 have ta := trim_trimL a
 have la' := la.trimL
 have hla : (trimL a).length ≤ 100000000 := by unfold trimL; simp; omega
 generalize trimL a = x at *
 rcases snoc_cases x with rfl | ⟨k, t, rfl⟩
 · simp [lim, natV, bitL, i64]
 · have hk : k.length ≤ 100000000 := by simp at hla; omega
   have ht : t ≠ 0 := ta t (by simp)
   have ht2 : t < 4294967296 := la' t (by simp)
   have lk : Li k := fun y hy => la' y (by simp [hy])
   have e1 : ¬ ((k.length : Int) + 1 = 0) := by omega
   have e2 : IntKind.i64.wrap (k.length : Int) = k.length := by rw [wrap_i64] <;> omega
   have e3 : IntKind.i64.wrap (32 * (k.length : Int)) = 32 * k.length := by rw [wrap_i64] <;> omega
   simp [lim, e1, e2, e3]
   refine WL_call rfl rfl (vs := [u32 t]) rfl (Len32_cq t ht2) ?_
   have e4 : IntKind.i64.wrap (32 * (k.length : Int) + bitL t) = bitL (natV (k ++ [t])) := by
     have := bitL_lt ht2
     rw [bitL_top lk ht, wrap_i64] <;> omega
   simp [i64, e4]

end Go.Abs

