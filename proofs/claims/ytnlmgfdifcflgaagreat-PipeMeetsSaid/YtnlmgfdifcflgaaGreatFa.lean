/- Parts of the proof: FpCode0, FpCode1, FpCode2, FpCode3, FpCode4, FpCode5, FpCode6, FpCode7, FpCode8, FpCode9, FpFuns, FpRules, FpStpEq, FpWK, FpWX. -/
import Derived.Test.YtnlmgfdifcflgaaGreatF0
/- MADE BY A PROGRAM (wip/tools/dump.sh, mkcode.py): the abstract code of the functions that this seat reaches. -/
namespace Go.Abs

/- fplaw37_awake -/
@[simp] def c_fplaw37_awake : AFn := ⟨[(.tmp 0)],
 (.seq (.region false [oP 0 (.mv (.c (.bool false)))]) (.seq (.region false [oP 8 (.call (.f 38) []),
 oP 1 (.new 2 (.agg [.nil, .nil])),
 ⟨none, .store 2 (.t 1) (.t 8), none, false⟩]) (.seq (.region true [oP 10 (.load true 2 (.t 1)),
 oP 11 (.call (.f 39) [(.c (.int .i64 1))]),
 oS 12 (.call (.f 19) [(.t 10), (.t 11)]),
 mV 9 12,
 oP 13 (.extract 0 (.t 9)),
 oP 14 (.extract 1 (.t 9)),
 mV 2 13,
 mV 3 14]) (.seq (.region true [oP 16 (.load true 2 (.t 1)),
 oP 17 (.call (.f 39) [(.c (.int .i64 2))]),
 oS 18 (.call (.f 19) [(.t 16), (.t 17)]),
 mV 15 18,
 oP 19 (.extract 0 (.t 15)),
 oP 20 (.extract 1 (.t 15)),
 mV 4 19,
 mV 5 20]) (.seq (.region true [oP 22 (.load true 2 (.t 1)),
 oP 23 (.call (.f 39) [(.c (.int .i64 2))]),
 oP 24 (.call (.f 10) [(.t 22), (.t 23)]),
 mV 21 24,
 oP 25 (.extract 0 (.t 21)),
 oP 26 (.extract 1 (.t 21)),
 oP 6 (.new 2 (.agg [.nil, .nil])),
 ⟨none, .store 2 (.t 6) (.t 25), none, true⟩,
 mV 7 26]) (.seq (.region true [mV 27 3,
 oP 28 (.bin .num .eql (.t 27) (.c (.int .i64 0))),
 mV 29 28,
 gT 30 29 (.mv (.t 5)),
 gT 31 29 (.bin .num .eql (.t 30) (.c (.int .i64 0))),
 oP 32 (.pick (.t 29) (.t 31) (.c (.bool false))),
 mV 33 32,
 gT 34 33 (.mv (.t 7)),
 gT 35 33 (.bin .num .eql (.t 34) (.c (.int .i64 0))),
 oP 36 (.pick (.t 33) (.t 35) (.c (.bool false))),
 mV 37 36,
 gT 38 37 (.mv (.t 2)),
 ⟨some 39, .call (.f 40) [(.c (.int .i64 1)), (.c (.int .i64 1))], some (37, true), true⟩,
 ⟨some 40, .call (.f 20) [(.t 38), (.t 39)], some (37, true), true⟩,
 oP 41 (.pick (.t 37) (.t 40) (.c (.bool false))),
 mV 42 41,
 gT 43 42 (.mv (.t 4)),
 ⟨some 44, .call (.f 40) [(.c (.int .i64 1)), (.c (.int .i64 3))], some (42, true), true⟩,
 ⟨some 45, .call (.f 20) [(.t 43), (.t 44)], some (42, true), true⟩,
 oP 46 (.pick (.t 42) (.t 45) (.c (.bool false))),
 mV 47 46,
 gT 48 47 (.faddr 1 (.t 6)),
 gT 49 47 (.load false 1 (.t 48)),
 gT 50 47 (.len (.t 49)),
 gT 51 47 (.bin .num .eql (.t 50) (.c (.int .i64 2))),
 oP 52 (.pick (.t 47) (.t 51) (.c (.bool false))),
 mV 53 52,
 gT 54 53 (.faddr 1 (.t 6)),
 gT 55 53 (.load false 1 (.t 54)),
 gT 56 53 (.iaddr 8 (.t 55) (.c (.int .i64 1))),
 gT 57 53 (.faddr 7 (.t 56)),
 gT 58 53 (.load false 1 (.t 57)),
 gT 59 53 (.call (.f 40) [(.c (.int .i64 1)), (.c (.int .i64 3))]),
 ⟨some 60, .call (.f 20) [(.t 58), (.t 59)], some (53, true), true⟩,
 oP 61 (.pick (.t 53) (.t 60) (.c (.bool false))),
 mV 62 61,
 gT 63 62 (.load true 2 (.t 1)),
 ⟨some 64, .call (.f 17) [(.t 63)], some (62, true), true⟩,
 oP 65 (.pick (.t 62) (.t 64) (.c (.bool false))),
 mV 0 65]) .ret)))))),
 false, false⟩

/- fplaw37_great -/
@[simp] def c_fplaw37_great : AFn := ⟨[(.tmp 2)],
 (.seq (.region false [oP 2 (.mv (.c (.bool false)))]) (.seq (.region false [mV 3 0,
 oP 4 (.call (.f 41) [(.t 3), (.f 42)]),
 mV 2 4]) .ret)),
 false, false⟩

/- fplaw37_long -/
@[simp] def c_fplaw37_long : AFn := ⟨[(.tmp 2)],
 (.seq (.region false [oP 1 (.box 3 (.t 0)),
 oP 2 (.mv (.c (.bool false)))]) (.seq (.region false [oP 3 (.faddr 1 (.t 1)),
 oP 4 (.load false 1 (.t 3)),
 oP 5 (.len (.t 4)),
 oP 6 (.bin .num .gtr (.t 5) (.c (.int .i64 20))),
 mV 2 6]) .ret)),
 false, false⟩

/- pipe_Cut -/
def c_pipe_Cut_l0 : AC := (.seq (.region false [oP 27 (.bin .num .lss (.t 26) (.t 25))]) (.seq (.cond (.t 27) .skip (.exit 0)) (.seq (.block 1 (.seq (.region false [mV 28 26,
 oP 29 (.iaddr 8 (.t 24) (.t 26)),
 oP 30 (.load true 8 (.t 29)),
 oP 10 (.new 8 (.agg [(.bool false), .nil, (.int .i64 0), (.bool false), .nil, (.int .i64 0), .nil, .nil])),
 mV 9 28,
 ⟨none, .store 8 (.t 10) (.t 30), none, false⟩]) (.seq (.seq (.region false [oP 31 (.load true 3 (.t 3)),
 oP 32 (.faddr 3 (.t 10)),
 oP 33 (.load true 3 (.t 32)),
 oP 34 (.call (.f 46) [(.t 31), (.t 33)]),
 oP 35 (.un .not (.t 34))]) (.cond (.t 35) (.exit 1) .skip)) (.seq (.seq (.region false [oP 36 (.faddr 0 (.t 10)),
 oP 37 (.load true 3 (.t 36)),
 oP 38 (.load true 3 (.t 3)),
 oP 39 (.call (.f 46) [(.t 37), (.t 38)])]) (.cond (.t 39) (.seq (.region true [oP 40 (.faddr 1 (.t 8)),
 oP 41 (.load false 1 (.t 40)),
 mV 42 9,
 oP 43 (.faddr 1 (.t 8)),
 oP 44 (.sload false 1 43),
 mV 45 9,
 oP 46 (.load true 3 (.t 3)),
 oP 47 (.faddr 6 (.t 10)),
 oP 48 (.load false 1 (.t 47)),
 oP 49 (.call (.f 47) [(.t 48)]),
 oP 50 (.iaddr 8 (.t 41) (.t 42)),
 oP 51 (.faddr 3 (.t 50)),
 ⟨none, .storeN 3 (.t 51) (.t 46) [43], none, true⟩,
 oP 52 (.iaddr 8 (.t 44) (.t 45)),
 oP 53 (.faddr 7 (.t 52)),
 ⟨none, .store 1 (.t 53) (.t 49), none, true⟩]) (.region false [mV 54 9,
 oP 55 (.bin .num .add (.t 54) (.c (.int .i64 1))),
 mV 9 55])) .skip)) (.seq (.region false [oP 56 (.faddr 1 (.t 8)),
 oP 57 (.load false 1 (.t 56)),
 mV 58 9,
 oP 59 (.slice 8 (.t 57) none (some (.t 58)) none),
 oP 60 (.faddr 1 (.t 8)),
 ⟨none, .store 1 (.t 60) (.t 59), none, false⟩]) (.exit 0)))))) (.region false [oP 61 (.bin .num .add (.t 26) (.c (.int .i64 1))),
 mV 26 61]))))
@[simp] def c_pipe_Cut : AFn := ⟨[(.cell 4 true 2), (.tmp 5)],
 (.seq (.region false [oP 2 (.box 2 (.t 0)),
 oP 3 (.box 3 (.t 1)),
 oP 4 (.new 2 (.agg [.nil, .nil])),
 oP 5 (.mv (.c (.int .i64 0)))]) (.seq (.seq (.region false [oP 12 (.load true 2 (.t 2)),
 oP 13 (.load true 3 (.t 3)),
 oP 14 (.call (.f 19) [(.t 12), (.t 13)]),
 mV 11 14,
 oP 15 (.extract 0 (.t 11)),
 oP 16 (.extract 1 (.t 11)),
 mV 6 15,
 mV 7 16]) (.seq (.region false [mV 17 7,
 oP 18 (.bin .num .neq (.t 17) (.c (.int .i64 0)))]) (.cond (.t 18) (.seq (.region false [oP 19 (.build [.nil, .nil] []),
 mV 20 7,
 ⟨none, .store 2 (.t 4) (.t 19), none, false⟩,
 mV 5 20]) .ret) .skip))) (.seq (.region false [oP 21 (.load true 2 (.t 2)),
 oP 22 (.call (.f 45) [(.t 21)]),
 oP 8 (.new 2 (.agg [.nil, .nil])),
 ⟨none, .store 2 (.t 8) (.t 22), none, false⟩]) (.seq (.seq (.region false [oP 23 (.faddr 1 (.t 8)),
 oP 24 (.load false 1 (.t 23)),
 oP 25 (.len (.t 24)),
 oP 26 (.mv (.c (.int .i64 0)))]) (.block 0 (.loop c_pipe_Cut_l0))) (.seq (.region false [oP 62 (.load true 2 (.t 8)),
 ⟨none, .store 2 (.t 4) (.t 62), none, false⟩,
 oP 5 (.mv (.c (.int .i64 0)))]) .ret))))),
 false, false⟩

/- fpref37_Valid -/
def c_fpref37_Valid_l0 : AC := (.seq (.seq (.region false [mV 21 3,
 oP 22 (.faddr 1 (.t 1)),
 oP 23 (.load false 1 (.t 22)),
 oP 24 (.len (.t 23)),
 oP 25 (.bin .num .lss (.t 21) (.t 24))]) (.cond (.t 25) .skip (.exit 0))) (.seq (.block 1 (.seq (.region false [oP 28 (.faddr 1 (.t 1)),
 oP 29 (.load false 1 (.t 28)),
 mV 30 3,
 oP 31 (.iaddr 8 (.t 29) (.t 30)),
 oP 32 (.load true 8 (.t 31)),
 oP 4 (.new 8 (.agg [(.bool false), .nil, (.int .i64 0), (.bool false), .nil, (.int .i64 0), .nil, .nil])),
 ⟨none, .store 8 (.t 4) (.t 32), none, false⟩]) (.seq (.seq (.region true [oP 33 (.faddr 0 (.t 4)),
 oP 34 (.load true 3 (.t 33)),
 oS 35 (.call (.f 12) [(.t 34)]),
 oP 36 (.un .not (.t 35)),
 mV 37 36,
 gF 38 37 (.faddr 3 (.t 4)),
 gF 39 37 (.load true 3 (.t 38)),
 ⟨some 40, .call (.f 12) [(.t 39)], some (37, false), true⟩,
 gF 41 37 (.un .not (.t 40)),
 oP 42 (.pick (.t 37) (.c (.bool true)) (.t 41)),
 mV 43 42,
 gF 44 43 (.faddr 0 (.t 4)),
 gF 45 43 (.load true 3 (.t 44)),
 gF 46 43 (.faddr 3 (.t 4)),
 gF 47 43 (.load true 3 (.t 46)),
 ⟨some 48, .call (.f 18) [(.t 45), (.t 47)], some (43, false), true⟩,
 gF 49 43 (.bin .num .geq (.t 48) (.c (.int .i64 0))),
 oP 50 (.pick (.t 43) (.c (.bool true)) (.t 49)),
 mV 51 50,
 gF 52 51 (.mv (.t 3)),
 gF 53 51 (.bin .num .gtr (.t 52) (.c (.int .i64 0))),
 gF 54 51 (.mv (.t 53)),
 gT 55 54 (.faddr 0 (.t 4)),
 gT 56 54 (.load true 3 (.t 55)),
 gT 57 54 (.faddr 1 (.t 1)),
 gT 58 54 (.load false 1 (.t 57)),
 gT 59 54 (.mv (.t 3)),
 gT 60 54 (.bin .num .sub (.t 59) (.c (.int .i64 1))),
 gT 61 54 (.iaddr 8 (.t 58) (.t 60)),
 gT 62 54 (.faddr 3 (.t 61)),
 gT 63 54 (.load true 3 (.t 62)),
 ⟨some 64, .call (.f 23) [(.t 56), (.t 63)], some (54, true), true⟩,
 gT 65 54 (.un .not (.t 64)),
 gF 66 51 (.pick (.t 54) (.t 65) (.c (.bool false))),
 oP 67 (.pick (.t 51) (.c (.bool true)) (.t 66))]) (.cond (.t 67) (.seq (.region false [oP 2 (.mv (.c (.bool false)))]) .ret) .skip)) (.seq (.region true [oP 68 (.faddr 6 (.t 4)),
 oP 69 (.load false 1 (.t 68)),
 oS 70 (.call (.f 31) [(.t 69)]),
 oP 71 (.un .not (.t 70)),
 mV 72 71,
 gF 73 72 (.faddr 7 (.t 4)),
 gF 74 72 (.load false 1 (.t 73)),
 ⟨some 75, .call (.f 31) [(.t 74)], some (72, false), true⟩,
 gF 76 72 (.un .not (.t 75)),
 oP 77 (.pick (.t 72) (.c (.bool true)) (.t 76)),
 mV 78 77,
 gF 79 78 (.faddr 6 (.t 4)),
 gF 80 78 (.load false 1 (.t 79)),
 gF 81 78 (.len (.t 80)),
 gF 82 78 (.faddr 0 (.t 1)),
 gF 83 78 (.load false 1 (.t 82)),
 gF 84 78 (.len (.t 83)),
 gF 85 78 (.bin .num .neq (.t 81) (.t 84)),
 oP 86 (.pick (.t 78) (.c (.bool true)) (.t 85)),
 mV 87 86,
 gF 88 87 (.faddr 7 (.t 4)),
 gF 89 87 (.load false 1 (.t 88)),
 gF 90 87 (.faddr 6 (.t 4)),
 gF 91 87 (.load false 1 (.t 90)),
 ⟨some 92, .call (.f 27) [(.t 89), (.t 91)], some (87, false), true⟩,
 gF 93 87 (.un .not (.t 92)),
 oP 94 (.pick (.t 87) (.c (.bool true)) (.t 93)),
 mV 95 94,
 gF 96 95 (.load true 2 (.t 1)),
 gF 97 95 (.mv (.t 3)),
 gF 98 95 (.call (.f 48) [(.t 96), (.t 97)]),
 gF 99 95 (.faddr 6 (.t 4)),
 gF 100 95 (.load false 1 (.t 99)),
 ⟨some 101, .call (.f 27) [(.t 98), (.t 100)], some (95, false), true⟩,
 gF 102 95 (.un .not (.t 101)),
 oP 103 (.pick (.t 95) (.c (.bool true)) (.t 102))]) (.cond (.t 103) (.seq (.region false [oP 2 (.mv (.c (.bool false)))]) .ret) .skip))))) (.region false [mV 26 3,
 oP 27 (.bin .num .add (.t 26) (.c (.int .i64 1))),
 mV 3 27])))
@[simp] def c_fpref37_Valid : AFn := ⟨[(.tmp 2)],
 (.seq (.region false [oP 1 (.box 2 (.t 0)),
 oP 2 (.mv (.c (.bool false)))]) (.seq (.seq (.region false [oP 5 (.faddr 0 (.t 1)),
 oP 6 (.load false 1 (.t 5)),
 oP 7 (.call (.f 31) [(.t 6)]),
 oP 8 (.un .not (.t 7)),
 mV 9 8,
 gF 10 9 (.faddr 0 (.t 1)),
 gF 11 9 (.load false 1 (.t 10)),
 gF 12 9 (.len (.t 11)),
 gF 13 9 (.bin .num .gtr (.t 12) (.c (.int .i64 4))),
 oP 14 (.pick (.t 9) (.c (.bool true)) (.t 13)),
 mV 15 14,
 gF 16 15 (.faddr 1 (.t 1)),
 gF 17 15 (.load false 1 (.t 16)),
 gF 18 15 (.len (.t 17)),
 gF 19 15 (.bin .num .gtr (.t 18) (.c (.int .i64 1000))),
 oP 20 (.pick (.t 15) (.c (.bool true)) (.t 19))]) (.cond (.t 20) (.seq (.region false [oP 2 (.mv (.c (.bool false)))]) .ret) .skip)) (.seq (.seq (.region false [oP 3 (.mv (.c (.int .i64 0)))]) (.block 0 (.loop c_fpref37_Valid_l0))) (.seq (.region false [oP 2 (.mv (.c (.bool true)))]) .ret)))),
 false, false⟩

/- fpref02_Valid -/
@[simp] def c_fpref02_Valid : AFn := ⟨[(.tmp 2)],
 (.seq (.region false [oP 1 (.box 3 (.t 0)),
 oP 2 (.mv (.c (.bool false)))]) (.seq (.seq (.region false [oP 4 (.faddr 1 (.t 1)),
 oP 5 (.load false 1 (.t 4)),
 oP 6 (.len (.t 5)),
 oP 7 (.bin .num .eql (.t 6) (.c (.int .i64 0)))]) (.cond (.t 7) (.seq (.region false [oP 8 (.faddr 0 (.t 1)),
 oP 9 (.load false 1 (.t 8)),
 oP 10 (.un .not (.t 9)),
 mV 11 10,
 gT 12 11 (.faddr 2 (.t 1)),
 gT 13 11 (.load false 1 (.t 12)),
 gT 14 11 (.bin .num .eql (.t 13) (.c (.int .i64 0))),
 oP 15 (.pick (.t 11) (.t 14) (.c (.bool false))),
 mV 2 15]) .ret) .skip)) (.seq (.seq (.region false [oP 16 (.faddr 1 (.t 1)),
 oP 17 (.load false 1 (.t 16)),
 oP 18 (.len (.t 17)),
 oP 19 (.bin .num .gtr (.t 18) (.c (.int .i64 256))),
 mV 20 19,
 gF 21 20 (.faddr 1 (.t 1)),
 gF 22 20 (.load false 1 (.t 21)),
 gF 23 20 (.faddr 1 (.t 1)),
 gF 24 20 (.load false 1 (.t 23)),
 gF 25 20 (.len (.t 24)),
 gF 26 20 (.bin .num .sub (.t 25) (.c (.int .i64 1))),
 gF 27 20 (.iaddr 1 (.t 22) (.t 26)),
 gF 28 20 (.load false 1 (.t 27)),
 gF 29 20 (.bin .num .eql (.t 28) (.c (.int .u32 0))),
 oP 30 (.pick (.t 20) (.c (.bool true)) (.t 29)),
 mV 31 30,
 gF 32 31 (.faddr 1 (.t 1)),
 gF 33 31 (.load false 1 (.t 32)),
 gF 34 31 (.iaddr 1 (.t 33) (.c (.int .i64 0))),
 gF 35 31 (.load false 1 (.t 34)),
 gF 36 31 (.bin .num .and (.t 35) (.c (.int .u32 1))),
 gF 37 31 (.bin .num .eql (.t 36) (.c (.int .u32 0))),
 oP 38 (.pick (.t 31) (.c (.bool true)) (.t 37)),
 mV 39 38,
 gF 40 39 (.faddr 2 (.t 1)),
 gF 41 39 (.load false 1 (.t 40)),
 gF 42 39 (.bin .num .lss (.t 41) (.c (.int .i64 (-16384)))),
 oP 43 (.pick (.t 39) (.c (.bool true)) (.t 42)),
 mV 44 43,
 gF 45 44 (.faddr 2 (.t 1)),
 gF 46 44 (.load false 1 (.t 45)),
 gF 47 44 (.bin .num .gtr (.t 46) (.c (.int .i64 16384))),
 oP 48 (.pick (.t 44) (.c (.bool true)) (.t 47))]) (.cond (.t 48) (.seq (.region false [oP 2 (.mv (.c (.bool false)))]) .ret) .skip)) (.seq (.region false [oP 49 (.faddr 1 (.t 1)),
 oP 50 (.load false 1 (.t 49)),
 oP 51 (.call (.f 49) [(.t 50)]),
 mV 3 51]) (.seq (.region false [mV 52 3,
 oP 53 (.bin .num .leq (.t 52) (.c (.int .i64 4096))),
 mV 54 53,
 gT 55 54 (.mv (.t 3)),
 gT 56 54 (.faddr 2 (.t 1)),
 gT 57 54 (.load false 1 (.t 56)),
 gT 58 54 (.bin .num .add (.t 55) (.t 57)),
 gT 59 54 (.bin .num .leq (.t 58) (.c (.int .i64 16384))),
 oP 60 (.pick (.t 54) (.t 59) (.c (.bool false))),
 mV 2 60]) .ret))))),
 false, false⟩

/- fplaw37_zero -/
@[simp] def c_fplaw37_zero : AFn := ⟨[(.tmp 2)],
 (.seq (.region false [oP 1 (.box 2 (.t 0)),
 oP 2 (.mv (.c (.bool false)))]) (.seq (.region false [oP 3 (.faddr 0 (.t 1)),
 oP 4 (.load false 1 (.t 3)),
 oP 5 (.len (.t 4)),
 oP 6 (.bin .num .eql (.t 5) (.c (.int .i64 0))),
 mV 7 6,
 gT 8 7 (.faddr 1 (.t 1)),
 gT 9 7 (.load false 1 (.t 8)),
 gT 10 7 (.len (.t 9)),
 gT 11 7 (.bin .num .eql (.t 10) (.c (.int .i64 0))),
 oP 12 (.pick (.t 7) (.t 11) (.c (.bool false))),
 mV 2 12]) .ret)),
 false, false⟩

/- fpref37_Same -/
def c_fpref37_Same_l0 : AC := (.seq (.seq (.region false [mV 23 5,
 oP 24 (.faddr 1 (.t 2)),
 oP 25 (.load false 1 (.t 24)),
 oP 26 (.len (.t 25)),
 oP 27 (.bin .num .lss (.t 23) (.t 26))]) (.cond (.t 27) .skip (.exit 0))) (.seq (.block 1 (.seq (.region true [oP 30 (.faddr 1 (.t 2)),
 oP 31 (.load false 1 (.t 30)),
 mV 32 5,
 oP 33 (.iaddr 8 (.t 31) (.t 32)),
 oP 34 (.load true 8 (.t 33)),
 oP 35 (.faddr 1 (.t 3)),
 oP 36 (.sload false 1 35),
 mV 37 5,
 oP 38 (.iaddr 8 (.t 36) (.t 37)),
 oP 39 (.sload true 8 38),
 oP 6 (.new 8 (.agg [(.bool false), .nil, (.int .i64 0), (.bool false), .nil, (.int .i64 0), .nil, .nil])),
 oP 7 (.new 8 (.agg [(.bool false), .nil, (.int .i64 0), (.bool false), .nil, (.int .i64 0), .nil, .nil])),
 ⟨none, .storeN 8 (.t 6) (.t 34) [35, 38], none, true⟩,
 ⟨none, .store 8 (.t 7) (.t 39), none, true⟩]) (.seq (.region false [oP 40 (.faddr 0 (.t 6)),
 oP 41 (.load true 3 (.t 40)),
 oP 42 (.faddr 0 (.t 7)),
 oP 43 (.load true 3 (.t 42)),
 oP 44 (.call (.f 23) [(.t 41), (.t 43)]),
 oP 45 (.un .not (.t 44)),
 mV 46 45,
 gF 47 46 (.faddr 3 (.t 6)),
 gF 48 46 (.load true 3 (.t 47)),
 gF 49 46 (.faddr 3 (.t 7)),
 gF 50 46 (.load true 3 (.t 49)),
 gF 51 46 (.call (.f 23) [(.t 48), (.t 50)]),
 gF 52 46 (.un .not (.t 51)),
 oP 53 (.pick (.t 46) (.c (.bool true)) (.t 52)),
 mV 54 53,
 gF 55 54 (.faddr 6 (.t 6)),
 gF 56 54 (.load false 1 (.t 55)),
 gF 57 54 (.faddr 6 (.t 7)),
 gF 58 54 (.load false 1 (.t 57)),
 gF 59 54 (.call (.f 20) [(.t 56), (.t 58)]),
 gF 60 54 (.un .not (.t 59)),
 oP 61 (.pick (.t 54) (.c (.bool true)) (.t 60)),
 mV 62 61,
 gF 63 62 (.faddr 7 (.t 6)),
 gF 64 62 (.load false 1 (.t 63)),
 gF 65 62 (.faddr 7 (.t 7)),
 gF 66 62 (.load false 1 (.t 65)),
 gF 67 62 (.call (.f 20) [(.t 64), (.t 66)]),
 gF 68 62 (.un .not (.t 67)),
 oP 69 (.pick (.t 62) (.c (.bool true)) (.t 68))]) (.cond (.t 69) (.seq (.region false [oP 4 (.mv (.c (.bool false)))]) .ret) .skip)))) (.region false [mV 28 5,
 oP 29 (.bin .num .add (.t 28) (.c (.int .i64 1))),
 mV 5 29])))
@[simp] def c_fpref37_Same : AFn := ⟨[(.tmp 4)],
 (.seq (.region false [oP 2 (.box 2 (.t 0)),
 oP 3 (.box 2 (.t 1)),
 oP 4 (.mv (.c (.bool false)))]) (.seq (.seq (.region false [oP 8 (.faddr 0 (.t 2)),
 oP 9 (.load false 1 (.t 8)),
 oP 10 (.faddr 0 (.t 3)),
 oP 11 (.load false 1 (.t 10)),
 oP 12 (.call (.f 20) [(.t 9), (.t 11)]),
 oP 13 (.un .not (.t 12)),
 mV 14 13,
 gF 15 14 (.faddr 1 (.t 2)),
 gF 16 14 (.load false 1 (.t 15)),
 gF 17 14 (.len (.t 16)),
 gF 18 14 (.faddr 1 (.t 3)),
 gF 19 14 (.load false 1 (.t 18)),
 gF 20 14 (.len (.t 19)),
 gF 21 14 (.bin .num .neq (.t 17) (.t 20)),
 oP 22 (.pick (.t 14) (.c (.bool true)) (.t 21))]) (.cond (.t 22) (.seq (.region false [oP 4 (.mv (.c (.bool false)))]) .ret) .skip)) (.seq (.seq (.region false [oP 5 (.mv (.c (.int .i64 0)))]) (.block 0 (.loop c_fpref37_Same_l0))) (.seq (.region false [oP 4 (.mv (.c (.bool true)))]) .ret)))),
 false, false⟩

/- pipe_Valid -/
def c_pipe_Valid_l0 : AC := (.seq (.region false [oP 30 (.bin .num .lss (.t 29) (.t 28))]) (.seq (.cond (.t 30) .skip (.exit 0)) (.seq (.block 1 (.seq (.region false [mV 31 29,
 oP 32 (.iaddr 8 (.t 27) (.t 29)),
 oP 33 (.load true 8 (.t 32)),
 oP 6 (.new 8 (.agg [(.bool false), .nil, (.int .i64 0), (.bool false), .nil, (.int .i64 0), .nil, .nil])),
 mV 5 31,
 ⟨none, .store 8 (.t 6) (.t 33), none, false⟩]) (.seq (.seq (.region true [oP 34 (.faddr 0 (.t 6)),
 oP 35 (.load true 3 (.t 34)),
 oS 36 (.call (.f 51) [(.t 35)]),
 oP 37 (.un .not (.t 36)),
 mV 38 37,
 gF 39 38 (.faddr 3 (.t 6)),
 gF 40 38 (.load true 3 (.t 39)),
 ⟨some 41, .call (.f 51) [(.t 40)], some (38, false), true⟩,
 gF 42 38 (.un .not (.t 41)),
 oP 43 (.pick (.t 38) (.c (.bool true)) (.t 42)),
 mV 44 43,
 gF 45 44 (.faddr 0 (.t 6)),
 gF 46 44 (.load true 3 (.t 45)),
 gF 47 44 (.faddr 3 (.t 6)),
 gF 48 44 (.load true 3 (.t 47)),
 ⟨some 49, .call (.f 46) [(.t 46), (.t 48)], some (44, false), true⟩,
 gF 50 44 (.un .not (.t 49)),
 oP 51 (.pick (.t 44) (.c (.bool true)) (.t 50)),
 mV 52 51,
 gF 53 52 (.faddr 6 (.t 6)),
 gF 54 52 (.load false 1 (.t 53)),
 gF 55 52 (.len (.t 54)),
 gF 56 52 (.mv (.t 3)),
 gF 57 52 (.bin .num .neq (.t 55) (.t 56)),
 oP 58 (.pick (.t 52) (.c (.bool true)) (.t 57)),
 mV 59 58,
 gF 60 59 (.mv (.t 5)),
 gF 61 59 (.bin .num .gtr (.t 60) (.c (.int .i64 0))),
 gF 62 59 (.mv (.t 61)),
 gT 63 62 (.faddr 0 (.t 6)),
 gT 64 62 (.load true 3 (.t 63)),
 gT 65 62 (.faddr 1 (.t 1)),
 gT 66 62 (.load false 1 (.t 65)),
 gT 67 62 (.mv (.t 5)),
 gT 68 62 (.bin .num .sub (.t 67) (.c (.int .i64 1))),
 gT 69 62 (.iaddr 8 (.t 66) (.t 68)),
 gT 70 62 (.faddr 3 (.t 69)),
 gT 71 62 (.load true 3 (.t 70)),
 ⟨some 72, .call (.f 52) [(.t 64), (.t 71)], some (62, true), true⟩,
 gT 73 62 (.bin .num .neq (.t 72) (.c (.int .i64 0))),
 gF 74 59 (.pick (.t 62) (.t 73) (.c (.bool false))),
 oP 75 (.pick (.t 59) (.c (.bool true)) (.t 74)),
 mV 76 75,
 gF 77 76 (.faddr 7 (.t 6)),
 gF 78 76 (.load false 1 (.t 77)),
 gF 79 76 (.faddr 6 (.t 6)),
 gF 80 76 (.load false 1 (.t 79)),
 ⟨some 81, .call (.f 53) [(.t 78), (.t 80)], some (76, false), true⟩,
 gF 82 76 (.un .not (.t 81)),
 oP 83 (.pick (.t 76) (.c (.bool true)) (.t 82)),
 mV 84 83,
 gF 85 84 (.mv (.t 4)),
 gF 86 84 (.faddr 6 (.t 6)),
 gF 87 84 (.load false 1 (.t 86)),
 ⟨some 88, .call (.f 53) [(.t 85), (.t 87)], some (84, false), true⟩,
 gF 89 84 (.un .not (.t 88)),
 oP 90 (.pick (.t 84) (.c (.bool true)) (.t 89))]) (.cond (.t 90) (.seq (.region false [oP 2 (.mv (.c (.bool false)))]) .ret) .skip)) (.region false [oP 91 (.faddr 7 (.t 6)),
 oP 92 (.load false 1 (.t 91)),
 mV 4 92])))) (.region false [oP 93 (.bin .num .add (.t 29) (.c (.int .i64 1))),
 mV 29 93]))))
@[simp] def c_pipe_Valid : AFn := ⟨[(.tmp 2)],
 (.seq (.region false [oP 1 (.box 2 (.t 0)),
 oP 2 (.mv (.c (.bool false)))]) (.seq (.region false [oP 7 (.faddr 0 (.t 1)),
 oP 8 (.load false 1 (.t 7)),
 oP 9 (.len (.t 8)),
 mV 3 9]) (.seq (.seq (.region false [oP 10 (.faddr 0 (.t 1)),
 oP 11 (.load false 1 (.t 10)),
 oP 12 (.call (.f 50) [(.t 11)]),
 oP 13 (.un .not (.t 12)),
 mV 14 13,
 gF 15 14 (.mv (.t 3)),
 gF 16 14 (.bin .num .gtr (.t 15) (.c (.int .i64 4))),
 oP 17 (.pick (.t 14) (.c (.bool true)) (.t 16)),
 mV 18 17,
 gF 19 18 (.faddr 1 (.t 1)),
 gF 20 18 (.load false 1 (.t 19)),
 gF 21 18 (.len (.t 20)),
 gF 22 18 (.bin .num .gtr (.t 21) (.c (.int .i64 1000))),
 oP 23 (.pick (.t 18) (.c (.bool true)) (.t 22))]) (.cond (.t 23) (.seq (.region false [oP 2 (.mv (.c (.bool false)))]) .ret) .skip)) (.seq (.region false [oP 24 (.faddr 0 (.t 1)),
 oP 25 (.load false 1 (.t 24)),
 mV 4 25]) (.seq (.seq (.region false [oP 26 (.faddr 1 (.t 1)),
 oP 27 (.load false 1 (.t 26)),
 oP 28 (.len (.t 27)),
 oP 29 (.mv (.c (.int .i64 0)))]) (.block 0 (.loop c_pipe_Valid_l0))) (.seq (.region false [oP 2 (.mv (.c (.bool true)))]) .ret)))))),
 false, false⟩

/- fpref02_Cmp -/
@[simp] def c_fpref02_Cmp : AFn := ⟨[(.tmp 4)],
 (.seq (.region false [oP 2 (.box 3 (.t 0)),
 oP 3 (.box 3 (.t 1)),
 oP 4 (.mv (.c (.int .i64 0)))]) (.seq (.region true [oP 7 (.load true 3 (.t 2)),
 oP 8 (.call (.f 54) [(.t 7)]),
 oP 9 (.load true 3 (.t 3)),
 oS 10 (.call (.f 54) [(.t 9)]),
 mV 5 8,
 mV 6 10]) (.seq (.seq (.region false [mV 11 5,
 mV 12 6,
 oP 13 (.bin .num .neq (.t 11) (.t 12))]) (.cond (.t 13) (.seq (.seq (.region false [mV 14 5,
 mV 15 6,
 oP 16 (.bin .num .lss (.t 14) (.t 15))]) (.cond (.t 16) (.seq (.region false [oP 4 (.mv (.c (.int .i64 (-1))))]) .ret) .skip)) (.seq (.region false [oP 4 (.mv (.c (.int .i64 1)))]) .ret)) .skip)) (.seq (.seq (.region false [mV 17 5,
 oP 18 (.bin .num .eql (.t 17) (.c (.int .i64 0)))]) (.cond (.t 18) (.seq (.region false [oP 4 (.mv (.c (.int .i64 0)))]) .ret) .skip)) (.seq (.seq (.region true [oP 19 (.load true 3 (.t 2)),
 oP 20 (.call (.f 55) [(.t 19)]),
 oP 21 (.load true 3 (.t 3)),
 oS 22 (.call (.f 55) [(.t 21)]),
 oP 23 (.bin .num .neq (.t 20) (.t 22))]) (.cond (.t 23) (.seq (.seq (.region true [oP 24 (.load true 3 (.t 2)),
 oP 25 (.call (.f 55) [(.t 24)]),
 oP 26 (.load true 3 (.t 3)),
 oS 27 (.call (.f 55) [(.t 26)]),
 oP 28 (.bin .num .lss (.t 25) (.t 27)),
 mV 29 5,
 oP 30 (.bin .num .gtr (.t 29) (.c (.int .i64 0))),
 oP 31 (.bin .bool .eql (.t 28) (.t 30))]) (.cond (.t 31) (.seq (.region false [oP 4 (.mv (.c (.int .i64 (-1))))]) .ret) .skip)) (.seq (.region false [oP 4 (.mv (.c (.int .i64 1)))]) .ret)) .skip)) (.seq (.region true [oP 32 (.load true 3 (.t 2)),
 oP 33 (.load true 3 (.t 3)),
 oP 34 (.call (.f 57) [(.t 33)]),
 oS 35 (.call (.f 56) [(.t 32), (.t 34)]),
 oS 36 (.call (.f 54) [(.t 35)]),
 mV 4 36]) .ret)))))),
 false, false⟩

/- pipe_At -/
@[simp] def c_pipe_At : AFn := ⟨[(.tmp 4), (.tmp 5)],
 (.seq (.region false [oP 2 (.box 2 (.t 0)),
 oP 3 (.box 3 (.t 1)),
 oP 4 (.mv (.c .nil)),
 oP 5 (.mv (.c (.int .i64 0)))]) (.seq (.block 0 (.seq (.region false [oP 7 (.load true 2 (.t 2)),
 oP 8 (.call (.f 17) [(.t 7)]),
 oP 9 (.un .not (.t 8)),
 mV 10 9,
 gF 11 10 (.load true 3 (.t 3)),
 gF 12 10 (.call (.f 51) [(.t 11)]),
 gF 13 10 (.un .not (.t 12)),
 oP 14 (.pick (.t 10) (.c (.bool true)) (.t 13)),
 mV 6 14]) (.cond (.t 6) (.seq (.region false [oP 4 (.mv (.c .nil)),
 oP 5 (.mv (.c (.int .i64 1)))]) .ret) (.seq (.region false [oP 16 (.load true 2 (.t 2)),
 oP 17 (.load true 3 (.t 3)),
 oP 18 (.call (.f 58) [(.t 16), (.t 17)]),
 oP 19 (.un .not (.t 18)),
 mV 15 19]) (.cond (.t 15) (.seq (.region false [oP 4 (.mv (.c .nil)),
 oP 5 (.mv (.c (.int .i64 2)))]) .ret) .skip))))) (.seq (.region false [oP 20 (.load true 2 (.t 2)),
 oP 21 (.load true 3 (.t 3)),
 oP 22 (.call (.f 59) [(.t 20), (.t 21)]),
 mV 4 22,
 oP 5 (.mv (.c (.int .i64 0)))]) .ret))),
 false, false⟩

/- fpref37_Equal -/
def c_fpref37_Equal_l0 : AC := (.seq (.seq (.region false [mV 11 5,
 mV 12 0,
 oP 13 (.len (.t 12)),
 oP 14 (.bin .num .lss (.t 11) (.t 13))]) (.cond (.t 14) .skip (.exit 0))) (.seq (.block 1 (.seq (.region true [mV 17 0,
 mV 18 5,
 oP 19 (.iaddr 7 (.t 17) (.t 18)),
 oP 20 (.load true 7 (.t 19)),
 mV 21 1,
 mV 22 5,
 oP 23 (.iaddr 7 (.t 21) (.t 22)),
 oP 24 (.load true 7 (.t 23)),
 oS 25 (.call (.f 60) [(.t 20), (.t 24)]),
 oP 26 (.un .not (.t 25))]) (.cond (.t 26) (.seq (.region false [oP 4 (.mv (.c (.bool false)))]) .ret) .skip))) (.region false [mV 15 5,
 oP 16 (.bin .num .add (.t 15) (.c (.int .i64 1))),
 mV 5 16])))
@[simp] def c_fpref37_Equal : AFn := ⟨[(.tmp 4)],
 (.seq (.region false [oP 4 (.mv (.c (.bool false)))]) (.seq (.seq (.region false [mV 6 0,
 oP 7 (.len (.t 6)),
 mV 8 1,
 oP 9 (.len (.t 8)),
 oP 10 (.bin .num .neq (.t 7) (.t 9))]) (.cond (.t 10) (.seq (.region false [oP 4 (.mv (.c (.bool false)))]) .ret) .skip)) (.seq (.seq (.region false [oP 5 (.mv (.c (.int .i64 0)))]) (.block 0 (.loop c_fpref37_Equal_l0))) (.seq (.region false [oP 4 (.mv (.c (.bool true)))]) .ret)))),
 false, false⟩

/- fpref02_Equal -/
@[simp] def c_fpref02_Equal : AFn := ⟨[(.tmp 4)],
 (.seq (.region false [oP 2 (.box 3 (.t 0)),
 oP 3 (.box 3 (.t 1)),
 oP 4 (.mv (.c (.bool false)))]) (.seq (.region false [oP 5 (.faddr 0 (.t 2)),
 oP 6 (.load false 1 (.t 5)),
 oP 7 (.faddr 0 (.t 3)),
 oP 8 (.load false 1 (.t 7)),
 oP 9 (.bin .bool .eql (.t 6) (.t 8)),
 mV 10 9,
 gT 11 10 (.faddr 2 (.t 2)),
 gT 12 10 (.load false 1 (.t 11)),
 gT 13 10 (.faddr 2 (.t 3)),
 gT 14 10 (.load false 1 (.t 13)),
 gT 15 10 (.bin .num .eql (.t 12) (.t 14)),
 oP 16 (.pick (.t 10) (.t 15) (.c (.bool false))),
 mV 17 16,
 gT 18 17 (.faddr 1 (.t 2)),
 gT 19 17 (.load false 1 (.t 18)),
 gT 20 17 (.len (.t 19)),
 gT 21 17 (.faddr 1 (.t 3)),
 gT 22 17 (.load false 1 (.t 21)),
 gT 23 17 (.len (.t 22)),
 gT 24 17 (.bin .num .eql (.t 20) (.t 23)),
 oP 25 (.pick (.t 17) (.t 24) (.c (.bool false))),
 mV 26 25,
 gT 27 26 (.faddr 1 (.t 2)),
 gT 28 26 (.load false 1 (.t 27)),
 gT 29 26 (.faddr 1 (.t 3)),
 gT 30 26 (.load false 1 (.t 29)),
 gT 31 26 (.call (.f 63) [(.t 28), (.t 30)]),
 gT 32 26 (.bin .num .eql (.t 31) (.c (.int .i64 0))),
 oP 33 (.pick (.t 26) (.t 32) (.c (.bool false))),
 mV 4 33]) .ret)),
 false, false⟩

/- fpref37_Last -/
@[simp] def c_fpref37_Last : AFn := ⟨[(.cell 2 true 3)],
 (.seq (.region false [oP 1 (.box 2 (.t 0)),
 oP 2 (.new 3 (.agg [(.bool false), .nil, (.int .i64 0)]))]) (.seq (.region false [oP 3 (.faddr 1 (.t 1)),
 oP 4 (.load false 1 (.t 3)),
 oP 5 (.faddr 1 (.t 1)),
 oP 6 (.load false 1 (.t 5)),
 oP 7 (.len (.t 6)),
 oP 8 (.bin .num .sub (.t 7) (.c (.int .i64 1))),
 oP 9 (.iaddr 8 (.t 4) (.t 8)),
 oP 10 (.faddr 3 (.t 9)),
 oP 11 (.load true 3 (.t 10)),
 ⟨none, .store 3 (.t 2) (.t 11), none, false⟩]) .ret)),
 false, false⟩

/- fpref37_First -/
@[simp] def c_fpref37_First : AFn := ⟨[(.cell 2 true 3)],
 (.seq (.region false [oP 1 (.box 2 (.t 0)),
 oP 2 (.new 3 (.agg [(.bool false), .nil, (.int .i64 0)]))]) (.seq (.region false [oP 3 (.faddr 1 (.t 1)),
 oP 4 (.load false 1 (.t 3)),
 oP 5 (.iaddr 8 (.t 4) (.c (.int .i64 0))),
 oP 6 (.faddr 0 (.t 5)),
 oP 7 (.load true 3 (.t 6)),
 ⟨none, .store 3 (.t 2) (.t 7), none, false⟩]) .ret)),
 false, false⟩

/- fpref37_Inside -/
def c_fpref37_Inside_l0 : AC := (.seq (.seq (.region false [mV 11 5,
 mV 12 0,
 oP 13 (.len (.t 12)),
 oP 14 (.bin .num .lss (.t 11) (.t 13))]) (.cond (.t 14) .skip (.exit 0))) (.seq (.block 1 (.seq (.region true [mV 17 0,
 mV 18 5,
 oP 19 (.iaddr 7 (.t 17) (.t 18)),
 oP 20 (.load true 7 (.t 19)),
 mV 21 1,
 mV 22 5,
 oP 23 (.iaddr 7 (.t 21) (.t 22)),
 oP 24 (.load true 7 (.t 23)),
 oS 25 (.call (.f 65) [(.t 20), (.t 24)]),
 oP 26 (.un .not (.t 25))]) (.cond (.t 26) (.seq (.region false [oP 4 (.mv (.c (.bool false)))]) .ret) .skip))) (.region false [mV 15 5,
 oP 16 (.bin .num .add (.t 15) (.c (.int .i64 1))),
 mV 5 16])))
@[simp] def c_fpref37_Inside : AFn := ⟨[(.tmp 4)],
 (.seq (.region false [oP 4 (.mv (.c (.bool false)))]) (.seq (.seq (.region false [mV 6 0,
 oP 7 (.len (.t 6)),
 mV 8 1,
 oP 9 (.len (.t 8)),
 oP 10 (.bin .num .neq (.t 7) (.t 9))]) (.cond (.t 10) (.seq (.region false [oP 4 (.mv (.c (.bool false)))]) .ret) .skip)) (.seq (.seq (.region false [oP 5 (.mv (.c (.int .i64 0)))]) (.block 0 (.loop c_fpref37_Inside_l0))) (.seq (.region false [oP 4 (.mv (.c (.bool true)))]) .ret)))),
 false, false⟩

/- fplaw37_wide -/
@[simp] def c_fplaw37_wide : AFn := ⟨[(.tmp 2)],
 (.seq (.region false [oP 2 (.mv (.c (.bool false)))]) (.seq (.region false [mV 3 0,
 oP 4 (.len (.t 3)),
 oP 5 (.bin .num .gtr (.t 4) (.c (.int .i64 10))),
 mV 6 5,
 gF 7 6 (.mv (.t 0)),
 gF 8 6 (.call (.f 67) [(.t 7), (.f 68)]),
 oP 9 (.pick (.t 6) (.c (.bool true)) (.t 8)),
 mV 2 9]) .ret)),
 false, false⟩

/- fpref37_Box -/
def c_fpref37_Box_l0 : AC := (.seq (.seq (.region false [mV 4 3,
 mV 5 0,
 oP 6 (.len (.t 5)),
 oP 7 (.bin .num .lss (.t 4) (.t 6))]) (.cond (.t 7) .skip (.exit 0))) (.seq (.block 1 (.seq (.region false [mV 10 0,
 mV 11 3,
 oP 12 (.iaddr 7 (.t 10) (.t 11)),
 oP 13 (.load true 7 (.t 12)),
 oP 14 (.call (.f 70) [(.t 13)]),
 oP 15 (.un .not (.t 14)),
 mV 16 15,
 gF 17 16 (.mv (.t 0)),
 gF 18 16 (.mv (.t 3)),
 gF 19 16 (.iaddr 7 (.t 17) (.t 18)),
 gF 20 16 (.faddr 6 (.t 19)),
 gF 21 16 (.load false 1 (.t 20)),
 oP 22 (.pick (.t 16) (.c (.bool true)) (.t 21))]) (.cond (.t 22) (.seq (.region false [oP 2 (.mv (.c (.bool false)))]) .ret) .skip))) (.region false [mV 8 3,
 oP 9 (.bin .num .add (.t 8) (.c (.int .i64 1))),
 mV 3 9])))
@[simp] def c_fpref37_Box : AFn := ⟨[(.tmp 2)],
 (.seq (.region false [oP 2 (.mv (.c (.bool false)))]) (.seq (.seq (.region false [oP 3 (.mv (.c (.int .i64 0)))]) (.block 0 (.loop c_fpref37_Box_l0))) (.seq (.region false [mV 23 0,
 oP 24 (.len (.t 23)),
 oP 25 (.bin .num .geq (.t 24) (.c (.int .i64 1))),
 mV 26 25,
 gT 27 26 (.mv (.t 0)),
 gT 28 26 (.len (.t 27)),
 gT 29 26 (.bin .num .leq (.t 28) (.c (.int .i64 8))),
 oP 30 (.pick (.t 26) (.t 29) (.c (.bool false))),
 mV 2 30]) .ret))),
 false, false⟩

/- slices_IndexFunc_Segment -/
def c_slices_IndexFunc_Segment_l0 : AC := (.seq (.region false [oP 9 (.bin .num .lss (.t 8) (.t 7))]) (.seq (.cond (.t 9) .skip (.exit 0)) (.seq (.block 1 (.seq (.region false [mV 10 8,
 mV 5 10]) (.seq (.region false [mV 11 1,
 mV 12 0,
 mV 13 5,
 oP 14 (.iaddr 8 (.t 12) (.t 13)),
 oP 15 (.load true 8 (.t 14)),
 oP 16 (.call (.t 11) [(.t 15)])]) (.cond (.t 16) (.seq (.region false [mV 17 5,
 mV 4 17]) .ret) .skip)))) (.region false [oP 18 (.bin .num .add (.t 8) (.c (.int .i64 1))),
 mV 8 18]))))
@[simp] def c_slices_IndexFunc_Segment : AFn := ⟨[(.tmp 4)],
 (.seq (.region false [oP 4 (.mv (.c (.int .i64 0)))]) (.seq (.seq (.region false [mV 6 0,
 oP 7 (.len (.t 6)),
 oP 8 (.mv (.c (.int .i64 0)))]) (.block 0 (.loop c_slices_IndexFunc_Segment_l0))) (.seq (.region false [oP 4 (.mv (.c (.int .i64 (-1))))]) .ret))),
 false, false⟩

/- fpref37_Common -/
def c_fpref37_Common_l0 : AC := (.seq (.seq (.region false [mV 10 7,
 mV 11 0,
 oP 12 (.len (.t 11)),
 oP 13 (.bin .num .lss (.t 10) (.t 12))]) (.cond (.t 13) .skip (.exit 0))) (.seq (.block 1 (.seq (.region true [mV 17 0,
 mV 18 7,
 oP 19 (.iaddr 7 (.t 17) (.t 18)),
 oP 20 (.load true 7 (.t 19)),
 mV 21 1,
 mV 22 7,
 oP 23 (.iaddr 7 (.t 21) (.t 22)),
 oP 24 (.load true 7 (.t 23)),
 oP 25 (.call (.f 71) [(.t 20), (.t 24)]),
 mV 16 25,
 oP 26 (.extract 0 (.t 16)),
 oP 27 (.extract 1 (.t 16)),
 oP 8 (.new 7 (.agg [(.bool false), .nil, (.int .i64 0), (.bool false), .nil, (.int .i64 0), (.bool false)])),
 ⟨none, .store 7 (.t 8) (.t 26), none, true⟩,
 mV 9 27]) (.seq (.seq (.region false [mV 28 9,
 oP 29 (.un .not (.t 28))]) (.cond (.t 29) (.seq (.region false [oP 4 (.mv (.c .nil)),
 oP 5 (.mv (.c (.bool false)))]) .ret) .skip)) (.region false [mV 30 6,
 oP 31 (.load true 7 (.t 8)),
 oP 32 (.bslice 7 1 (.agg [(.bool false), .nil, (.int .i64 0), (.bool false), .nil, (.int .i64 0), (.bool false)]) [(0, (.t 31))]),
 oP 33 (.append 7 88 (.t 30) (.t 32)),
 mV 6 33])))) (.region false [mV 14 7,
 oP 15 (.bin .num .add (.t 14) (.c (.int .i64 1))),
 mV 7 15])))
@[simp] def c_fpref37_Common : AFn := ⟨[(.tmp 4), (.tmp 5)],
 (.seq (.region false [oP 4 (.mv (.c .nil)),
 oP 5 (.mv (.c (.bool false)))]) (.seq (.region false [oP 6 (.mv (.c .nil))]) (.seq (.seq (.region false [oP 7 (.mv (.c (.int .i64 0)))]) (.block 0 (.loop c_fpref37_Common_l0))) (.seq (.region false [mV 34 6,
 mV 4 34,
 oP 5 (.mv (.c (.bool true)))]) .ret)))),
 false, false⟩

/- fpref37_At -/
def c_fpref37_At_l0 : AC := (.seq (.seq (.region true [oP 12 (.faddr 1 (.t 2)),
 oP 13 (.load false 1 (.t 12)),
 mV 14 5,
 oP 15 (.iaddr 8 (.t 13) (.t 14)),
 oP 16 (.faddr 3 (.t 15)),
 oP 17 (.load true 3 (.t 16)),
 oP 18 (.load true 3 (.t 3)),
 oS 19 (.call (.f 18) [(.t 17), (.t 18)]),
 oP 20 (.bin .num .lss (.t 19) (.c (.int .i64 0)))]) (.cond (.t 20) .skip (.exit 0))) (.block 1 (.region false [mV 21 5,
 oP 22 (.bin .num .add (.t 21) (.c (.int .i64 1))),
 mV 5 22])))
@[simp] def c_fpref37_At : AFn := ⟨[(.tmp 4)],
 (.seq (.region false [oP 2 (.box 2 (.t 0)),
 oP 3 (.box 3 (.t 1)),
 oP 4 (.mv (.c .nil))]) (.seq (.seq (.region true [oP 6 (.load true 3 (.t 3)),
 oP 7 (.load true 2 (.t 2)),
 oP 8 (.call (.f 26) [(.t 7)]),
 oS 9 (.call (.f 23) [(.t 6), (.t 8)])]) (.cond (.t 9) (.seq (.region false [oP 10 (.faddr 0 (.t 2)),
 oP 11 (.load false 1 (.t 10)),
 mV 4 11]) .ret) .skip)) (.seq (.region false [oP 5 (.mv (.c (.int .i64 0)))]) (.seq (.block 0 (.loop c_fpref37_At_l0)) (.seq (.seq (.region true [oP 23 (.faddr 1 (.t 2)),
 oP 24 (.load false 1 (.t 23)),
 mV 25 5,
 oP 26 (.iaddr 8 (.t 24) (.t 25)),
 oP 27 (.faddr 3 (.t 26)),
 oP 28 (.load true 3 (.t 27)),
 oP 29 (.load true 3 (.t 3)),
 oS 30 (.call (.f 23) [(.t 28), (.t 29)])]) (.cond (.t 30) (.seq (.region false [oP 31 (.faddr 1 (.t 2)),
 oP 32 (.load false 1 (.t 31)),
 mV 33 5,
 oP 34 (.iaddr 8 (.t 32) (.t 33)),
 oP 35 (.faddr 7 (.t 34)),
 oP 36 (.load false 1 (.t 35)),
 mV 4 36]) .ret) .skip)) (.seq (.region false [oP 37 (.faddr 1 (.t 2)),
 oP 38 (.load false 1 (.t 37)),
 mV 39 5,
 oP 40 (.iaddr 8 (.t 38) (.t 39)),
 oP 41 (.faddr 6 (.t 40)),
 oP 42 (.load false 1 (.t 41)),
 mV 4 42]) .ret)))))),
 false, false⟩

/- fpref37_Over -/
def c_fpref37_Over_l0 : AC := (.seq (.seq (.region false [mV 16 8,
 oP 17 (.faddr 1 (.t 3)),
 oP 18 (.load false 1 (.t 17)),
 oP 19 (.len (.t 18)),
 oP 20 (.bin .num .lss (.t 16) (.t 19))]) (.cond (.t 20) .skip (.exit 0))) (.seq (.block 1 (.seq (.region false [oP 23 (.faddr 1 (.t 3)),
 oP 24 (.load false 1 (.t 23)),
 mV 25 8,
 oP 26 (.iaddr 8 (.t 24) (.t 25)),
 oP 27 (.load true 8 (.t 26)),
 oP 9 (.new 8 (.agg [(.bool false), .nil, (.int .i64 0), (.bool false), .nil, (.int .i64 0), .nil, .nil])),
 ⟨none, .store 8 (.t 9) (.t 27), none, false⟩]) (.seq (.region false [oP 28 (.faddr 0 (.t 9)),
 oP 29 (.load true 3 (.t 28)),
 oP 30 (.load true 3 (.t 5)),
 oP 31 (.call (.f 18) [(.t 29), (.t 30)]),
 oP 32 (.bin .num .lss (.t 31) (.c (.int .i64 0))),
 mV 33 32,
 gT 34 33 (.faddr 3 (.t 9)),
 gT 35 33 (.load true 3 (.t 34)),
 gT 36 33 (.load true 3 (.t 4)),
 gT 37 33 (.call (.f 18) [(.t 35), (.t 36)]),
 gT 38 33 (.bin .num .gtr (.t 37) (.c (.int .i64 0))),
 oP 39 (.pick (.t 33) (.t 38) (.c (.bool false)))]) (.cond (.t 39) (.seq (.seq (.region false [mV 40 7,
 oP 41 (.len (.t 40)),
 oP 42 (.bin .num .eql (.t 41) (.c (.int .i64 0)))]) (.cond (.t 42) (.region false [oP 43 (.faddr 6 (.t 9)),
 oP 44 (.load false 1 (.t 43)),
 mV 7 44]) .skip)) (.region false [mV 45 7,
 oP 46 (.faddr 6 (.t 9)),
 oP 47 (.load false 1 (.t 46)),
 oP 48 (.call (.f 73) [(.t 45), (.t 47)]),
 mV 7 48])) .skip)))) (.region false [mV 21 8,
 oP 22 (.bin .num .add (.t 21) (.c (.int .i64 1))),
 mV 8 22])))
@[simp] def c_fpref37_Over : AFn := ⟨[(.tmp 6)],
 (.seq (.region false [oP 3 (.box 2 (.t 0)),
 oP 4 (.box 3 (.t 1)),
 oP 5 (.box 3 (.t 2)),
 oP 6 (.mv (.c .nil))]) (.seq (.seq (.region false [oP 10 (.load true 3 (.t 4)),
 oP 11 (.load true 3 (.t 5)),
 oP 12 (.call (.f 23) [(.t 10), (.t 11)])]) (.cond (.t 12) (.seq (.region false [oP 13 (.load true 2 (.t 3)),
 oP 14 (.load true 3 (.t 4)),
 oP 15 (.call (.f 36) [(.t 13), (.t 14)]),
 mV 6 15]) .ret) .skip)) (.seq (.region false [oP 7 (.mv (.c .nil))]) (.seq (.seq (.region false [oP 8 (.mv (.c (.int .i64 0)))]) (.block 0 (.loop c_fpref37_Over_l0))) (.seq (.region false [mV 49 7,
 mV 6 49]) .ret))))),
 false, false⟩

/- fplaw37_example -/
@[simp] def c_fplaw37_example : AFn := ⟨[(.cell 0 true 2)],
 (.seq (.region false [oP 0 (.new 2 (.agg [.nil, .nil]))]) (.seq (.region false [oP 1 (.call (.f 40) [(.c (.int .i64 0)), (.c (.int .i64 0))]),
 oP 2 (.call (.f 39) [(.c (.int .i64 0))]),
 oP 3 (.call (.f 39) [(.c (.int .i64 1))]),
 oP 4 (.call (.f 40) [(.c (.int .i64 0)), (.c (.int .i64 2))]),
 oP 5 (.call (.f 40) [(.c (.int .i64 1)), (.c (.int .i64 1))]),
 oP 6 (.build [(.bool false), .nil, (.int .i64 0), (.bool false), .nil, (.int .i64 0), .nil, .nil] [(0, 3, (.t 2)), (3, 3, (.t 3)), (6, 1, (.t 4)), (7, 1, (.t 5))]),
 oP 7 (.call (.f 39) [(.c (.int .i64 1))]),
 oP 8 (.call (.f 39) [(.c (.int .i64 3))]),
 oP 9 (.call (.f 40) [(.c (.int .i64 1)), (.c (.int .i64 3))]),
 oP 10 (.call (.f 40) [(.c (.int .i64 3)), (.c (.int .i64 3))]),
 oP 11 (.build [(.bool false), .nil, (.int .i64 0), (.bool false), .nil, (.int .i64 0), .nil, .nil] [(0, 3, (.t 7)), (3, 3, (.t 8)), (6, 1, (.t 9)), (7, 1, (.t 10))]),
 oP 12 (.bslice 8 2 (.agg [(.bool false), .nil, (.int .i64 0), (.bool false), .nil, (.int .i64 0), .nil, .nil]) [(0, (.t 6)), (1, (.t 11))]),
 oP 13 (.build [.nil, .nil] [(0, 1, (.t 1)), (1, 1, (.t 12))]),
 ⟨none, .store 2 (.t 0) (.t 13), none, false⟩]) .ret)),
 false, false⟩

/- fplaw37_n -/
@[simp] def c_fplaw37_n : AFn := ⟨[(.cell 2 true 3)],
 (.seq (.region false [oP 2 (.new 3 (.agg [(.bool false), .nil, (.int .i64 0)]))]) (.seq (.region false [mV 3 0,
 oP 4 (.call (.f 74) [(.t 3)]),
 ⟨none, .store 3 (.t 2) (.t 4), none, false⟩]) .ret)),
 false, false⟩

/- fplaw37_of -/
@[simp] def c_fplaw37_of : AFn := ⟨[(.tmp 4)],
 (.seq (.region false [oP 4 (.mv (.c .nil))]) (.seq (.region false [mV 5 0,
 oP 6 (.call (.f 39) [(.t 5)]),
 mV 7 1,
 oP 8 (.call (.f 39) [(.t 7)]),
 oP 9 (.build [(.bool false), .nil, (.int .i64 0), (.bool false), .nil, (.int .i64 0), (.bool false)] [(0, 3, (.t 6)), (3, 3, (.t 8))]),
 oP 10 (.bslice 7 1 (.agg [(.bool false), .nil, (.int .i64 0), (.bool false), .nil, (.int .i64 0), (.bool false)]) [(0, (.t 9))]),
 mV 4 10]) .ret)),
 false, false⟩

/- slices_ContainsFunc_Pipe -/
@[simp] def c_slices_ContainsFunc_Pipe : AFn := ⟨[(.tmp 4)],
 (.seq (.region false [oP 4 (.mv (.c (.bool false)))]) (.seq (.region false [mV 5 0,
 mV 6 1,
 oP 7 (.call (.f 75) [(.t 5), (.t 6)]),
 oP 8 (.bin .num .geq (.t 7) (.c (.int .i64 0))),
 mV 4 8]) .ret)),
 false, false⟩

/- fplaw37_great_1 -/
@[simp] def c_fplaw37_great_1 : AFn := ⟨[(.tmp 2)],
 (.seq (.region false [oP 1 (.box 2 (.t 0)),
 oP 2 (.mv (.c (.bool false)))]) (.seq (.region false [oP 3 (.faddr 1 (.t 1)),
 oP 4 (.load false 1 (.t 3)),
 oP 5 (.len (.t 4)),
 oP 6 (.bin .num .gtr (.t 5) (.c (.int .i64 30))),
 mV 7 6,
 gF 8 7 (.faddr 0 (.t 1)),
 gF 9 7 (.load false 1 (.t 8)),
 gF 10 7 (.call (.f 29) [(.t 9)]),
 oP 11 (.pick (.t 7) (.c (.bool true)) (.t 10)),
 mV 12 11,
 gF 13 12 (.faddr 1 (.t 1)),
 gF 14 12 (.load false 1 (.t 13)),
 gF 15 12 (.call (.f 43) [(.t 14), (.f 44)]),
 oP 16 (.pick (.t 12) (.c (.bool true)) (.t 15)),
 mV 2 16]) .ret)),
 false, false⟩

/- slices_ContainsFunc_Segment -/
@[simp] def c_slices_ContainsFunc_Segment : AFn := ⟨[(.tmp 4)],
 (.seq (.region false [oP 4 (.mv (.c (.bool false)))]) (.seq (.region false [mV 5 0,
 mV 6 1,
 oP 7 (.call (.f 32) [(.t 5), (.t 6)]),
 oP 8 (.bin .num .geq (.t 7) (.c (.int .i64 0))),
 mV 4 8]) .ret)),
 false, false⟩

/- fplaw37_great_1_1 -/
@[simp] def c_fplaw37_great_1_1 : AFn := ⟨[(.tmp 2)],
 (.seq (.region false [oP 1 (.box 8 (.t 0)),
 oP 2 (.mv (.c (.bool false)))]) (.seq (.region false [oP 3 (.faddr 0 (.t 1)),
 oP 4 (.load true 3 (.t 3)),
 oP 5 (.call (.f 9) [(.t 4)]),
 mV 6 5,
 gF 7 6 (.faddr 3 (.t 1)),
 gF 8 6 (.load true 3 (.t 7)),
 gF 9 6 (.call (.f 9) [(.t 8)]),
 oP 10 (.pick (.t 6) (.c (.bool true)) (.t 9)),
 mV 11 10,
 gF 12 11 (.faddr 6 (.t 1)),
 gF 13 11 (.load false 1 (.t 12)),
 gF 14 11 (.call (.f 29) [(.t 13)]),
 oP 15 (.pick (.t 11) (.c (.bool true)) (.t 14)),
 mV 16 15,
 gF 17 16 (.faddr 7 (.t 1)),
 gF 18 16 (.load false 1 (.t 17)),
 gF 19 16 (.call (.f 29) [(.t 18)]),
 oP 20 (.pick (.t 16) (.c (.bool true)) (.t 19)),
 mV 2 20]) .ret)),
 false, false⟩

/- pipe_copied -/
def c_pipe_copied_l0 : AC := (.seq (.region false [oP 14 (.bin .num .lss (.t 13) (.t 12))]) (.seq (.cond (.t 14) .skip (.exit 0)) (.seq (.block 1 (.seq (.region false [oP 15 (.iaddr 8 (.t 11) (.t 13)),
 oP 16 (.load true 8 (.t 15)),
 oP 5 (.new 8 (.agg [(.bool false), .nil, (.int .i64 0), (.bool false), .nil, (.int .i64 0), .nil, .nil])),
 ⟨none, .store 8 (.t 5) (.t 16), none, false⟩]) (.seq (.region true [oP 17 (.faddr 6 (.t 5)),
 oP 18 (.load false 1 (.t 17)),
 oP 19 (.call (.f 47) [(.t 18)]),
 oP 20 (.faddr 7 (.t 5)),
 oP 21 (.load false 1 (.t 20)),
 oS 22 (.call (.f 47) [(.t 21)]),
 oP 23 (.faddr 6 (.t 5)),
 ⟨none, .store 1 (.t 23) (.t 19), none, true⟩,
 oP 24 (.faddr 7 (.t 5)),
 ⟨none, .store 1 (.t 24) (.t 22), none, true⟩]) (.region false [oP 25 (.faddr 1 (.t 3)),
 oP 26 (.load false 1 (.t 25)),
 oP 27 (.load true 8 (.t 5)),
 oP 28 (.bslice 8 1 (.agg [(.bool false), .nil, (.int .i64 0), (.bool false), .nil, (.int .i64 0), .nil, .nil]) [(0, (.t 27))]),
 oP 29 (.append 8 128 (.t 26) (.t 28)),
 oP 30 (.faddr 1 (.t 3)),
 ⟨none, .store 1 (.t 30) (.t 29), none, false⟩])))) (.region false [oP 31 (.bin .num .add (.t 13) (.c (.int .i64 1))),
 mV 13 31]))))
@[simp] def c_pipe_copied : AFn := ⟨[(.cell 2 true 2)],
 (.seq (.region false [oP 1 (.box 2 (.t 0)),
 oP 2 (.new 2 (.agg [.nil, .nil]))]) (.seq (.region false [oP 6 (.faddr 0 (.t 1)),
 oP 7 (.load false 1 (.t 6)),
 oP 8 (.call (.f 47) [(.t 7)]),
 oP 9 (.build [.nil, .nil] [(0, 1, (.t 8))]),
 oP 3 (.new 2 (.agg [.nil, .nil])),
 ⟨none, .store 2 (.t 3) (.t 9), none, false⟩]) (.seq (.seq (.region false [oP 10 (.faddr 1 (.t 1)),
 oP 11 (.load false 1 (.t 10)),
 oP 12 (.len (.t 11)),
 oP 13 (.mv (.c (.int .i64 0)))]) (.block 0 (.loop c_pipe_copied_l0))) (.seq (.region false [oP 32 (.load true 2 (.t 3)),
 ⟨none, .store 2 (.t 2) (.t 32), none, false⟩]) .ret)))),
 true, false⟩

/- pipe_less -/
@[simp] def c_pipe_less : AFn := ⟨[(.tmp 4)],
 (.seq (.region false [oP 2 (.box 3 (.t 0)),
 oP 3 (.box 3 (.t 1)),
 oP 4 (.mv (.c (.bool false)))]) (.seq (.region false [oP 5 (.load true 3 (.t 2)),
 oP 6 (.load true 3 (.t 3)),
 oP 7 (.call (.f 52) [(.t 5), (.t 6)]),
 oP 8 (.bin .num .lss (.t 7) (.c (.int .i64 0))),
 mV 4 8]) .ret)),
 false, false⟩

/- slices_Clone_Interval -/
@[simp] def c_slices_Clone_Interval : AFn := ⟨[(.tmp 2)],
 (.seq (.region false [oP 2 (.mv (.c .nil))]) (.seq (.seq (.region false [mV 3 0,
 oP 4 (.bin .slice .eql (.t 3) (.c .nil))]) (.cond (.t 4) (.seq (.region false [oP 2 (.mv (.c .nil))]) .ret) .skip)) (.seq (.region false [oP 5 (.bslice 7 0 (.agg [(.bool false), .nil, (.int .i64 0), (.bool false), .nil, (.int .i64 0), (.bool false)]) []),
 mV 6 0,
 oP 7 (.append 7 88 (.t 5) (.t 6)),
 mV 2 7]) .ret))),
 false, false⟩

/- fpref37_Before -/
@[simp] def c_fpref37_Before : AFn := ⟨[(.tmp 4)],
 (.seq (.region false [oP 2 (.box 2 (.t 0)),
 oP 4 (.mv (.c .nil))]) (.seq (.seq (.region false [mV 5 1,
 oP 6 (.bin .num .eql (.t 5) (.c (.int .i64 0)))]) (.cond (.t 6) (.seq (.region false [oP 7 (.faddr 0 (.t 2)),
 oP 8 (.load false 1 (.t 7)),
 mV 4 8]) .ret) .skip)) (.seq (.region false [oP 9 (.faddr 1 (.t 2)),
 oP 10 (.load false 1 (.t 9)),
 mV 11 1,
 oP 12 (.bin .num .sub (.t 11) (.c (.int .i64 1))),
 oP 13 (.iaddr 8 (.t 10) (.t 12)),
 oP 14 (.faddr 7 (.t 13)),
 oP 15 (.load false 1 (.t 14)),
 mV 4 15]) .ret))),
 false, false⟩

/- fpref02_bits -/
def c_fpref02_bits_l0 : AC := (.seq (.seq (.region false [mV 18 4,
 oP 19 (.bin .num .gtr (.t 18) (.c (.int .u32 0)))]) (.cond (.t 19) .skip (.exit 0))) (.seq (.block 1 (.region false [mV 22 3,
 oP 23 (.bin .num .add (.t 22) (.c (.int .i64 1))),
 mV 3 23])) (.region false [mV 20 4,
 oP 21 (.bin .num .shr (.t 20) (.c (.int .u64 1))),
 mV 4 21])))
@[simp] def c_fpref02_bits : AFn := ⟨[(.tmp 2)],
 (.seq (.region false [oP 2 (.mv (.c (.int .i64 0)))]) (.seq (.seq (.region false [mV 5 0,
 oP 6 (.len (.t 5)),
 oP 7 (.bin .num .eql (.t 6) (.c (.int .i64 0)))]) (.cond (.t 7) (.seq (.region false [oP 2 (.mv (.c (.int .i64 0)))]) .ret) .skip)) (.seq (.region false [mV 8 0,
 oP 9 (.len (.t 8)),
 oP 10 (.bin .num .sub (.t 9) (.c (.int .i64 1))),
 oP 11 (.bin .num .mul (.c (.int .i64 32)) (.t 10)),
 mV 3 11]) (.seq (.seq (.region false [mV 12 0,
 mV 13 0,
 oP 14 (.len (.t 13)),
 oP 15 (.bin .num .sub (.t 14) (.c (.int .i64 1))),
 oP 16 (.iaddr 1 (.t 12) (.t 15)),
 oP 17 (.load false 1 (.t 16)),
 mV 4 17]) (.block 0 (.loop c_fpref02_bits_l0))) (.seq (.region false [mV 24 3,
 mV 2 24]) .ret))))),
 false, false⟩

/- box_Valid -/
@[simp] def c_box_Valid : AFn := ⟨[(.tmp 2)],
 (.seq (.region false [oP 2 (.mv (.c (.bool false)))]) (.seq (.region false [mV 3 0,
 oP 4 (.len (.t 3)),
 oP 5 (.bin .num .geq (.t 4) (.c (.int .i64 1))),
 mV 6 5,
 gT 7 6 (.mv (.t 0)),
 gT 8 6 (.len (.t 7)),
 gT 9 6 (.bin .num .leq (.t 8) (.c (.int .i64 8))),
 oP 10 (.pick (.t 6) (.t 9) (.c (.bool false))),
 mV 11 10,
 gT 12 11 (.mv (.t 0)),
 gT 13 11 (.call (.f 67) [(.t 12), (.f 76)]),
 gT 14 11 (.un .not (.t 13)),
 oP 15 (.pick (.t 11) (.t 14) (.c (.bool false))),
 mV 2 15]) .ret)),
 false, false⟩

/- dyadic_Valid -/
@[simp] def c_dyadic_Valid : AFn := ⟨[(.tmp 2)],
 (.seq (.region false [oP 1 (.box 3 (.t 0)),
 oP 2 (.mv (.c (.bool false)))]) (.seq (.seq (.region false [oP 3 (.faddr 1 (.t 1)),
 oP 4 (.load false 1 (.t 3)),
 oP 5 (.len (.t 4)),
 oP 6 (.bin .num .eql (.t 5) (.c (.int .i64 0)))]) (.cond (.t 6) (.seq (.region false [oP 7 (.faddr 0 (.t 1)),
 oP 8 (.load false 1 (.t 7)),
 oP 9 (.un .not (.t 8)),
 mV 10 9,
 gT 11 10 (.faddr 2 (.t 1)),
 gT 12 10 (.load false 1 (.t 11)),
 gT 13 10 (.bin .num .eql (.t 12) (.c (.int .i64 0))),
 oP 14 (.pick (.t 10) (.t 13) (.c (.bool false))),
 mV 2 14]) .ret) .skip)) (.seq (.region false [oP 15 (.faddr 1 (.t 1)),
 oP 16 (.load false 1 (.t 15)),
 oP 17 (.len (.t 16)),
 oP 18 (.bin .num .leq (.t 17) (.c (.int .i64 256))),
 mV 19 18,
 gT 20 19 (.faddr 1 (.t 1)),
 gT 21 19 (.load false 1 (.t 20)),
 gT 22 19 (.iaddr 1 (.t 21) (.c (.int .i64 0))),
 gT 23 19 (.load false 1 (.t 22)),
 gT 24 19 (.bin .num .rem (.t 23) (.c (.int .u32 2))),
 gT 25 19 (.bin .num .eql (.t 24) (.c (.int .u32 1))),
 oP 26 (.pick (.t 19) (.t 25) (.c (.bool false))),
 mV 27 26,
 gT 28 27 (.faddr 1 (.t 1)),
 gT 29 27 (.load false 1 (.t 28)),
 gT 30 27 (.faddr 1 (.t 1)),
 gT 31 27 (.load false 1 (.t 30)),
 gT 32 27 (.len (.t 31)),
 gT 33 27 (.bin .num .sub (.t 32) (.c (.int .i64 1))),
 gT 34 27 (.iaddr 1 (.t 29) (.t 33)),
 gT 35 27 (.load false 1 (.t 34)),
 gT 36 27 (.bin .num .neq (.t 35) (.c (.int .u32 0))),
 oP 37 (.pick (.t 27) (.t 36) (.c (.bool false))),
 mV 38 37,
 gT 39 38 (.load true 3 (.t 1)),
 gT 40 38 (.call (.f 78) [(.t 39)]),
 oP 41 (.pick (.t 38) (.t 40) (.c (.bool false))),
 mV 2 41]) .ret))),
 false, false⟩

/- dyadic_Cmp -/
@[simp] def c_dyadic_Cmp : AFn := ⟨[(.tmp 4)],
 (.seq (.region false [oP 2 (.box 3 (.t 0)),
 oP 3 (.box 3 (.t 1)),
 oP 4 (.mv (.c (.int .i64 0)))]) (.seq (.seq (.region false [oP 7 (.load true 3 (.t 2)),
 oP 8 (.call (.f 51) [(.t 7)]),
 oP 9 (.un .not (.t 8)),
 mV 10 9,
 gF 11 10 (.load true 3 (.t 3)),
 gF 12 10 (.call (.f 51) [(.t 11)]),
 gF 13 10 (.un .not (.t 12)),
 oP 14 (.pick (.t 10) (.c (.bool true)) (.t 13))]) (.cond (.t 14) (.seq (.region false [oP 4 (.mv (.c (.int .i64 0)))]) .ret) .skip)) (.seq (.region true [oP 15 (.load true 3 (.t 2)),
 oP 16 (.call (.f 79) [(.t 15)]),
 oP 17 (.load true 3 (.t 3)),
 oS 18 (.call (.f 79) [(.t 17)]),
 mV 5 16,
 mV 6 18]) (.seq (.block 0 (.seq (.region false [mV 20 5,
 mV 21 6,
 oP 22 (.bin .num .lss (.t 20) (.t 21)),
 mV 19 22]) (.cond (.t 19) (.seq (.region false [oP 4 (.mv (.c (.int .i64 (-1))))]) .ret) (.seq (.region false [mV 24 5,
 mV 25 6,
 oP 26 (.bin .num .gtr (.t 24) (.t 25)),
 mV 23 26]) (.cond (.t 23) (.seq (.region false [oP 4 (.mv (.c (.int .i64 1)))]) .ret) (.seq (.region false [mV 28 5,
 oP 29 (.bin .num .eql (.t 28) (.c (.int .i64 0))),
 mV 27 29]) (.cond (.t 27) (.seq (.region false [oP 4 (.mv (.c (.int .i64 0)))]) .ret) .skip))))))) (.seq (.region false [mV 30 5,
 oP 31 (.load true 3 (.t 2)),
 oP 32 (.load true 3 (.t 3)),
 oP 33 (.call (.f 80) [(.t 31), (.t 32)]),
 oP 34 (.bin .num .mul (.t 30) (.t 33)),
 mV 4 34]) .ret))))),
 false, false⟩

/- box_Inside -/
@[simp] def c_box_Inside : AFn := ⟨[(.tmp 4)],
 (.seq (.region false [oP 4 (.mv (.c (.bool false)))]) (.seq (.region false [mV 5 0,
 mV 6 1,
 oP 7 (.call (.f 81) [(.t 5), (.t 6)]),
 mV 8 7,
 gT 9 8 (.mv (.t 0)),
 gT 10 8 (.mv (.t 1)),
 gT 11 8 (.call (.f 82) [(.t 9), (.t 10), (.f 83)]),
 oP 12 (.pick (.t 8) (.t 11) (.c (.bool false))),
 mV 4 12]) .ret)),
 false, false⟩

/- fpref02_Sign -/
@[simp] def c_fpref02_Sign : AFn := ⟨[(.tmp 2)],
 (.seq (.region false [oP 1 (.box 3 (.t 0)),
 oP 2 (.mv (.c (.int .i64 0)))]) (.seq (.seq (.region false [oP 3 (.faddr 1 (.t 1)),
 oP 4 (.load false 1 (.t 3)),
 oP 5 (.len (.t 4)),
 oP 6 (.bin .num .eql (.t 5) (.c (.int .i64 0)))]) (.cond (.t 6) (.seq (.region false [oP 2 (.mv (.c (.int .i64 0)))]) .ret) .skip)) (.seq (.seq (.region false [oP 7 (.faddr 0 (.t 1)),
 oP 8 (.load false 1 (.t 7))]) (.cond (.t 8) (.seq (.region false [oP 2 (.mv (.c (.int .i64 (-1))))]) .ret) .skip)) (.seq (.region false [oP 2 (.mv (.c (.int .i64 1)))]) .ret)))),
 false, false⟩

/- fpref02_Top -/
@[simp] def c_fpref02_Top : AFn := ⟨[(.tmp 2)],
 (.seq (.region false [oP 1 (.box 3 (.t 0)),
 oP 2 (.mv (.c (.int .i64 0)))]) (.seq (.seq (.region false [oP 3 (.faddr 1 (.t 1)),
 oP 4 (.load false 1 (.t 3)),
 oP 5 (.len (.t 4)),
 oP 6 (.bin .num .eql (.t 5) (.c (.int .i64 0)))]) (.cond (.t 6) (.seq (.region false [oP 2 (.mv (.c (.int .i64 0)))]) .ret) .skip)) (.seq (.region true [oP 7 (.faddr 1 (.t 1)),
 oP 8 (.load false 1 (.t 7)),
 oP 9 (.call (.f 49) [(.t 8)]),
 oP 10 (.faddr 2 (.t 1)),
 oP 11 (.load false 1 (.t 10)),
 oP 12 (.bin .num .add (.t 9) (.t 11)),
 mV 2 12]) .ret))),
 false, false⟩

/- fpref02_Sum -/
@[simp] def c_fpref02_Sum : AFn := ⟨[(.cell 4 true 3)],
 (.seq (.region false [oP 2 (.box 3 (.t 0)),
 oP 3 (.box 3 (.t 1)),
 oP 4 (.new 3 (.agg [(.bool false), .nil, (.int .i64 0)]))]) (.seq (.seq (.region false [oP 8 (.faddr 1 (.t 2)),
 oP 9 (.load false 1 (.t 8)),
 oP 10 (.len (.t 9)),
 oP 11 (.bin .num .eql (.t 10) (.c (.int .i64 0)))]) (.cond (.t 11) (.seq (.region false [oP 12 (.load true 3 (.t 3)),
 ⟨none, .store 3 (.t 4) (.t 12), none, false⟩]) .ret) .skip)) (.seq (.seq (.region false [oP 13 (.faddr 1 (.t 3)),
 oP 14 (.load false 1 (.t 13)),
 oP 15 (.len (.t 14)),
 oP 16 (.bin .num .eql (.t 15) (.c (.int .i64 0)))]) (.cond (.t 16) (.seq (.region false [oP 17 (.load true 3 (.t 2)),
 ⟨none, .store 3 (.t 4) (.t 17), none, false⟩]) .ret) .skip)) (.seq (.region false [oP 18 (.faddr 2 (.t 2)),
 oP 19 (.load false 1 (.t 18)),
 oP 20 (.faddr 2 (.t 3)),
 oP 21 (.load false 1 (.t 20)),
 oP 22 (.min (.t 19) (.t 21)),
 mV 5 22]) (.seq (.region true [oP 23 (.faddr 1 (.t 2)),
 oP 24 (.load false 1 (.t 23)),
 oP 25 (.faddr 2 (.t 2)),
 oP 26 (.load false 1 (.t 25)),
 mV 27 5,
 oP 28 (.bin .num .sub (.t 26) (.t 27)),
 oP 29 (.call (.f 84) [(.t 24), (.t 28)]),
 oP 30 (.faddr 1 (.t 3)),
 oP 31 (.load false 1 (.t 30)),
 oP 32 (.faddr 2 (.t 3)),
 oP 33 (.load false 1 (.t 32)),
 mV 34 5,
 oP 35 (.bin .num .sub (.t 33) (.t 34)),
 oS 36 (.call (.f 84) [(.t 31), (.t 35)]),
 mV 6 29,
 mV 7 36]) (.seq (.seq (.region false [oP 37 (.faddr 0 (.t 2)),
 oP 38 (.load false 1 (.t 37)),
 oP 39 (.faddr 0 (.t 3)),
 oP 40 (.load false 1 (.t 39)),
 oP 41 (.bin .bool .eql (.t 38) (.t 40))]) (.cond (.t 41) (.seq (.region true [oP 42 (.faddr 0 (.t 2)),
 oP 43 (.load false 1 (.t 42)),
 mV 44 6,
 mV 45 7,
 oP 46 (.call (.f 86) [(.t 44), (.t 45)]),
 mV 47 5,
 oS 48 (.call (.f 85) [(.t 43), (.t 46), (.t 47)]),
 ⟨none, .store 3 (.t 4) (.t 48), none, true⟩]) .ret) .skip)) (.seq (.seq (.region false [mV 49 6,
 mV 50 7,
 oP 51 (.call (.f 63) [(.t 49), (.t 50)]),
 oP 52 (.bin .num .geq (.t 51) (.c (.int .i64 0)))]) (.cond (.t 52) (.seq (.region true [oP 53 (.faddr 0 (.t 2)),
 oP 54 (.load false 1 (.t 53)),
 mV 55 6,
 mV 56 7,
 oP 57 (.call (.f 87) [(.t 55), (.t 56)]),
 mV 58 5,
 oS 59 (.call (.f 85) [(.t 54), (.t 57), (.t 58)]),
 ⟨none, .store 3 (.t 4) (.t 59), none, true⟩]) .ret) .skip)) (.seq (.region true [oP 60 (.faddr 0 (.t 3)),
 oP 61 (.load false 1 (.t 60)),
 mV 62 7,
 mV 63 6,
 oP 64 (.call (.f 87) [(.t 62), (.t 63)]),
 mV 65 5,
 oS 66 (.call (.f 85) [(.t 61), (.t 64), (.t 65)]),
 ⟨none, .store 3 (.t 4) (.t 66), none, true⟩]) .ret)))))))),
 false, false⟩

/- fpref02_Neg -/
@[simp] def c_fpref02_Neg : AFn := ⟨[(.cell 2 true 3)],
 (.seq (.region false [oP 1 (.box 3 (.t 0)),
 oP 2 (.new 3 (.agg [(.bool false), .nil, (.int .i64 0)]))]) (.seq (.region false [oP 3 (.faddr 0 (.t 1)),
 oP 4 (.load false 1 (.t 3)),
 oP 5 (.un .not (.t 4)),
 mV 6 5,
 gT 7 6 (.faddr 1 (.t 1)),
 gT 8 6 (.load false 1 (.t 7)),
 gT 9 6 (.len (.t 8)),
 gT 10 6 (.bin .num .gtr (.t 9) (.c (.int .i64 0))),
 oP 11 (.pick (.t 6) (.t 10) (.c (.bool false))),
 oP 12 (.faddr 1 (.t 1)),
 oP 13 (.load false 1 (.t 12)),
 oP 14 (.faddr 2 (.t 1)),
 oP 15 (.load false 1 (.t 14)),
 oP 16 (.build [(.bool false), .nil, (.int .i64 0)] [(0, 1, (.t 11)), (1, 1, (.t 13)), (2, 1, (.t 15))]),
 ⟨none, .store 3 (.t 2) (.t 16), none, false⟩]) .ret)),
 false, false⟩

/- pipe_during -/
@[simp] def c_pipe_during : AFn := ⟨[(.tmp 4)],
 (.seq (.region false [oP 2 (.box 2 (.t 0)),
 oP 3 (.box 3 (.t 1)),
 oP 4 (.mv (.c (.bool false)))]) (.seq (.region true [oP 5 (.faddr 1 (.t 2)),
 oP 6 (.load false 1 (.t 5)),
 oP 7 (.len (.t 6)),
 oP 8 (.bin .num .gtr (.t 7) (.c (.int .i64 0))),
 mV 9 8,
 gT 10 9 (.load true 3 (.t 3)),
 gT 11 9 (.load true 2 (.t 2)),
 gT 12 9 (.call (.f 64) [(.t 11)]),
 ⟨some 13, .call (.f 46) [(.t 10), (.t 12)], some (9, true), true⟩,
 gT 14 9 (.un .not (.t 13)),
 oP 15 (.pick (.t 9) (.t 14) (.c (.bool false))),
 mV 16 15,
 gT 17 16 (.load true 2 (.t 2)),
 gT 18 16 (.call (.f 61) [(.t 17)]),
 gT 19 16 (.field true 3 3 (.t 18)),
 gT 20 16 (.load true 3 (.t 3)),
 ⟨some 21, .call (.f 46) [(.t 19), (.t 20)], some (16, true), true⟩,
 gT 22 16 (.un .not (.t 21)),
 oP 23 (.pick (.t 16) (.t 22) (.c (.bool false))),
 mV 4 23]) .ret)),
 false, false⟩

/- pipe_at -/
@[simp] def c_pipe_at : AFn := ⟨[(.tmp 4)],
 (.seq (.region false [oP 2 (.box 2 (.t 0)),
 oP 3 (.box 3 (.t 1)),
 oP 4 (.mv (.c .nil))]) (.seq (.seq (.region true [oP 7 (.load true 3 (.t 3)),
 oP 8 (.load true 2 (.t 2)),
 oP 9 (.call (.f 64) [(.t 8)]),
 oS 10 (.call (.f 52) [(.t 7), (.t 9)]),
 oP 11 (.bin .num .eql (.t 10) (.c (.int .i64 0)))]) (.cond (.t 11) (.seq (.region false [oP 12 (.faddr 0 (.t 2)),
 oP 13 (.load false 1 (.t 12)),
 oP 14 (.call (.f 47) [(.t 13)]),
 mV 4 14]) .ret) .skip)) (.seq (.region false [oP 15 (.faddr 1 (.t 2)),
 oP 16 (.load false 1 (.t 15)),
 oP 17 (.mkfn 88 [(.t 3)]),
 oP 18 (.call (.f 32) [(.t 16), (.t 17)]),
 mV 5 18]) (.seq (.seq (.region false [oP 19 (.faddr 1 (.t 2)),
 oP 20 (.load false 1 (.t 19)),
 mV 21 5,
 oP 22 (.iaddr 8 (.t 20) (.t 21)),
 oP 23 (.load true 8 (.t 22)),
 oP 6 (.new 8 (.agg [(.bool false), .nil, (.int .i64 0), (.bool false), .nil, (.int .i64 0), .nil, .nil])),
 ⟨none, .store 8 (.t 6) (.t 23), none, false⟩]) (.seq (.region false [oP 24 (.load true 3 (.t 3)),
 oP 25 (.faddr 3 (.t 6)),
 oP 26 (.load true 3 (.t 25)),
 oP 27 (.call (.f 46) [(.t 24), (.t 26)])]) (.cond (.t 27) (.seq (.region false [oP 28 (.faddr 6 (.t 6)),
 oP 29 (.load false 1 (.t 28)),
 oP 30 (.call (.f 47) [(.t 29)]),
 mV 4 30]) .ret) .skip))) (.seq (.region false [oP 31 (.faddr 1 (.t 2)),
 oP 32 (.load false 1 (.t 31)),
 mV 33 5,
 oP 34 (.iaddr 8 (.t 32) (.t 33)),
 oP 35 (.faddr 7 (.t 34)),
 oP 36 (.load false 1 (.t 35)),
 oP 37 (.call (.f 47) [(.t 36)]),
 mV 4 37]) .ret))))),
 false, false⟩

/- fpref05_Equal -/
@[simp] def c_fpref05_Equal : AFn := ⟨[(.tmp 4)],
 (.seq (.region false [oP 2 (.box 7 (.t 0)),
 oP 3 (.box 7 (.t 1)),
 oP 4 (.mv (.c (.bool false)))]) (.seq (.region false [oP 5 (.faddr 6 (.t 2)),
 oP 6 (.load false 1 (.t 5)),
 oP 7 (.faddr 6 (.t 3)),
 oP 8 (.load false 1 (.t 7)),
 oP 9 (.bin .bool .eql (.t 6) (.t 8)),
 mV 10 9,
 gT 11 10 (.faddr 0 (.t 2)),
 gT 12 10 (.load true 3 (.t 11)),
 gT 13 10 (.faddr 0 (.t 3)),
 gT 14 10 (.load true 3 (.t 13)),
 gT 15 10 (.call (.f 23) [(.t 12), (.t 14)]),
 oP 16 (.pick (.t 10) (.t 15) (.c (.bool false))),
 mV 17 16,
 gT 18 17 (.faddr 3 (.t 2)),
 gT 19 17 (.load true 3 (.t 18)),
 gT 20 17 (.faddr 3 (.t 3)),
 gT 21 17 (.load true 3 (.t 20)),
 gT 22 17 (.call (.f 23) [(.t 19), (.t 21)]),
 oP 23 (.pick (.t 17) (.t 22) (.c (.bool false))),
 mV 4 23]) .ret)),
 false, false⟩

/- pipe_last -/
@[simp] def c_pipe_last : AFn := ⟨[(.cell 2 true 8)],
 (.seq (.region false [oP 1 (.box 2 (.t 0)),
 oP 2 (.new 8 (.agg [(.bool false), .nil, (.int .i64 0), (.bool false), .nil, (.int .i64 0), .nil, .nil]))]) (.seq (.region false [oP 3 (.faddr 1 (.t 1)),
 oP 4 (.load false 1 (.t 3)),
 oP 5 (.faddr 1 (.t 1)),
 oP 6 (.load false 1 (.t 5)),
 oP 7 (.len (.t 6)),
 oP 8 (.bin .num .sub (.t 7) (.c (.int .i64 1))),
 oP 9 (.iaddr 8 (.t 4) (.t 8)),
 oP 10 (.load true 8 (.t 9)),
 ⟨none, .store 8 (.t 2) (.t 10), none, false⟩]) .ret)),
 false, false⟩

/- fpref02_compare -/
def c_fpref02_compare_l0 : AC := (.seq (.seq (.region false [mV 19 5,
 oP 20 (.bin .num .geq (.t 19) (.c (.int .i64 0)))]) (.cond (.t 20) .skip (.exit 0))) (.seq (.block 1 (.seq (.seq (.region true [mV 23 0,
 mV 24 5,
 oP 25 (.iaddr 1 (.t 23) (.t 24)),
 oP 26 (.load false 1 (.t 25)),
 mV 27 1,
 mV 28 5,
 oP 29 (.iaddr 1 (.t 27) (.t 28)),
 oP 30 (.load false 1 (.t 29)),
 oP 31 (.bin .num .lss (.t 26) (.t 30))]) (.cond (.t 31) (.seq (.region false [oP 4 (.mv (.c (.int .i64 (-1))))]) .ret) .skip)) (.seq (.region true [mV 32 0,
 mV 33 5,
 oP 34 (.iaddr 1 (.t 32) (.t 33)),
 oP 35 (.load false 1 (.t 34)),
 mV 36 1,
 mV 37 5,
 oP 38 (.iaddr 1 (.t 36) (.t 37)),
 oP 39 (.load false 1 (.t 38)),
 oP 40 (.bin .num .gtr (.t 35) (.t 39))]) (.cond (.t 40) (.seq (.region false [oP 4 (.mv (.c (.int .i64 1)))]) .ret) .skip)))) (.region false [mV 21 5,
 oP 22 (.bin .num .sub (.t 21) (.c (.int .i64 1))),
 mV 5 22])))
@[simp] def c_fpref02_compare : AFn := ⟨[(.tmp 4)],
 (.seq (.region false [oP 4 (.mv (.c (.int .i64 0)))]) (.seq (.seq (.region false [mV 6 0,
 oP 7 (.len (.t 6)),
 mV 8 1,
 oP 9 (.len (.t 8)),
 oP 10 (.bin .num .neq (.t 7) (.t 9))]) (.cond (.t 10) (.seq (.seq (.region false [mV 11 0,
 oP 12 (.len (.t 11)),
 mV 13 1,
 oP 14 (.len (.t 13)),
 oP 15 (.bin .num .lss (.t 12) (.t 14))]) (.cond (.t 15) (.seq (.region false [oP 4 (.mv (.c (.int .i64 (-1))))]) .ret) .skip)) (.seq (.region false [oP 4 (.mv (.c (.int .i64 1)))]) .ret)) .skip)) (.seq (.seq (.region false [mV 16 0,
 oP 17 (.len (.t 16)),
 oP 18 (.bin .num .sub (.t 17) (.c (.int .i64 1))),
 mV 5 18]) (.block 0 (.loop c_fpref02_compare_l0))) (.seq (.region false [oP 4 (.mv (.c (.int .i64 0)))]) .ret)))),
 false, false⟩

/- pipe_begin -/
@[simp] def c_pipe_begin : AFn := ⟨[(.cell 2 true 3)],
 (.seq (.region false [oP 1 (.box 2 (.t 0)),
 oP 2 (.new 3 (.agg [(.bool false), .nil, (.int .i64 0)]))]) (.seq (.region false [oP 3 (.faddr 1 (.t 1)),
 oP 4 (.load false 1 (.t 3)),
 oP 5 (.iaddr 8 (.t 4) (.c (.int .i64 0))),
 oP 6 (.faddr 0 (.t 5)),
 oP 7 (.load true 3 (.t 6)),
 ⟨none, .store 3 (.t 2) (.t 7), none, false⟩]) .ret)),
 false, false⟩

/- fpref05_Inside -/
@[simp] def c_fpref05_Inside : AFn := ⟨[(.tmp 4)],
 (.seq (.region false [oP 2 (.box 7 (.t 0)),
 oP 3 (.box 7 (.t 1)),
 oP 4 (.mv (.c (.bool false)))]) (.seq (.seq (.region false [oP 5 (.load true 7 (.t 2)),
 oP 6 (.call (.f 70) [(.t 5)]),
 oP 7 (.un .not (.t 6)),
 mV 8 7,
 gF 9 8 (.load true 7 (.t 3)),
 gF 10 8 (.call (.f 70) [(.t 9)]),
 gF 11 8 (.un .not (.t 10)),
 oP 12 (.pick (.t 8) (.c (.bool true)) (.t 11)),
 mV 13 12,
 gF 14 13 (.faddr 6 (.t 2)),
 gF 15 13 (.load false 1 (.t 14)),
 oP 16 (.pick (.t 13) (.c (.bool true)) (.t 15))]) (.cond (.t 16) (.seq (.region false [oP 17 (.load true 7 (.t 2)),
 oP 18 (.call (.f 70) [(.t 17)]),
 mV 19 18,
 gT 20 19 (.load true 7 (.t 3)),
 gT 21 19 (.call (.f 70) [(.t 20)]),
 oP 22 (.pick (.t 19) (.t 21) (.c (.bool false))),
 mV 23 22,
 gT 24 23 (.faddr 6 (.t 3)),
 gT 25 23 (.load false 1 (.t 24)),
 oP 26 (.pick (.t 23) (.t 25) (.c (.bool false))),
 mV 4 26]) .ret) .skip)) (.seq (.region false [oP 27 (.faddr 6 (.t 3)),
 oP 28 (.load false 1 (.t 27)),
 mV 29 28,
 gF 30 29 (.faddr 0 (.t 3)),
 gF 31 29 (.load true 3 (.t 30)),
 gF 32 29 (.faddr 0 (.t 2)),
 gF 33 29 (.load true 3 (.t 32)),
 gF 34 29 (.call (.f 18) [(.t 31), (.t 33)]),
 gF 35 29 (.bin .num .leq (.t 34) (.c (.int .i64 0))),
 gF 36 29 (.mv (.t 35)),
 gT 37 36 (.faddr 3 (.t 2)),
 gT 38 36 (.load true 3 (.t 37)),
 gT 39 36 (.faddr 3 (.t 3)),
 gT 40 36 (.load true 3 (.t 39)),
 gT 41 36 (.call (.f 18) [(.t 38), (.t 40)]),
 gT 42 36 (.bin .num .leq (.t 41) (.c (.int .i64 0))),
 gF 43 29 (.pick (.t 36) (.t 42) (.c (.bool false))),
 oP 44 (.pick (.t 29) (.c (.bool true)) (.t 43)),
 mV 4 44]) .ret))),
 false, false⟩

/- slices_ContainsFunc_Interval -/
@[simp] def c_slices_ContainsFunc_Interval : AFn := ⟨[(.tmp 4)],
 (.seq (.region false [oP 4 (.mv (.c (.bool false)))]) (.seq (.region false [mV 5 0,
 mV 6 1,
 oP 7 (.call (.f 89) [(.t 5), (.t 6)]),
 oP 8 (.bin .num .geq (.t 7) (.c (.int .i64 0))),
 mV 4 8]) .ret)),
 false, false⟩

/- fplaw37_wide_1 -/
@[simp] def c_fplaw37_wide_1 : AFn := ⟨[(.tmp 2)],
 (.seq (.region false [oP 1 (.box 7 (.t 0)),
 oP 2 (.mv (.c (.bool false)))]) (.seq (.region false [oP 3 (.faddr 0 (.t 1)),
 oP 4 (.load true 3 (.t 3)),
 oP 5 (.call (.f 9) [(.t 4)]),
 mV 6 5,
 gF 7 6 (.faddr 3 (.t 1)),
 gF 8 6 (.load true 3 (.t 7)),
 gF 9 6 (.call (.f 9) [(.t 8)]),
 oP 10 (.pick (.t 6) (.c (.bool true)) (.t 9)),
 mV 2 10]) .ret)),
 false, false⟩

/- box_Meet -/
def c_box_Meet_l0 : AC := (.seq (.region false [oP 17 (.bin .num .lss (.t 16) (.t 15))]) (.seq (.cond (.t 17) .skip (.exit 0)) (.seq (.block 1 (.seq (.region false [mV 18 16,
 mV 7 18]) (.seq (.region true [mV 20 0,
 mV 21 7,
 oP 22 (.iaddr 7 (.t 20) (.t 21)),
 oP 23 (.load true 7 (.t 22)),
 mV 24 1,
 mV 25 7,
 oP 26 (.iaddr 7 (.t 24) (.t 25)),
 oP 27 (.load true 7 (.t 26)),
 oP 28 (.call (.f 90) [(.t 23), (.t 27)]),
 mV 19 28,
 oP 29 (.extract 0 (.t 19)),
 oP 30 (.extract 1 (.t 19)),
 oP 8 (.new 7 (.agg [(.bool false), .nil, (.int .i64 0), (.bool false), .nil, (.int .i64 0), (.bool false)])),
 ⟨none, .store 7 (.t 8) (.t 29), none, true⟩,
 mV 9 30]) (.seq (.seq (.region false [mV 31 9,
 oP 32 (.un .not (.t 31))]) (.cond (.t 32) (.seq (.region false [oP 4 (.mv (.c .nil)),
 oP 5 (.mv (.c (.bool false)))]) .ret) .skip)) (.region false [mV 33 6,
 oP 34 (.load true 7 (.t 8)),
 oP 35 (.bslice 7 1 (.agg [(.bool false), .nil, (.int .i64 0), (.bool false), .nil, (.int .i64 0), (.bool false)]) [(0, (.t 34))]),
 oP 36 (.append 7 88 (.t 33) (.t 35)),
 mV 6 36]))))) (.region false [oP 37 (.bin .num .add (.t 16) (.c (.int .i64 1))),
 mV 16 37]))))
@[simp] def c_box_Meet : AFn := ⟨[(.tmp 4), (.tmp 5)],
 (.seq (.region false [oP 4 (.mv (.c .nil)),
 oP 5 (.mv (.c (.bool false)))]) (.seq (.seq (.region false [mV 10 0,
 mV 11 1,
 oP 12 (.call (.f 81) [(.t 10), (.t 11)]),
 oP 13 (.un .not (.t 12))]) (.cond (.t 13) (.seq (.region false [oP 4 (.mv (.c .nil)),
 oP 5 (.mv (.c (.bool false)))]) .ret) .skip)) (.seq (.region false [oP 6 (.mv (.c .nil))]) (.seq (.seq (.region false [mV 14 0,
 oP 15 (.len (.t 14)),
 oP 16 (.mv (.c (.int .i64 0)))]) (.block 0 (.loop c_box_Meet_l0))) (.seq (.region false [mV 38 6,
 mV 4 38,
 oP 5 (.mv (.c (.bool true)))]) .ret))))),
 false, false⟩

/- fpref05_Valid -/
@[simp] def c_fpref05_Valid : AFn := ⟨[(.tmp 2)],
 (.seq (.region false [oP 1 (.box 7 (.t 0)),
 oP 2 (.mv (.c (.bool false)))]) (.seq (.seq (.region false [oP 3 (.faddr 6 (.t 1)),
 oP 4 (.load false 1 (.t 3))]) (.cond (.t 4) (.seq (.region false [oP 5 (.faddr 0 (.t 1)),
 oP 6 (.load true 3 (.t 5)),
 oP 7 (.call (.f 91) [(.t 6)]),
 mV 8 7,
 gT 9 8 (.faddr 3 (.t 1)),
 gT 10 8 (.load true 3 (.t 9)),
 gT 11 8 (.call (.f 91) [(.t 10)]),
 oP 12 (.pick (.t 8) (.t 11) (.c (.bool false))),
 mV 2 12]) .ret) .skip)) (.seq (.region false [oP 13 (.faddr 0 (.t 1)),
 oP 14 (.load true 3 (.t 13)),
 oP 15 (.call (.f 12) [(.t 14)]),
 mV 16 15,
 gT 17 16 (.faddr 3 (.t 1)),
 gT 18 16 (.load true 3 (.t 17)),
 gT 19 16 (.call (.f 12) [(.t 18)]),
 oP 20 (.pick (.t 16) (.t 19) (.c (.bool false))),
 mV 21 20,
 gT 22 21 (.faddr 0 (.t 1)),
 gT 23 21 (.load true 3 (.t 22)),
 gT 24 21 (.faddr 3 (.t 1)),
 gT 25 21 (.load true 3 (.t 24)),
 gT 26 21 (.call (.f 18) [(.t 23), (.t 25)]),
 gT 27 21 (.bin .num .leq (.t 26) (.c (.int .i64 0))),
 oP 28 (.pick (.t 21) (.t 27) (.c (.bool false))),
 mV 2 28]) .ret))),
 false, false⟩

/- fpref05_Meet -/
@[simp] def c_fpref05_Meet : AFn := ⟨[(.cell 4 true 7), (.tmp 5)],
 (.seq (.region false [oP 2 (.box 7 (.t 0)),
 oP 3 (.box 7 (.t 1)),
 oP 4 (.new 7 (.agg [(.bool false), .nil, (.int .i64 0), (.bool false), .nil, (.int .i64 0), (.bool false)])),
 oP 5 (.mv (.c (.bool false)))]) (.seq (.seq (.region false [oP 7 (.load true 7 (.t 2)),
 oP 8 (.call (.f 70) [(.t 7)]),
 oP 9 (.un .not (.t 8)),
 mV 10 9,
 gF 11 10 (.load true 7 (.t 3)),
 gF 12 10 (.call (.f 70) [(.t 11)]),
 gF 13 10 (.un .not (.t 12)),
 oP 14 (.pick (.t 10) (.c (.bool true)) (.t 13))]) (.cond (.t 14) (.seq (.region false [oP 15 (.build [(.bool false), .nil, (.int .i64 0), (.bool false), .nil, (.int .i64 0), (.bool false)] []),
 ⟨none, .store 7 (.t 4) (.t 15), none, false⟩,
 oP 5 (.mv (.c (.bool false)))]) .ret) .skip)) (.seq (.seq (.region false [oP 16 (.faddr 6 (.t 2)),
 oP 17 (.load false 1 (.t 16))]) (.cond (.t 17) (.seq (.region false [oP 18 (.load true 7 (.t 3)),
 ⟨none, .store 7 (.t 4) (.t 18), none, false⟩,
 oP 5 (.mv (.c (.bool true)))]) .ret) .skip)) (.seq (.seq (.region false [oP 19 (.faddr 6 (.t 3)),
 oP 20 (.load false 1 (.t 19))]) (.cond (.t 20) (.seq (.region false [oP 21 (.load true 7 (.t 2)),
 ⟨none, .store 7 (.t 4) (.t 21), none, false⟩,
 oP 5 (.mv (.c (.bool true)))]) .ret) .skip)) (.seq (.region true [oP 22 (.faddr 0 (.t 2)),
 oP 23 (.load true 3 (.t 22)),
 oP 24 (.faddr 0 (.t 3)),
 oP 25 (.load true 3 (.t 24)),
 oP 26 (.call (.f 92) [(.t 23), (.t 25)]),
 oP 27 (.faddr 3 (.t 2)),
 oP 28 (.load true 3 (.t 27)),
 oP 29 (.faddr 3 (.t 3)),
 oP 30 (.load true 3 (.t 29)),
 oP 31 (.call (.f 93) [(.t 28), (.t 30)]),
 oP 32 (.build [(.bool false), .nil, (.int .i64 0), (.bool false), .nil, (.int .i64 0), (.bool false)] [(0, 3, (.t 26)), (3, 3, (.t 31))]),
 oP 6 (.new 7 (.agg [(.bool false), .nil, (.int .i64 0), (.bool false), .nil, (.int .i64 0), (.bool false)])),
 ⟨none, .store 7 (.t 6) (.t 32), none, true⟩]) (.seq (.seq (.region false [oP 33 (.faddr 0 (.t 6)),
 oP 34 (.load true 3 (.t 33)),
 oP 35 (.faddr 3 (.t 6)),
 oP 36 (.load true 3 (.t 35)),
 oP 37 (.call (.f 18) [(.t 34), (.t 36)]),
 oP 38 (.bin .num .gtr (.t 37) (.c (.int .i64 0)))]) (.cond (.t 38) (.seq (.region false [oP 39 (.build [(.bool false), .nil, (.int .i64 0), (.bool false), .nil, (.int .i64 0), (.bool false)] []),
 ⟨none, .store 7 (.t 4) (.t 39), none, false⟩,
 oP 5 (.mv (.c (.bool false)))]) .ret) .skip)) (.seq (.region false [oP 40 (.load true 7 (.t 6)),
 ⟨none, .store 7 (.t 4) (.t 40), none, false⟩,
 oP 5 (.mv (.c (.bool true)))]) .ret))))))),
 false, false⟩

end Go.Abs
/- MADE BY A PROGRAM (wip/tools/dump.sh, mkcode.py): the abstract code of the functions that this seat reaches. -/
namespace Go.Abs

/- fpref37_Hull -/
def c_fpref37_Hull_l0 : AC := (.seq (.seq (.region false [mV 7 6,
 mV 8 0,
 oP 9 (.len (.t 8)),
 oP 10 (.bin .num .lss (.t 7) (.t 9))]) (.cond (.t 10) .skip (.exit 0))) (.seq (.block 1 (.region true [mV 13 5,
 mV 14 0,
 mV 15 6,
 oP 16 (.iaddr 7 (.t 14) (.t 15)),
 oP 17 (.load true 7 (.t 16)),
 mV 18 1,
 mV 19 6,
 oP 20 (.iaddr 7 (.t 18) (.t 19)),
 oP 21 (.load true 7 (.t 20)),
 oS 22 (.call (.f 95) [(.t 17), (.t 21)]),
 oS 23 (.bslice 7 1 (.agg [(.bool false), .nil, (.int .i64 0), (.bool false), .nil, (.int .i64 0), (.bool false)]) [(0, (.t 22))]),
 oS 24 (.append 7 88 (.t 13) (.t 23)),
 mV 5 24])) (.region false [mV 11 6,
 oP 12 (.bin .num .add (.t 11) (.c (.int .i64 1))),
 mV 6 12])))
@[simp] def c_fpref37_Hull : AFn := ⟨[(.tmp 4)],
 (.seq (.region false [oP 4 (.mv (.c .nil))]) (.seq (.region false [oP 5 (.mv (.c .nil))]) (.seq (.seq (.region false [oP 6 (.mv (.c (.int .i64 0)))]) (.block 0 (.loop c_fpref37_Hull_l0))) (.seq (.region false [mV 25 5,
 mV 4 25]) .ret)))),
 false, false⟩

/- fpref02_Int -/
@[simp] def c_fpref02_Int : AFn := ⟨[(.cell 2 true 3)],
 (.seq (.region false [oP 2 (.new 3 (.agg [(.bool false), .nil, (.int .i64 0)]))]) (.seq (.region false [mV 4 0,
 oP 5 (.conv .u64 (.t 4)),
 mV 3 5]) (.seq (.seq (.region false [mV 6 0,
 oP 7 (.bin .num .lss (.t 6) (.c (.int .i64 0)))]) (.cond (.t 7) (.region false [mV 8 3,
 oP 9 (.bin .num .sub (.c (.int .u64 0)) (.t 8)),
 mV 3 9]) .skip)) (.seq (.region false [mV 10 0,
 oP 11 (.bin .num .lss (.t 10) (.c (.int .i64 0))),
 mV 12 3,
 oP 13 (.bin .num .and (.t 12) (.c (.int .u64 4294967295))),
 oP 14 (.conv .u32 (.t 13)),
 mV 15 3,
 oP 16 (.bin .num .shr (.t 15) (.c (.int .u64 32))),
 oP 17 (.conv .u32 (.t 16)),
 oP 18 (.bslice 1 2 (.int .u32 0) [(0, (.t 14)), (1, (.t 17))]),
 oP 19 (.call (.f 85) [(.t 11), (.t 18), (.c (.int .i64 0))]),
 ⟨none, .store 3 (.t 2) (.t 19), none, false⟩]) .ret)))),
 false, false⟩

/- slices_IndexFunc_Pipe -/
def c_slices_IndexFunc_Pipe_l0 : AC := (.seq (.region false [oP 9 (.bin .num .lss (.t 8) (.t 7))]) (.seq (.cond (.t 9) .skip (.exit 0)) (.seq (.block 1 (.seq (.region false [mV 10 8,
 mV 5 10]) (.seq (.region false [mV 11 1,
 mV 12 0,
 mV 13 5,
 oP 14 (.iaddr 2 (.t 12) (.t 13)),
 oP 15 (.load true 2 (.t 14)),
 oP 16 (.call (.t 11) [(.t 15)])]) (.cond (.t 16) (.seq (.region false [mV 17 5,
 mV 4 17]) .ret) .skip)))) (.region false [oP 18 (.bin .num .add (.t 8) (.c (.int .i64 1))),
 mV 8 18]))))
@[simp] def c_slices_IndexFunc_Pipe : AFn := ⟨[(.tmp 4)],
 (.seq (.region false [oP 4 (.mv (.c (.int .i64 0)))]) (.seq (.seq (.region false [mV 6 0,
 oP 7 (.len (.t 6)),
 oP 8 (.mv (.c (.int .i64 0)))]) (.block 0 (.loop c_slices_IndexFunc_Pipe_l0))) (.seq (.region false [oP 4 (.mv (.c (.int .i64 (-1))))]) .ret))),
 false, false⟩

/- box_Valid_1 -/
@[simp] def c_box_Valid_1 : AFn := ⟨[(.tmp 2)],
 (.seq (.region false [oP 1 (.box 7 (.t 0)),
 oP 2 (.mv (.c (.bool false)))]) (.seq (.region false [oP 3 (.faddr 6 (.t 1)),
 oP 4 (.load false 1 (.t 3)),
 mV 5 4,
 gF 6 5 (.load true 7 (.t 1)),
 gF 7 5 (.call (.f 77) [(.t 6)]),
 gF 8 5 (.un .not (.t 7)),
 oP 9 (.pick (.t 5) (.c (.bool true)) (.t 8)),
 mV 2 9]) .ret)),
 false, false⟩

/- interval_Valid -/
@[simp] def c_interval_Valid : AFn := ⟨[(.tmp 2)],
 (.seq (.region false [oP 1 (.box 7 (.t 0)),
 oP 2 (.mv (.c (.bool false)))]) (.seq (.seq (.region false [oP 4 (.faddr 6 (.t 1)),
 oP 5 (.load false 1 (.t 4))]) (.cond (.t 5) (.seq (.region false [oP 3 (.mv (.f 96))]) (.seq (.region false [mV 6 3,
 oP 7 (.faddr 0 (.t 1)),
 oP 8 (.load true 3 (.t 7)),
 oP 9 (.call (.t 6) [(.t 8)]),
 mV 10 9,
 gT 11 10 (.mv (.t 3)),
 gT 12 10 (.faddr 3 (.t 1)),
 gT 13 10 (.load true 3 (.t 12)),
 gT 14 10 (.call (.t 11) [(.t 13)]),
 oP 15 (.pick (.t 10) (.t 14) (.c (.bool false))),
 mV 2 15]) .ret)) .skip)) (.seq (.region false [oP 16 (.faddr 0 (.t 1)),
 oP 17 (.load true 3 (.t 16)),
 oP 18 (.call (.f 51) [(.t 17)]),
 mV 19 18,
 gT 20 19 (.faddr 3 (.t 1)),
 gT 21 19 (.load true 3 (.t 20)),
 gT 22 19 (.call (.f 51) [(.t 21)]),
 oP 23 (.pick (.t 19) (.t 22) (.c (.bool false))),
 mV 24 23,
 gT 25 24 (.faddr 0 (.t 1)),
 gT 26 24 (.load true 3 (.t 25)),
 gT 27 24 (.faddr 3 (.t 1)),
 gT 28 24 (.load true 3 (.t 27)),
 gT 29 24 (.call (.f 52) [(.t 26), (.t 28)]),
 gT 30 24 (.bin .num .leq (.t 29) (.c (.int .i64 0))),
 oP 31 (.pick (.t 24) (.t 30) (.c (.bool false))),
 mV 2 31]) .ret))),
 false, false⟩

/- dyadic_inRange -/
@[simp] def c_dyadic_inRange : AFn := ⟨[(.tmp 2)],
 (.seq (.region false [oP 1 (.box 3 (.t 0)),
 oP 2 (.mv (.c (.bool false)))]) (.seq (.region false [oP 4 (.faddr 1 (.t 1)),
 oP 5 (.load false 1 (.t 4)),
 oP 6 (.call (.f 97) [(.t 5)]),
 mV 3 6]) (.seq (.region false [mV 7 3,
 oP 8 (.bin .num .eql (.t 7) (.c (.int .i64 0))),
 mV 9 8,
 gF 10 9 (.mv (.t 3)),
 gF 11 9 (.bin .num .leq (.t 10) (.c (.int .i64 4096))),
 gF 12 9 (.mv (.t 11)),
 gT 13 12 (.faddr 2 (.t 1)),
 gT 14 12 (.load false 1 (.t 13)),
 gT 15 12 (.bin .num .geq (.t 14) (.c (.int .i64 (-16384)))),
 gF 16 9 (.pick (.t 12) (.t 15) (.c (.bool false))),
 gF 17 9 (.mv (.t 16)),
 gT 18 17 (.faddr 2 (.t 1)),
 gT 19 17 (.load false 1 (.t 18)),
 gT 20 17 (.bin .num .leq (.t 19) (.c (.int .i64 16384))),
 gF 21 9 (.pick (.t 17) (.t 20) (.c (.bool false))),
 gF 22 9 (.mv (.t 21)),
 gT 23 22 (.mv (.t 3)),
 gT 24 22 (.faddr 2 (.t 1)),
 gT 25 22 (.load false 1 (.t 24)),
 gT 26 22 (.bin .num .add (.t 23) (.t 25)),
 gT 27 22 (.bin .num .leq (.t 26) (.c (.int .i64 16384))),
 gF 28 9 (.pick (.t 22) (.t 27) (.c (.bool false))),
 oP 29 (.pick (.t 9) (.c (.bool true)) (.t 28)),
 mV 2 29]) .ret))),
 false, false⟩

/- dyadic_Sign -/
@[simp] def c_dyadic_Sign : AFn := ⟨[(.tmp 2)],
 (.seq (.region false [oP 1 (.box 3 (.t 0)),
 oP 2 (.mv (.c (.int .i64 0)))]) (.seq (.block 0 (.seq (.region false [oP 4 (.load true 3 (.t 1)),
 oP 5 (.call (.f 51) [(.t 4)]),
 oP 6 (.un .not (.t 5)),
 mV 7 6,
 gF 8 7 (.faddr 1 (.t 1)),
 gF 9 7 (.load false 1 (.t 8)),
 gF 10 7 (.len (.t 9)),
 gF 11 7 (.bin .num .eql (.t 10) (.c (.int .i64 0))),
 oP 12 (.pick (.t 7) (.c (.bool true)) (.t 11)),
 mV 3 12]) (.cond (.t 3) (.seq (.region false [oP 2 (.mv (.c (.int .i64 0)))]) .ret) (.seq (.region false [oP 14 (.faddr 0 (.t 1)),
 oP 15 (.load false 1 (.t 14)),
 mV 13 15]) (.cond (.t 13) (.seq (.region false [oP 2 (.mv (.c (.int .i64 (-1))))]) .ret) .skip))))) (.seq (.region false [oP 2 (.mv (.c (.int .i64 1)))]) .ret))),
 false, false⟩

/- dyadic_compare -/
@[simp] def c_dyadic_compare : AFn := ⟨[(.tmp 4)],
 (.seq (.region false [oP 2 (.box 3 (.t 0)),
 oP 3 (.box 3 (.t 1)),
 oP 4 (.mv (.c (.int .i64 0)))]) (.seq (.region true [oP 8 (.load true 3 (.t 2)),
 oP 9 (.call (.f 98) [(.t 8)]),
 oP 10 (.load true 3 (.t 3)),
 oS 11 (.call (.f 98) [(.t 10)]),
 mV 5 9,
 mV 6 11]) (.seq (.block 0 (.seq (.region false [mV 13 5,
 mV 14 6,
 oP 15 (.bin .num .lss (.t 13) (.t 14)),
 mV 12 15]) (.cond (.t 12) (.seq (.region false [oP 4 (.mv (.c (.int .i64 (-1))))]) .ret) (.seq (.region false [mV 17 5,
 mV 18 6,
 oP 19 (.bin .num .gtr (.t 17) (.t 18)),
 mV 16 19]) (.cond (.t 16) (.seq (.region false [oP 4 (.mv (.c (.int .i64 1)))]) .ret) .skip))))) (.seq (.region false [oP 20 (.faddr 2 (.t 2)),
 oP 21 (.load false 1 (.t 20)),
 oP 22 (.faddr 2 (.t 3)),
 oP 23 (.load false 1 (.t 22)),
 oP 24 (.min (.t 21) (.t 23)),
 mV 7 24]) (.seq (.region true [oP 25 (.faddr 1 (.t 2)),
 oP 26 (.load false 1 (.t 25)),
 oP 27 (.faddr 2 (.t 2)),
 oP 28 (.load false 1 (.t 27)),
 mV 29 7,
 oP 30 (.bin .num .sub (.t 28) (.t 29)),
 oP 31 (.call (.f 100) [(.t 26), (.t 30)]),
 oP 32 (.faddr 1 (.t 3)),
 oP 33 (.load false 1 (.t 32)),
 oP 34 (.faddr 2 (.t 3)),
 oP 35 (.load false 1 (.t 34)),
 mV 36 7,
 oP 37 (.bin .num .sub (.t 35) (.t 36)),
 oS 38 (.call (.f 100) [(.t 33), (.t 37)]),
 oS 39 (.call (.f 99) [(.t 31), (.t 38)]),
 mV 4 39]) .ret))))),
 false, false⟩

/- box_two -/
@[simp] def c_box_two : AFn := ⟨[(.tmp 4)],
 (.seq (.region false [oP 4 (.mv (.c (.bool false)))]) (.seq (.region false [mV 5 0,
 oP 6 (.call (.f 50) [(.t 5)]),
 mV 7 6,
 gT 8 7 (.mv (.t 1)),
 gT 9 7 (.call (.f 50) [(.t 8)]),
 oP 10 (.pick (.t 7) (.t 9) (.c (.bool false))),
 mV 11 10,
 gT 12 11 (.mv (.t 0)),
 gT 13 11 (.len (.t 12)),
 gT 14 11 (.mv (.t 1)),
 gT 15 11 (.len (.t 14)),
 gT 16 11 (.bin .num .eql (.t 13) (.t 15)),
 oP 17 (.pick (.t 11) (.t 16) (.c (.bool false))),
 mV 4 17]) .ret)),
 false, false⟩

/- slices_EqualFunc_Interval -/
def c_slices_EqualFunc_Interval_l0 : AC := (.seq (.region false [oP 18 (.bin .num .lss (.t 17) (.t 16))]) (.seq (.cond (.t 18) .skip (.exit 0)) (.seq (.block 1 (.seq (.region false [mV 19 17,
 oP 20 (.iaddr 7 (.t 15) (.t 17)),
 oP 21 (.load true 7 (.t 20)),
 oP 8 (.new 7 (.agg [(.bool false), .nil, (.int .i64 0), (.bool false), .nil, (.int .i64 0), (.bool false)])),
 mV 7 19,
 ⟨none, .store 7 (.t 8) (.t 21), none, false⟩]) (.seq (.region false [mV 22 1,
 mV 23 7,
 oP 24 (.iaddr 7 (.t 22) (.t 23)),
 oP 25 (.load true 7 (.t 24)),
 oP 9 (.new 7 (.agg [(.bool false), .nil, (.int .i64 0), (.bool false), .nil, (.int .i64 0), (.bool false)])),
 ⟨none, .store 7 (.t 9) (.t 25), none, false⟩]) (.seq (.region false [mV 26 2,
 oP 27 (.load true 7 (.t 8)),
 oP 28 (.load true 7 (.t 9)),
 oP 29 (.call (.t 26) [(.t 27), (.t 28)]),
 oP 30 (.un .not (.t 29))]) (.cond (.t 30) (.seq (.region false [oP 6 (.mv (.c (.bool false)))]) .ret) .skip))))) (.region false [oP 31 (.bin .num .add (.t 17) (.c (.int .i64 1))),
 mV 17 31]))))
@[simp] def c_slices_EqualFunc_Interval : AFn := ⟨[(.tmp 6)],
 (.seq (.region false [oP 6 (.mv (.c (.bool false)))]) (.seq (.seq (.region false [mV 10 0,
 oP 11 (.len (.t 10)),
 mV 12 1,
 oP 13 (.len (.t 12)),
 oP 14 (.bin .num .neq (.t 11) (.t 13))]) (.cond (.t 14) (.seq (.region false [oP 6 (.mv (.c (.bool false)))]) .ret) .skip)) (.seq (.seq (.region false [mV 15 0,
 oP 16 (.len (.t 15)),
 oP 17 (.mv (.c (.int .i64 0)))]) (.block 0 (.loop c_slices_EqualFunc_Interval_l0))) (.seq (.region false [oP 6 (.mv (.c (.bool true)))]) .ret)))),
 false, false⟩

/- interval_Inside -/
@[simp] def c_interval_Inside : AFn := ⟨[(.tmp 4)],
 (.seq (.region false [oP 2 (.box 7 (.t 0)),
 oP 3 (.box 7 (.t 1)),
 oP 4 (.mv (.c (.bool false)))]) (.seq (.seq (.region false [oP 5 (.load true 7 (.t 2)),
 oP 6 (.call (.f 77) [(.t 5)]),
 oP 7 (.un .not (.t 6)),
 mV 8 7,
 gF 9 8 (.load true 7 (.t 3)),
 gF 10 8 (.call (.f 77) [(.t 9)]),
 gF 11 8 (.un .not (.t 10)),
 oP 12 (.pick (.t 8) (.c (.bool true)) (.t 11))]) (.cond (.t 12) (.seq (.region false [oP 4 (.mv (.c (.bool false)))]) .ret) .skip)) (.seq (.region false [oP 13 (.faddr 6 (.t 3)),
 oP 14 (.load false 1 (.t 13)),
 mV 15 14,
 gF 16 15 (.faddr 6 (.t 2)),
 gF 17 15 (.load false 1 (.t 16)),
 gF 18 15 (.un .not (.t 17)),
 gF 19 15 (.mv (.t 18)),
 gT 20 19 (.faddr 0 (.t 3)),
 gT 21 19 (.load true 3 (.t 20)),
 gT 22 19 (.faddr 0 (.t 2)),
 gT 23 19 (.load true 3 (.t 22)),
 gT 24 19 (.call (.f 52) [(.t 21), (.t 23)]),
 gT 25 19 (.bin .num .leq (.t 24) (.c (.int .i64 0))),
 gF 26 15 (.pick (.t 19) (.t 25) (.c (.bool false))),
 gF 27 15 (.mv (.t 26)),
 gT 28 27 (.faddr 3 (.t 2)),
 gT 29 27 (.load true 3 (.t 28)),
 gT 30 27 (.faddr 3 (.t 3)),
 gT 31 27 (.load true 3 (.t 30)),
 gT 32 27 (.call (.f 52) [(.t 29), (.t 31)]),
 gT 33 27 (.bin .num .leq (.t 32) (.c (.int .i64 0))),
 gF 34 15 (.pick (.t 27) (.t 33) (.c (.bool false))),
 oP 35 (.pick (.t 15) (.c (.bool true)) (.t 34)),
 mV 4 35]) .ret))),
 false, false⟩

/- fpref02_left -/
def c_fpref02_left_l0 : AC := (.seq (.seq (.region false [mV 12 7,
 mV 13 0,
 oP 14 (.len (.t 13)),
 oP 15 (.bin .num .lss (.t 12) (.t 14))]) (.cond (.t 15) .skip (.exit 0))) (.seq (.block 1 (.seq (.region false [mV 18 0,
 mV 19 7,
 oP 20 (.iaddr 1 (.t 18) (.t 19)),
 oP 21 (.load false 1 (.t 20)),
 oP 22 (.conv .u64 (.t 21)),
 mV 23 1,
 oP 24 (.bin .num .rem (.t 23) (.c (.int .i64 32))),
 oP 25 (.conv .u64 (.t 24)),
 oP 26 (.bin .num .shl (.t 22) (.t 25)),
 mV 27 6,
 oP 28 (.bin .num .or (.t 26) (.t 27)),
 mV 8 28]) (.seq (.region false [mV 29 5,
 mV 30 8,
 oP 31 (.bin .num .and (.t 30) (.c (.int .u64 4294967295))),
 oP 32 (.conv .u32 (.t 31)),
 oP 33 (.bslice 1 1 (.int .u32 0) [(0, (.t 32))]),
 oP 34 (.append 1 4 (.t 29) (.t 33)),
 mV 5 34]) (.region false [mV 35 8,
 oP 36 (.bin .num .shr (.t 35) (.c (.int .u64 32))),
 mV 6 36])))) (.region false [mV 16 7,
 oP 17 (.bin .num .add (.t 16) (.c (.int .i64 1))),
 mV 7 17])))
@[simp] def c_fpref02_left : AFn := ⟨[(.tmp 4)],
 (.seq (.region false [oP 4 (.mv (.c .nil))]) (.seq (.region false [mV 9 1,
 oP 10 (.bin .num .quo (.t 9) (.c (.int .i64 32))),
 oP 11 (.mkslice 1 4 (.int .u32 0) (.t 10) (.t 10)),
 mV 5 11]) (.seq (.region false [oP 6 (.mv (.c (.int .u64 0)))]) (.seq (.seq (.region false [oP 7 (.mv (.c (.int .i64 0)))]) (.block 0 (.loop c_fpref02_left_l0))) (.seq (.region false [mV 37 5,
 mV 38 6,
 oP 39 (.conv .u32 (.t 38)),
 oP 40 (.bslice 1 1 (.int .u32 0) [(0, (.t 39))]),
 oP 41 (.append 1 4 (.t 37) (.t 40)),
 oP 42 (.call (.f 101) [(.t 41)]),
 mV 4 42]) .ret))))),
 false, false⟩

/- fpref02_Of -/
@[simp] def c_fpref02_Of : AFn := ⟨[(.cell 6 true 3)],
 (.seq (.region false [oP 6 (.new 3 (.agg [(.bool false), .nil, (.int .i64 0)]))]) (.seq (.region false [mV 8 1,
 oP 9 (.call (.f 101) [(.t 8)]),
 mV 1 9]) (.seq (.seq (.region false [mV 10 1,
 oP 11 (.len (.t 10)),
 oP 12 (.bin .num .eql (.t 11) (.c (.int .i64 0)))]) (.cond (.t 12) (.seq (.region false [oP 13 (.build [(.bool false), .nil, (.int .i64 0)] []),
 ⟨none, .store 3 (.t 6) (.t 13), none, false⟩]) .ret) .skip)) (.seq (.region false [mV 14 1,
 oP 15 (.call (.f 102) [(.t 14)]),
 mV 7 15]) (.seq (.region false [mV 16 0,
 mV 17 1,
 mV 18 7,
 oP 19 (.call (.f 103) [(.t 17), (.t 18)]),
 mV 20 2,
 mV 21 7,
 oP 22 (.bin .num .add (.t 20) (.t 21)),
 oP 23 (.build [(.bool false), .nil, (.int .i64 0)] [(0, 1, (.t 16)), (1, 1, (.t 19)), (2, 1, (.t 22))]),
 ⟨none, .store 3 (.t 6) (.t 23), none, false⟩]) .ret))))),
 false, false⟩

/- fpref02_plus -/
def c_fpref02_plus_l0 : AC := (.seq (.seq (.region false [mV 9 7,
 mV 10 0,
 oP 11 (.len (.t 10)),
 oP 12 (.bin .num .lss (.t 9) (.t 11)),
 mV 13 12,
 gF 14 13 (.mv (.t 7)),
 gF 15 13 (.mv (.t 1)),
 gF 16 13 (.len (.t 15)),
 gF 17 13 (.bin .num .lss (.t 14) (.t 16)),
 oP 18 (.pick (.t 13) (.c (.bool true)) (.t 17))]) (.cond (.t 18) .skip (.exit 0))) (.seq (.block 1 (.seq (.region false [mV 21 6,
 mV 8 21]) (.seq (.seq (.region false [mV 22 7,
 mV 23 0,
 oP 24 (.len (.t 23)),
 oP 25 (.bin .num .lss (.t 22) (.t 24))]) (.cond (.t 25) (.region false [mV 26 8,
 mV 27 0,
 mV 28 7,
 oP 29 (.iaddr 1 (.t 27) (.t 28)),
 oP 30 (.load false 1 (.t 29)),
 oP 31 (.conv .u64 (.t 30)),
 oP 32 (.bin .num .add (.t 26) (.t 31)),
 mV 8 32]) .skip)) (.seq (.seq (.region false [mV 33 7,
 mV 34 1,
 oP 35 (.len (.t 34)),
 oP 36 (.bin .num .lss (.t 33) (.t 35))]) (.cond (.t 36) (.region false [mV 37 8,
 mV 38 1,
 mV 39 7,
 oP 40 (.iaddr 1 (.t 38) (.t 39)),
 oP 41 (.load false 1 (.t 40)),
 oP 42 (.conv .u64 (.t 41)),
 oP 43 (.bin .num .add (.t 37) (.t 42)),
 mV 8 43]) .skip)) (.seq (.region false [mV 44 5,
 mV 45 8,
 oP 46 (.bin .num .and (.t 45) (.c (.int .u64 4294967295))),
 oP 47 (.conv .u32 (.t 46)),
 oP 48 (.bslice 1 1 (.int .u32 0) [(0, (.t 47))]),
 oP 49 (.append 1 4 (.t 44) (.t 48)),
 mV 5 49]) (.region false [mV 50 8,
 oP 51 (.bin .num .shr (.t 50) (.c (.int .u64 32))),
 mV 6 51])))))) (.region false [mV 19 7,
 oP 20 (.bin .num .add (.t 19) (.c (.int .i64 1))),
 mV 7 20])))
@[simp] def c_fpref02_plus : AFn := ⟨[(.tmp 4)],
 (.seq (.region false [oP 4 (.mv (.c .nil))]) (.seq (.region false [oP 5 (.mv (.c .nil))]) (.seq (.region false [oP 6 (.mv (.c (.int .u64 0)))]) (.seq (.seq (.region false [oP 7 (.mv (.c (.int .i64 0)))]) (.block 0 (.loop c_fpref02_plus_l0))) (.seq (.region false [mV 52 5,
 mV 53 6,
 oP 54 (.conv .u32 (.t 53)),
 oP 55 (.bslice 1 1 (.int .u32 0) [(0, (.t 54))]),
 oP 56 (.append 1 4 (.t 52) (.t 55)),
 oP 57 (.call (.f 101) [(.t 56)]),
 mV 4 57]) .ret))))),
 false, false⟩

/- fpref02_minus -/
def c_fpref02_minus_l0 : AC := (.seq (.seq (.region false [mV 10 7,
 mV 11 0,
 oP 12 (.len (.t 11)),
 oP 13 (.bin .num .lss (.t 10) (.t 12))]) (.cond (.t 13) .skip (.exit 0))) (.seq (.block 1 (.seq (.region false [mV 16 6,
 mV 8 16]) (.seq (.seq (.region false [mV 17 7,
 mV 18 1,
 oP 19 (.len (.t 18)),
 oP 20 (.bin .num .lss (.t 17) (.t 19))]) (.cond (.t 20) (.region false [mV 21 8,
 mV 22 1,
 mV 23 7,
 oP 24 (.iaddr 1 (.t 22) (.t 23)),
 oP 25 (.load false 1 (.t 24)),
 oP 26 (.conv .u64 (.t 25)),
 oP 27 (.bin .num .add (.t 21) (.t 26)),
 mV 8 27]) .skip)) (.seq (.region false [mV 28 0,
 mV 29 7,
 oP 30 (.iaddr 1 (.t 28) (.t 29)),
 oP 31 (.load false 1 (.t 30)),
 oP 32 (.conv .u64 (.t 31)),
 oP 33 (.bin .num .add (.t 32) (.c (.int .u64 4294967296))),
 mV 34 8,
 oP 35 (.bin .num .sub (.t 33) (.t 34)),
 mV 9 35]) (.seq (.region false [mV 36 5,
 mV 37 9,
 oP 38 (.bin .num .and (.t 37) (.c (.int .u64 4294967295))),
 oP 39 (.conv .u32 (.t 38)),
 oP 40 (.bslice 1 1 (.int .u32 0) [(0, (.t 39))]),
 oP 41 (.append 1 4 (.t 36) (.t 40)),
 mV 5 41]) (.region false [mV 42 9,
 oP 43 (.bin .num .shr (.t 42) (.c (.int .u64 32))),
 oP 44 (.bin .num .sub (.c (.int .u64 1)) (.t 43)),
 mV 6 44])))))) (.region false [mV 14 7,
 oP 15 (.bin .num .add (.t 14) (.c (.int .i64 1))),
 mV 7 15])))
@[simp] def c_fpref02_minus : AFn := ⟨[(.tmp 4)],
 (.seq (.region false [oP 4 (.mv (.c .nil))]) (.seq (.region false [oP 5 (.mv (.c .nil))]) (.seq (.region false [oP 6 (.mv (.c (.int .u64 0)))]) (.seq (.seq (.region false [oP 7 (.mv (.c (.int .i64 0)))]) (.block 0 (.loop c_fpref02_minus_l0))) (.seq (.region false [mV 45 5,
 oP 46 (.call (.f 101) [(.t 45)]),
 mV 4 46]) .ret))))),
 false, false⟩

/- pipe_at_1 -/
@[simp] def c_pipe_at_1 : AFn := ⟨[(.tmp 3)],
 (.seq (.region false [oP 2 (.box 8 (.t 0)),
 oP 3 (.mv (.c (.bool false)))]) (.seq (.region false [oP 4 (.faddr 3 (.t 2)),
 oP 5 (.load true 3 (.t 4)),
 oP 6 (.load true 3 (.t 1)),
 oP 7 (.call (.f 46) [(.t 5), (.t 6)]),
 oP 8 (.un .not (.t 7)),
 mV 3 8]) .ret)),
 false, false⟩

/- slices_IndexFunc_Interval -/
def c_slices_IndexFunc_Interval_l0 : AC := (.seq (.region false [oP 9 (.bin .num .lss (.t 8) (.t 7))]) (.seq (.cond (.t 9) .skip (.exit 0)) (.seq (.block 1 (.seq (.region false [mV 10 8,
 mV 5 10]) (.seq (.region false [mV 11 1,
 mV 12 0,
 mV 13 5,
 oP 14 (.iaddr 7 (.t 12) (.t 13)),
 oP 15 (.load true 7 (.t 14)),
 oP 16 (.call (.t 11) [(.t 15)])]) (.cond (.t 16) (.seq (.region false [mV 17 5,
 mV 4 17]) .ret) .skip)))) (.region false [oP 18 (.bin .num .add (.t 8) (.c (.int .i64 1))),
 mV 8 18]))))
@[simp] def c_slices_IndexFunc_Interval : AFn := ⟨[(.tmp 4)],
 (.seq (.region false [oP 4 (.mv (.c (.int .i64 0)))]) (.seq (.seq (.region false [mV 6 0,
 oP 7 (.len (.t 6)),
 oP 8 (.mv (.c (.int .i64 0)))]) (.block 0 (.loop c_slices_IndexFunc_Interval_l0))) (.seq (.region false [oP 4 (.mv (.c (.int .i64 (-1))))]) .ret))),
 false, false⟩

/- interval_Meet -/
@[simp] def c_interval_Meet : AFn := ⟨[(.cell 4 true 7), (.tmp 5)],
 (.seq (.region false [oP 2 (.box 7 (.t 0)),
 oP 3 (.box 7 (.t 1)),
 oP 4 (.new 7 (.agg [(.bool false), .nil, (.int .i64 0), (.bool false), .nil, (.int .i64 0), (.bool false)])),
 oP 5 (.mv (.c (.bool false)))]) (.seq (.block 0 (.seq (.region false [oP 8 (.load true 7 (.t 2)),
 oP 9 (.call (.f 77) [(.t 8)]),
 oP 10 (.un .not (.t 9)),
 mV 11 10,
 gF 12 11 (.load true 7 (.t 3)),
 gF 13 11 (.call (.f 77) [(.t 12)]),
 gF 14 11 (.un .not (.t 13)),
 oP 15 (.pick (.t 11) (.c (.bool true)) (.t 14)),
 mV 7 15]) (.cond (.t 7) (.seq (.region false [oP 16 (.build [(.bool false), .nil, (.int .i64 0), (.bool false), .nil, (.int .i64 0), (.bool false)] []),
 ⟨none, .store 7 (.t 4) (.t 16), none, false⟩,
 oP 5 (.mv (.c (.bool false)))]) .ret) (.seq (.region false [oP 18 (.faddr 6 (.t 2)),
 oP 19 (.load false 1 (.t 18)),
 mV 17 19]) (.cond (.t 17) (.seq (.region false [oP 20 (.load true 7 (.t 3)),
 ⟨none, .store 7 (.t 4) (.t 20), none, false⟩,
 oP 5 (.mv (.c (.bool true)))]) .ret) (.seq (.region false [oP 22 (.faddr 6 (.t 3)),
 oP 23 (.load false 1 (.t 22)),
 mV 21 23]) (.cond (.t 21) (.seq (.region false [oP 24 (.load true 7 (.t 2)),
 ⟨none, .store 7 (.t 4) (.t 24), none, false⟩,
 oP 5 (.mv (.c (.bool true)))]) .ret) .skip))))))) (.seq (.region true [oP 25 (.faddr 0 (.t 2)),
 oP 26 (.load true 3 (.t 25)),
 oP 27 (.faddr 0 (.t 3)),
 oP 28 (.load true 3 (.t 27)),
 oP 29 (.call (.f 104) [(.t 26), (.t 28)]),
 oP 30 (.faddr 3 (.t 2)),
 oP 31 (.load true 3 (.t 30)),
 oP 32 (.faddr 3 (.t 3)),
 oP 33 (.load true 3 (.t 32)),
 oP 34 (.call (.f 105) [(.t 31), (.t 33)]),
 oP 35 (.build [(.bool false), .nil, (.int .i64 0), (.bool false), .nil, (.int .i64 0), (.bool false)] [(0, 3, (.t 29)), (3, 3, (.t 34))]),
 oP 6 (.new 7 (.agg [(.bool false), .nil, (.int .i64 0), (.bool false), .nil, (.int .i64 0), (.bool false)])),
 ⟨none, .store 7 (.t 6) (.t 35), none, true⟩]) (.seq (.seq (.region false [oP 36 (.faddr 0 (.t 6)),
 oP 37 (.load true 3 (.t 36)),
 oP 38 (.faddr 3 (.t 6)),
 oP 39 (.load true 3 (.t 38)),
 oP 40 (.call (.f 52) [(.t 37), (.t 39)]),
 oP 41 (.bin .num .gtr (.t 40) (.c (.int .i64 0)))]) (.cond (.t 41) (.seq (.region false [oP 42 (.build [(.bool false), .nil, (.int .i64 0), (.bool false), .nil, (.int .i64 0), (.bool false)] []),
 ⟨none, .store 7 (.t 4) (.t 42), none, false⟩,
 oP 5 (.mv (.c (.bool false)))]) .ret) .skip)) (.seq (.region false [oP 43 (.load true 7 (.t 6)),
 ⟨none, .store 7 (.t 4) (.t 43), none, false⟩,
 oP 5 (.mv (.c (.bool true)))]) .ret))))),
 false, false⟩

/- fpref05_zero -/
@[simp] def c_fpref05_zero : AFn := ⟨[(.tmp 2)],
 (.seq (.region false [oP 1 (.box 3 (.t 0)),
 oP 2 (.mv (.c (.bool false)))]) (.seq (.region false [oP 3 (.faddr 0 (.t 1)),
 oP 4 (.load false 1 (.t 3)),
 oP 5 (.un .not (.t 4)),
 mV 6 5,
 gT 7 6 (.faddr 1 (.t 1)),
 gT 8 6 (.load false 1 (.t 7)),
 gT 9 6 (.len (.t 8)),
 gT 10 6 (.bin .num .eql (.t 9) (.c (.int .i64 0))),
 oP 11 (.pick (.t 6) (.t 10) (.c (.bool false))),
 mV 12 11,
 gT 13 12 (.faddr 2 (.t 1)),
 gT 14 12 (.load false 1 (.t 13)),
 gT 15 12 (.bin .num .eql (.t 14) (.c (.int .i64 0))),
 oP 16 (.pick (.t 12) (.t 15) (.c (.bool false))),
 mV 2 16]) .ret)),
 false, false⟩

/- fpref05_most -/
@[simp] def c_fpref05_most : AFn := ⟨[(.cell 4 true 3)],
 (.seq (.region false [oP 2 (.box 3 (.t 0)),
 oP 3 (.box 3 (.t 1)),
 oP 4 (.new 3 (.agg [(.bool false), .nil, (.int .i64 0)]))]) (.seq (.seq (.region false [oP 5 (.load true 3 (.t 2)),
 oP 6 (.load true 3 (.t 3)),
 oP 7 (.call (.f 18) [(.t 5), (.t 6)]),
 oP 8 (.bin .num .geq (.t 7) (.c (.int .i64 0)))]) (.cond (.t 8) (.seq (.region false [oP 9 (.load true 3 (.t 2)),
 ⟨none, .store 3 (.t 4) (.t 9), none, false⟩]) .ret) .skip)) (.seq (.region false [oP 10 (.load true 3 (.t 3)),
 ⟨none, .store 3 (.t 4) (.t 10), none, false⟩]) .ret))),
 false, false⟩

/- fpref05_least -/
@[simp] def c_fpref05_least : AFn := ⟨[(.cell 4 true 3)],
 (.seq (.region false [oP 2 (.box 3 (.t 0)),
 oP 3 (.box 3 (.t 1)),
 oP 4 (.new 3 (.agg [(.bool false), .nil, (.int .i64 0)]))]) (.seq (.seq (.region false [oP 5 (.load true 3 (.t 2)),
 oP 6 (.load true 3 (.t 3)),
 oP 7 (.call (.f 18) [(.t 5), (.t 6)]),
 oP 8 (.bin .num .leq (.t 7) (.c (.int .i64 0)))]) (.cond (.t 8) (.seq (.region false [oP 9 (.load true 3 (.t 2)),
 ⟨none, .store 3 (.t 4) (.t 9), none, false⟩]) .ret) .skip)) (.seq (.region false [oP 10 (.load true 3 (.t 3)),
 ⟨none, .store 3 (.t 4) (.t 10), none, false⟩]) .ret))),
 false, false⟩

/- fpref05_Hull -/
@[simp] def c_fpref05_Hull : AFn := ⟨[(.cell 4 true 7)],
 (.seq (.region false [oP 2 (.box 7 (.t 0)),
 oP 3 (.box 7 (.t 1)),
 oP 4 (.new 7 (.agg [(.bool false), .nil, (.int .i64 0), (.bool false), .nil, (.int .i64 0), (.bool false)]))]) (.seq (.seq (.region false [oP 5 (.load true 7 (.t 2)),
 oP 6 (.call (.f 108) [(.t 5)]),
 oP 7 (.un .not (.t 6)),
 mV 8 7,
 gF 9 8 (.load true 7 (.t 3)),
 gF 10 8 (.call (.f 108) [(.t 9)]),
 gF 11 8 (.un .not (.t 10)),
 oP 12 (.pick (.t 8) (.c (.bool true)) (.t 11))]) (.cond (.t 12) (.seq (.region false [oP 13 (.call (.f 109) []),
 ⟨none, .store 7 (.t 4) (.t 13), none, false⟩]) .ret) .skip)) (.seq (.region true [oP 14 (.faddr 0 (.t 2)),
 oP 15 (.load true 3 (.t 14)),
 oP 16 (.faddr 0 (.t 3)),
 oP 17 (.load true 3 (.t 16)),
 oP 18 (.call (.f 93) [(.t 15), (.t 17)]),
 oP 19 (.faddr 3 (.t 2)),
 oP 20 (.load true 3 (.t 19)),
 oP 21 (.faddr 3 (.t 3)),
 oP 22 (.load true 3 (.t 21)),
 oS 23 (.call (.f 92) [(.t 20), (.t 22)]),
 oP 24 (.build [(.bool false), .nil, (.int .i64 0), (.bool false), .nil, (.int .i64 0), (.bool false)] [(0, 3, (.t 18)), (3, 3, (.t 23))]),
 ⟨none, .store 7 (.t 4) (.t 24), none, true⟩]) .ret))),
 false, false⟩

/- interval_Valid_1 -/
@[simp] def c_interval_Valid_1 : AFn := ⟨[(.tmp 2)],
 (.seq (.region false [oP 1 (.box 3 (.t 0)),
 oP 2 (.mv (.c (.bool false)))]) (.seq (.region false [oP 3 (.faddr 0 (.t 1)),
 oP 4 (.load false 1 (.t 3)),
 oP 5 (.un .not (.t 4)),
 mV 6 5,
 gT 7 6 (.faddr 1 (.t 1)),
 gT 8 6 (.load false 1 (.t 7)),
 gT 9 6 (.len (.t 8)),
 gT 10 6 (.bin .num .eql (.t 9) (.c (.int .i64 0))),
 oP 11 (.pick (.t 6) (.t 10) (.c (.bool false))),
 mV 12 11,
 gT 13 12 (.faddr 2 (.t 1)),
 gT 14 12 (.load false 1 (.t 13)),
 gT 15 12 (.bin .num .eql (.t 14) (.c (.int .i64 0))),
 oP 16 (.pick (.t 12) (.t 15) (.c (.bool false))),
 mV 2 16]) .ret)),
 false, false⟩

/- dyadic_size -/
@[simp] def c_dyadic_size : AFn := ⟨[(.tmp 2)],
 (.seq (.region false [oP 2 (.mv (.c (.int .i64 0)))]) (.seq (.region false [mV 3 0,
 oP 4 (.call (.f 110) [(.t 3)]),
 mV 2 4]) .ret)),
 false, false⟩

/- dyadic_Top -/
@[simp] def c_dyadic_Top : AFn := ⟨[(.tmp 2)],
 (.seq (.region false [oP 1 (.box 3 (.t 0)),
 oP 2 (.mv (.c (.int .i64 0)))]) (.seq (.seq (.region false [oP 3 (.load true 3 (.t 1)),
 oP 4 (.call (.f 51) [(.t 3)]),
 oP 5 (.un .not (.t 4)),
 mV 6 5,
 gF 7 6 (.faddr 1 (.t 1)),
 gF 8 6 (.load false 1 (.t 7)),
 gF 9 6 (.len (.t 8)),
 gF 10 6 (.bin .num .eql (.t 9) (.c (.int .i64 0))),
 oP 11 (.pick (.t 6) (.c (.bool true)) (.t 10))]) (.cond (.t 11) (.seq (.region false [oP 2 (.mv (.c (.int .i64 0)))]) .ret) .skip)) (.seq (.region true [oP 12 (.faddr 1 (.t 1)),
 oP 13 (.load false 1 (.t 12)),
 oP 14 (.call (.f 97) [(.t 13)]),
 oP 15 (.faddr 2 (.t 1)),
 oP 16 (.load false 1 (.t 15)),
 oP 17 (.bin .num .add (.t 14) (.t 16)),
 mV 2 17]) .ret))),
 false, false⟩

/- natural_Cmp -/
def c_natural_Cmp_l0 : AC := (.seq (.seq (.region false [mV 23 5,
 oP 24 (.bin .num .geq (.t 23) (.c (.int .i64 0)))]) (.cond (.t 24) .skip (.exit 0))) (.seq (.block 1 (.block 2 (.seq (.region true [mV 28 0,
 mV 29 5,
 oP 30 (.iaddr 1 (.t 28) (.t 29)),
 oP 31 (.load false 1 (.t 30)),
 mV 32 1,
 mV 33 5,
 oP 34 (.iaddr 1 (.t 32) (.t 33)),
 oP 35 (.load false 1 (.t 34)),
 oP 36 (.bin .num .lss (.t 31) (.t 35)),
 mV 27 36]) (.cond (.t 27) (.seq (.region false [oP 4 (.mv (.c (.int .i64 (-1))))]) .ret) (.seq (.region true [mV 38 0,
 mV 39 5,
 oP 40 (.iaddr 1 (.t 38) (.t 39)),
 oP 41 (.load false 1 (.t 40)),
 mV 42 1,
 mV 43 5,
 oP 44 (.iaddr 1 (.t 42) (.t 43)),
 oP 45 (.load false 1 (.t 44)),
 oP 46 (.bin .num .gtr (.t 41) (.t 45)),
 mV 37 46]) (.cond (.t 37) (.seq (.region false [oP 4 (.mv (.c (.int .i64 1)))]) .ret) .skip)))))) (.region false [mV 25 5,
 oP 26 (.bin .num .sub (.t 25) (.c (.int .i64 1))),
 mV 5 26])))
@[simp] def c_natural_Cmp : AFn := ⟨[(.tmp 4)],
 (.seq (.region false [oP 4 (.mv (.c (.int .i64 0)))]) (.seq (.region false [mV 6 0,
 oP 7 (.call (.f 111) [(.t 6)]),
 mV 8 1,
 oP 9 (.call (.f 111) [(.t 8)]),
 mV 0 7,
 mV 1 9]) (.seq (.seq (.region false [mV 10 0,
 oP 11 (.len (.t 10)),
 mV 12 1,
 oP 13 (.len (.t 12)),
 oP 14 (.bin .num .neq (.t 11) (.t 13))]) (.cond (.t 14) (.seq (.seq (.region false [mV 15 0,
 oP 16 (.len (.t 15)),
 mV 17 1,
 oP 18 (.len (.t 17)),
 oP 19 (.bin .num .lss (.t 16) (.t 18))]) (.cond (.t 19) (.seq (.region false [oP 4 (.mv (.c (.int .i64 (-1))))]) .ret) .skip)) (.seq (.region false [oP 4 (.mv (.c (.int .i64 1)))]) .ret)) .skip)) (.seq (.seq (.region false [mV 20 0,
 oP 21 (.len (.t 20)),
 oP 22 (.bin .num .sub (.t 21) (.c (.int .i64 1))),
 mV 5 22]) (.block 0 (.loop c_natural_Cmp_l0))) (.seq (.region false [oP 4 (.mv (.c (.int .i64 0)))]) .ret))))),
 false, false⟩

/- dyadic_shifted -/
@[simp] def c_dyadic_shifted : AFn := ⟨[(.tmp 4)],
 (.seq (.region false [oP 4 (.mv (.c .nil))]) (.seq (.region false [mV 8 0,
 mV 9 1,
 oP 10 (.call (.f 112) [(.t 8), (.t 9)]),
 mV 7 10,
 oP 11 (.extract 0 (.t 7)),
 oP 12 (.extract 1 (.t 7)),
 mV 5 11,
 mV 6 12]) (.seq (.region false [mV 13 5,
 mV 4 13]) .ret))),
 false, false⟩

/- fpref02_trim -/
def c_fpref02_trim_l0 : AC := (.seq (.seq (.region false [mV 6 3,
 oP 7 (.bin .num .gtr (.t 6) (.c (.int .i64 0))),
 mV 8 7,
 gT 9 8 (.mv (.t 0)),
 gT 10 8 (.mv (.t 3)),
 gT 11 8 (.bin .num .sub (.t 10) (.c (.int .i64 1))),
 gT 12 8 (.iaddr 1 (.t 9) (.t 11)),
 gT 13 8 (.load false 1 (.t 12)),
 gT 14 8 (.bin .num .eql (.t 13) (.c (.int .u32 0))),
 oP 15 (.pick (.t 8) (.t 14) (.c (.bool false)))]) (.cond (.t 15) .skip (.exit 0))) (.block 1 (.region false [mV 16 3,
 oP 17 (.bin .num .sub (.t 16) (.c (.int .i64 1))),
 mV 3 17])))
@[simp] def c_fpref02_trim : AFn := ⟨[(.tmp 2)],
 (.seq (.region false [oP 2 (.mv (.c .nil))]) (.seq (.region false [mV 4 0,
 oP 5 (.len (.t 4)),
 mV 3 5]) (.seq (.block 0 (.loop c_fpref02_trim_l0)) (.seq (.region false [oP 18 (.bslice 1 0 (.int .u32 0) []),
 mV 19 0,
 mV 20 3,
 oP 21 (.slice 1 (.t 19) none (some (.t 20)) none),
 oP 22 (.append 1 4 (.t 18) (.t 21)),
 mV 2 22]) .ret)))),
 false, false⟩

/- fpref02_zeros -/
def c_fpref02_zeros_l0 : AC := (.seq (.seq (.region false [mV 4 0,
 mV 5 3,
 oP 6 (.bin .num .quo (.t 5) (.c (.int .i64 32))),
 oP 7 (.iaddr 1 (.t 4) (.t 6)),
 oP 8 (.load false 1 (.t 7)),
 mV 9 3,
 oP 10 (.bin .num .rem (.t 9) (.c (.int .i64 32))),
 oP 11 (.conv .u64 (.t 10)),
 oP 12 (.bin .num .shr (.t 8) (.t 11)),
 oP 13 (.bin .num .and (.t 12) (.c (.int .u32 1))),
 oP 14 (.bin .num .eql (.t 13) (.c (.int .u32 0)))]) (.cond (.t 14) .skip (.exit 0))) (.block 1 (.region false [mV 15 3,
 oP 16 (.bin .num .add (.t 15) (.c (.int .i64 1))),
 mV 3 16])))
@[simp] def c_fpref02_zeros : AFn := ⟨[(.tmp 2)],
 (.seq (.region false [oP 2 (.mv (.c (.int .i64 0)))]) (.seq (.region false [oP 3 (.mv (.c (.int .i64 0)))]) (.seq (.block 0 (.loop c_fpref02_zeros_l0)) (.seq (.region false [mV 17 3,
 mV 2 17]) .ret)))),
 false, false⟩

/- fpref02_right -/
def c_fpref02_right_l0 : AC := (.seq (.seq (.region false [mV 17 6,
 mV 18 0,
 oP 19 (.len (.t 18)),
 oP 20 (.bin .num .lss (.t 17) (.t 19))]) (.cond (.t 20) .skip (.exit 0))) (.seq (.block 1 (.seq (.region false [mV 23 0,
 mV 24 6,
 oP 25 (.iaddr 1 (.t 23) (.t 24)),
 oP 26 (.load false 1 (.t 25)),
 oP 27 (.conv .u64 (.t 26)),
 mV 7 27]) (.seq (.seq (.region false [mV 28 6,
 oP 29 (.bin .num .add (.t 28) (.c (.int .i64 1))),
 mV 30 0,
 oP 31 (.len (.t 30)),
 oP 32 (.bin .num .lss (.t 29) (.t 31))]) (.cond (.t 32) (.region false [mV 33 7,
 mV 34 0,
 mV 35 6,
 oP 36 (.bin .num .add (.t 35) (.c (.int .i64 1))),
 oP 37 (.iaddr 1 (.t 34) (.t 36)),
 oP 38 (.load false 1 (.t 37)),
 oP 39 (.conv .u64 (.t 38)),
 oP 40 (.bin .num .shl (.t 39) (.c (.int .u64 32))),
 oP 41 (.bin .num .or (.t 33) (.t 40)),
 mV 7 41]) .skip)) (.region false [mV 42 5,
 mV 43 7,
 mV 44 1,
 oP 45 (.bin .num .rem (.t 44) (.c (.int .i64 32))),
 oP 46 (.conv .u64 (.t 45)),
 oP 47 (.bin .num .shr (.t 43) (.t 46)),
 oP 48 (.bin .num .and (.t 47) (.c (.int .u64 4294967295))),
 oP 49 (.conv .u32 (.t 48)),
 oP 50 (.bslice 1 1 (.int .u32 0) [(0, (.t 49))]),
 oP 51 (.append 1 4 (.t 42) (.t 50)),
 mV 5 51])))) (.region false [mV 21 6,
 oP 22 (.bin .num .add (.t 21) (.c (.int .i64 1))),
 mV 6 22])))
@[simp] def c_fpref02_right : AFn := ⟨[(.tmp 4)],
 (.seq (.region false [oP 4 (.mv (.c .nil))]) (.seq (.seq (.region false [mV 8 1,
 oP 9 (.bin .num .quo (.t 8) (.c (.int .i64 32))),
 mV 10 0,
 oP 11 (.len (.t 10)),
 oP 12 (.bin .num .geq (.t 9) (.t 11))]) (.cond (.t 12) (.seq (.region false [oP 4 (.mv (.c .nil))]) .ret) .skip)) (.seq (.region false [mV 13 0,
 mV 14 1,
 oP 15 (.bin .num .quo (.t 14) (.c (.int .i64 32))),
 oP 16 (.slice 1 (.t 13) (some (.t 15)) none none),
 mV 0 16]) (.seq (.region false [oP 5 (.mv (.c .nil))]) (.seq (.seq (.region false [oP 6 (.mv (.c (.int .i64 0)))]) (.block 0 (.loop c_fpref02_right_l0))) (.seq (.region false [mV 52 5,
 oP 53 (.call (.f 101) [(.t 52)]),
 mV 4 53]) .ret)))))),
 false, false⟩

/- interval_more -/
@[simp] def c_interval_more : AFn := ⟨[(.cell 4 true 3)],
 (.seq (.region false [oP 2 (.box 3 (.t 0)),
 oP 3 (.box 3 (.t 1)),
 oP 4 (.new 3 (.agg [(.bool false), .nil, (.int .i64 0)]))]) (.seq (.seq (.region false [oP 5 (.load true 3 (.t 2)),
 oP 6 (.load true 3 (.t 3)),
 oP 7 (.call (.f 52) [(.t 5), (.t 6)]),
 oP 8 (.bin .num .geq (.t 7) (.c (.int .i64 0)))]) (.cond (.t 8) (.seq (.region false [oP 9 (.load true 3 (.t 2)),
 ⟨none, .store 3 (.t 4) (.t 9), none, false⟩]) .ret) .skip)) (.seq (.region false [oP 10 (.load true 3 (.t 3)),
 ⟨none, .store 3 (.t 4) (.t 10), none, false⟩]) .ret))),
 false, false⟩

/- interval_less -/
@[simp] def c_interval_less : AFn := ⟨[(.cell 4 true 3)],
 (.seq (.region false [oP 2 (.box 3 (.t 0)),
 oP 3 (.box 3 (.t 1)),
 oP 4 (.new 3 (.agg [(.bool false), .nil, (.int .i64 0)]))]) (.seq (.seq (.region false [oP 5 (.load true 3 (.t 2)),
 oP 6 (.load true 3 (.t 3)),
 oP 7 (.call (.f 52) [(.t 5), (.t 6)]),
 oP 8 (.bin .num .leq (.t 7) (.c (.int .i64 0)))]) (.cond (.t 8) (.seq (.region false [oP 9 (.load true 3 (.t 2)),
 ⟨none, .store 3 (.t 4) (.t 9), none, false⟩]) .ret) .skip)) (.seq (.region false [oP 10 (.load true 3 (.t 3)),
 ⟨none, .store 3 (.t 4) (.t 10), none, false⟩]) .ret))),
 false, false⟩

/- fpref05_known -/
@[simp] def c_fpref05_known : AFn := ⟨[(.tmp 2)],
 (.seq (.region false [oP 1 (.box 7 (.t 0)),
 oP 2 (.mv (.c (.bool false)))]) (.seq (.region false [oP 3 (.load true 7 (.t 1)),
 oP 4 (.call (.f 70) [(.t 3)]),
 mV 5 4,
 gT 6 5 (.faddr 6 (.t 1)),
 gT 7 5 (.load false 1 (.t 6)),
 gT 8 5 (.un .not (.t 7)),
 oP 9 (.pick (.t 5) (.t 8) (.c (.bool false))),
 mV 2 9]) .ret)),
 false, false⟩

/- fpref05_Whole -/
@[simp] def c_fpref05_Whole : AFn := ⟨[(.cell 0 true 7)],
 (.seq (.region false [oP 0 (.new 7 (.agg [(.bool false), .nil, (.int .i64 0), (.bool false), .nil, (.int .i64 0), (.bool false)]))]) (.seq (.region false [oP 1 (.build [(.bool false), .nil, (.int .i64 0), (.bool false), .nil, (.int .i64 0), (.bool false)] [(6, 1, (.c (.bool true)))]),
 ⟨none, .store 7 (.t 0) (.t 1), none, false⟩]) .ret)),
 false, false⟩

/- natural_Bits -/
@[simp] def c_natural_Bits : AFn := ⟨[(.tmp 2)],
 (.seq (.region false [oP 2 (.mv (.c (.int .i64 0)))]) (.seq (.region false [mV 3 0,
 oP 4 (.call (.f 111) [(.t 3)]),
 mV 0 4]) (.seq (.seq (.region false [mV 5 0,
 oP 6 (.len (.t 5)),
 oP 7 (.bin .num .eql (.t 6) (.c (.int .i64 0)))]) (.cond (.t 7) (.seq (.region false [oP 2 (.mv (.c (.int .i64 0)))]) .ret) .skip)) (.seq (.region false [mV 8 0,
 oP 9 (.len (.t 8)),
 oP 10 (.bin .num .sub (.t 9) (.c (.int .i64 1))),
 oP 11 (.bin .num .mul (.c (.int .i64 32)) (.t 10)),
 mV 12 0,
 mV 13 0,
 oP 14 (.len (.t 13)),
 oP 15 (.bin .num .sub (.t 14) (.c (.int .i64 1))),
 oP 16 (.iaddr 1 (.t 12) (.t 15)),
 oP 17 (.load false 1 (.t 16)),
 oP 18 (.call (.f 113) [(.t 17)]),
 oP 19 (.bin .num .add (.t 11) (.t 18)),
 mV 2 19]) .ret)))),
 false, false⟩

/- natural_trim -/
def c_natural_trim_l0 : AC := (.seq (.seq (.region false [mV 6 3,
 oP 7 (.bin .num .gtr (.t 6) (.c (.int .i64 0))),
 mV 8 7,
 gT 9 8 (.mv (.t 0)),
 gT 10 8 (.mv (.t 3)),
 gT 11 8 (.bin .num .sub (.t 10) (.c (.int .i64 1))),
 gT 12 8 (.iaddr 1 (.t 9) (.t 11)),
 gT 13 8 (.load false 1 (.t 12)),
 gT 14 8 (.bin .num .eql (.t 13) (.c (.int .u32 0))),
 oP 15 (.pick (.t 8) (.t 14) (.c (.bool false)))]) (.cond (.t 15) .skip (.exit 0))) (.block 1 (.region false [mV 16 3,
 oP 17 (.bin .num .sub (.t 16) (.c (.int .i64 1))),
 mV 3 17])))
@[simp] def c_natural_trim : AFn := ⟨[(.tmp 2)],
 (.seq (.region false [oP 2 (.mv (.c .nil))]) (.seq (.region false [mV 4 0,
 oP 5 (.len (.t 4)),
 mV 3 5]) (.seq (.block 0 (.loop c_natural_trim_l0)) (.seq (.region false [mV 18 0,
 mV 19 3,
 oP 20 (.slice 1 (.t 18) none (some (.t 19)) none),
 mV 2 20]) .ret)))),
 false, false⟩

/- natural_Shl -/
@[simp] def c_natural_Shl : AFn := ⟨[(.tmp 4), (.tmp 5)],
 (.seq (.region false [oP 4 (.mv (.c .nil)),
 oP 5 (.mv (.c (.int .i64 0)))]) (.seq (.block 0 (.seq (.region false [mV 7 0,
 oP 8 (.bslice 1 1 .nil [(0, (.t 7))]),
 oP 9 (.call (.f 114) [(.t 8)]),
 mV 6 9]) (.cond (.t 6) (.seq (.region false [oP 4 (.mv (.c .nil)),
 oP 5 (.mv (.c (.int .i64 9)))]) .ret) (.seq (.region false [mV 11 1,
 oP 12 (.bin .num .lss (.t 11) (.c (.int .i64 0))),
 mV 13 12,
 gF 14 13 (.mv (.t 1)),
 gF 15 13 (.bin .num .gtr (.t 14) (.c (.int .i64 65536))),
 oP 16 (.pick (.t 13) (.c (.bool true)) (.t 15)),
 mV 10 16]) (.cond (.t 10) (.seq (.region false [oP 4 (.mv (.c .nil)),
 oP 5 (.mv (.c (.int .i64 2)))]) .ret) .skip))))) (.seq (.region false [mV 17 0,
 mV 18 1,
 oP 19 (.call (.f 116) [(.t 17), (.t 18)]),
 oP 20 (.call (.f 115) [(.t 19)]),
 oP 21 (.extract 0 (.t 20)),
 oP 22 (.extract 1 (.t 20)),
 mV 4 21,
 mV 5 22]) .ret))),
 false, false⟩

/- math_bits_Len32 -/
@[simp] def c_math_bits_Len32 : AFn := ⟨[(.tmp 2)],
 (.seq (.region false [oP 2 (.mv (.c (.int .i64 0)))]) (.seq (.seq (.region false [mV 3 0,
 oP 4 (.bin .num .geq (.t 3) (.c (.int .u32 65536)))]) (.cond (.t 4) (.seq (.region false [mV 5 0,
 oP 6 (.bin .num .shr (.t 5) (.c (.int .u64 16))),
 mV 0 6]) (.region false [oP 2 (.mv (.c (.int .i64 16)))])) .skip)) (.seq (.seq (.region false [mV 7 0,
 oP 8 (.bin .num .geq (.t 7) (.c (.int .u32 256)))]) (.cond (.t 8) (.seq (.region false [mV 9 0,
 oP 10 (.bin .num .shr (.t 9) (.c (.int .u64 8))),
 mV 0 10]) (.region false [mV 11 2,
 oP 12 (.bin .num .add (.t 11) (.c (.int .i64 8))),
 mV 2 12])) .skip)) (.seq (.region false [mV 13 2,
 mV 14 0,
 oP 15 (.conv .u8 (.t 14)),
 oP 16 (.sindex (.c (.str str_0)) (.t 15)),
 oP 17 (.conv .i64 (.t 16)),
 oP 18 (.bin .num .add (.t 13) (.t 17)),
 mV 2 18]) .ret)))),
 false, false⟩

/- natural_long -/
@[simp] def c_natural_long : AFn := ⟨[(.tmp 2)],
 (.seq (.region false [oP 2 (.mv (.c (.bool false)))]) (.seq (.region false [mV 3 0,
 oP 4 (.call (.f 117) [(.t 3), (.f 118)]),
 mV 2 4]) .ret)),
 false, false⟩

/- natural_done -/
@[simp] def c_natural_done : AFn := ⟨[(.tmp 2), (.tmp 3)],
 (.seq (.region false [oP 2 (.mv (.c .nil)),
 oP 3 (.mv (.c (.int .i64 0)))]) (.seq (.region false [mV 4 0,
 oP 5 (.call (.f 111) [(.t 4)]),
 mV 0 5]) (.seq (.seq (.region false [mV 6 0,
 oP 7 (.bslice 1 1 .nil [(0, (.t 6))]),
 oP 8 (.call (.f 114) [(.t 7)])]) (.cond (.t 8) (.seq (.region false [oP 2 (.mv (.c .nil)),
 oP 3 (.mv (.c (.int .i64 9)))]) .ret) .skip)) (.seq (.region false [mV 9 0,
 oP 10 (.call (.f 119) [(.t 9)]),
 mV 2 10,
 oP 3 (.mv (.c (.int .i64 0)))]) .ret)))),
 false, false⟩

/- natural_shl -/
def c_natural_shl_l0 : AC := (.seq (.region false [oP 24 (.bin .num .lss (.t 23) (.t 22))]) (.seq (.cond (.t 24) .skip (.exit 0)) (.seq (.block 1 (.seq (.region false [oP 25 (.iaddr 1 (.t 21) (.t 23)),
 oP 26 (.load false 1 (.t 25)),
 mV 8 26]) (.seq (.region false [mV 27 8,
 oP 28 (.conv .u64 (.t 27)),
 mV 29 1,
 oP 30 (.bin .num .rem (.t 29) (.c (.int .i64 32))),
 oP 31 (.bin .num .shl (.t 28) (.t 30)),
 mV 32 6,
 oP 33 (.bin .num .or (.t 31) (.t 32)),
 mV 9 33]) (.region false [mV 34 5,
 mV 35 9,
 oP 36 (.conv .u32 (.t 35)),
 oP 37 (.bslice 1 1 (.int .u32 0) [(0, (.t 36))]),
 oP 38 (.append 1 4 (.t 34) (.t 37)),
 mV 39 9,
 oP 40 (.bin .num .shr (.t 39) (.c (.int .u64 32))),
 mV 5 38,
 mV 6 40])))) (.region false [oP 41 (.bin .num .add (.t 23) (.c (.int .i64 1))),
 mV 23 41]))))
@[simp] def c_natural_shl : AFn := ⟨[(.tmp 4)],
 (.seq (.region false [oP 4 (.mv (.c .nil))]) (.seq (.region false [mV 10 0,
 oP 11 (.call (.f 111) [(.t 10)]),
 mV 0 11]) (.seq (.region false [mV 12 1,
 oP 13 (.bin .num .quo (.t 12) (.c (.int .i64 32))),
 mV 14 1,
 oP 15 (.bin .num .quo (.t 14) (.c (.int .i64 32))),
 mV 16 0,
 oP 17 (.len (.t 16)),
 oP 18 (.bin .num .add (.t 15) (.t 17)),
 oP 19 (.bin .num .add (.t 18) (.c (.int .i64 1))),
 oP 20 (.mkslice 1 4 (.int .u32 0) (.t 13) (.t 19)),
 mV 5 20]) (.seq (.region false [oP 6 (.mv (.c (.int .u64 0)))]) (.seq (.seq (.region false [mV 21 0,
 oP 22 (.len (.t 21)),
 oP 23 (.mv (.c (.int .i64 0)))]) (.block 0 (.loop c_natural_shl_l0))) (.seq (.region false [mV 42 5,
 mV 43 6,
 oP 44 (.conv .u32 (.t 43)),
 oP 45 (.bslice 1 1 (.int .u32 0) [(0, (.t 44))]),
 oP 46 (.append 1 4 (.t 42) (.t 45)),
 mV 4 46]) .ret)))))),
 true, false⟩

/- slices_ContainsFunc_uint32s -/
@[simp] def c_slices_ContainsFunc_uint32s : AFn := ⟨[(.tmp 4)],
 (.seq (.region false [oP 4 (.mv (.c (.bool false)))]) (.seq (.region false [mV 5 0,
 mV 6 1,
 oP 7 (.call (.f 120) [(.t 5), (.t 6)]),
 oP 8 (.bin .num .geq (.t 7) (.c (.int .i64 0))),
 mV 4 8]) .ret)),
 false, false⟩

/- natural_long_1 -/
@[simp] def c_natural_long_1 : AFn := ⟨[(.tmp 2)],
 (.seq (.region false [oP 2 (.mv (.c (.bool false)))]) (.seq (.region false [mV 3 0,
 oP 4 (.len (.t 3)),
 oP 5 (.bin .num .gtr (.t 4) (.c (.int .i64 256))),
 mV 2 5]) .ret)),
 false, false⟩

/- slices_Clip_uint32 -/
@[simp] def c_slices_Clip_uint32 : AFn := ⟨[(.tmp 2)],
 (.seq (.region false [oP 2 (.mv (.c .nil))]) (.seq (.region false [mV 3 0,
 mV 4 0,
 oP 5 (.len (.t 4)),
 mV 6 0,
 oP 7 (.len (.t 6)),
 oP 8 (.slice 1 (.t 3) none (some (.t 5)) (some (.t 7))),
 mV 2 8]) .ret)),
 false, false⟩

/- slices_IndexFunc_uint32s -/
def c_slices_IndexFunc_uint32s_l0 : AC := (.seq (.region false [oP 9 (.bin .num .lss (.t 8) (.t 7))]) (.seq (.cond (.t 9) .skip (.exit 0)) (.seq (.block 1 (.seq (.region false [mV 10 8,
 mV 5 10]) (.seq (.region false [mV 11 1,
 mV 12 0,
 mV 13 5,
 oP 14 (.iaddr 1 (.t 12) (.t 13)),
 oP 15 (.load false 1 (.t 14)),
 oP 16 (.call (.t 11) [(.t 15)])]) (.cond (.t 16) (.seq (.region false [mV 17 5,
 mV 4 17]) .ret) .skip)))) (.region false [oP 18 (.bin .num .add (.t 8) (.c (.int .i64 1))),
 mV 8 18]))))
@[simp] def c_slices_IndexFunc_uint32s : AFn := ⟨[(.tmp 4)],
 (.seq (.region false [oP 4 (.mv (.c (.int .i64 0)))]) (.seq (.seq (.region false [mV 6 0,
 oP 7 (.len (.t 6)),
 oP 8 (.mv (.c (.int .i64 0)))]) (.block 0 (.loop c_slices_IndexFunc_uint32s_l0))) (.seq (.region false [oP 4 (.mv (.c (.int .i64 (-1))))]) .ret))),
 false, false⟩

end Go.Abs
/- MADE BY A PROGRAM (wip/tools/dump.sh, mkcode.py): the abstract code of the functions that this seat reaches. -/
namespace Go.Abs

end Go.Abs
/- MADE BY A PROGRAM (wip/tools/dump.sh, mkcode.py): the abstract code of the functions that this seat reaches. -/
namespace Go.Abs

end Go.Abs
/- MADE BY A PROGRAM (wip/tools/dump.sh, addcode.py): the abstract code of the functions that a further seat reaches. -/
namespace Go.Abs

end Go.Abs
/- MADE BY A PROGRAM (wip/tools/dump.sh, addcode.py): the abstract code of the functions that a further seat reaches. -/
namespace Go.Abs

end Go.Abs
/- MADE BY A PROGRAM (wip/tools/dump.sh, addcode.py): the abstract code of the functions that a further seat reaches. -/
namespace Go.Abs

end Go.Abs
/- MADE BY A PROGRAM (wip/tools/dump.sh, addcode.py): the abstract code of the functions that a further seat reaches. -/
namespace Go.Abs

end Go.Abs
/- MADE BY A PROGRAM (wip/tools/dump.sh, addcode.py): the abstract code of the functions that a further seat reaches. -/
namespace Go.Abs

end Go.Abs
/- MADE BY A PROGRAM (wip/tools/dump.sh, addcode.py): the abstract code of the functions that a further seat reaches. -/
namespace Go.Abs

/- fplaw37_PipeMeets -/
@[simp] def c_fplaw37_PipeMeets : AFn := ⟨[(.tmp 4)],
 (.seq (.region false [oP 2 (.box 2 (.t 0)),
 oP 3 (.box 2 (.t 1)),
 oP 4 (.mv (.c (.bool false)))]) (.seq (.seq (.region false [oP 9 (.call (.f 7) []),
 oP 10 (.un .not (.t 9))]) (.cond (.t 10) (.seq (.region false [oP 4 (.mv (.c (.bool false)))]) .ret) .skip)) (.seq (.seq (.region false [oP 11 (.load true 2 (.t 2)),
 oP 12 (.load true 2 (.t 3)),
 oP 13 (.bslice 2 2 (.agg [.nil, .nil]) [(0, (.t 11)), (1, (.t 12))]),
 oP 14 (.call (.f 8) [(.t 13)])]) (.cond (.t 14) (.seq (.region false [oP 4 (.mv (.c (.bool true)))]) .ret) .skip)) (.seq (.region false [oP 16 (.load true 2 (.t 2)),
 oP 17 (.load true 2 (.t 3)),
 oP 18 (.call (.f 585) [(.t 16), (.t 17)]),
 mV 15 18,
 oP 19 (.extract 0 (.t 15)),
 oP 20 (.extract 1 (.t 15)),
 oP 5 (.new 2 (.agg [.nil, .nil])),
 ⟨none, .store 2 (.t 5) (.t 19), none, false⟩,
 mV 6 20]) (.seq (.seq (.region false [oP 21 (.load true 2 (.t 2)),
 oP 22 (.call (.f 11) [(.t 21)]),
 oP 23 (.un .not (.t 22)),
 mV 24 23,
 gF 25 24 (.load true 2 (.t 3)),
 gF 26 24 (.call (.f 11) [(.t 25)]),
 gF 27 24 (.un .not (.t 26)),
 oP 28 (.pick (.t 24) (.c (.bool true)) (.t 27))]) (.cond (.t 28) (.seq (.region false [mV 29 6,
 oP 30 (.bin .num .eql (.t 29) (.c (.int .i64 1))),
 mV 31 30,
 gT 32 31 (.load true 2 (.t 5)),
 gT 33 31 (.call (.f 13) [(.t 32)]),
 oP 34 (.pick (.t 31) (.t 33) (.c (.bool false))),
 mV 4 34]) .ret) .skip)) (.seq (.seq (.region true [oP 35 (.faddr 1 (.t 2)),
 oP 36 (.load false 1 (.t 35)),
 oP 37 (.len (.t 36)),
 oP 38 (.bin .num .eql (.t 37) (.c (.int .i64 0))),
 mV 39 38,
 gF 40 39 (.faddr 1 (.t 3)),
 gF 41 39 (.load false 1 (.t 40)),
 gF 42 39 (.len (.t 41)),
 gF 43 39 (.bin .num .eql (.t 42) (.c (.int .i64 0))),
 oP 44 (.pick (.t 39) (.c (.bool true)) (.t 43)),
 mV 45 44,
 gF 46 45 (.faddr 0 (.t 2)),
 gF 47 45 (.load false 1 (.t 46)),
 gF 48 45 (.len (.t 47)),
 gF 49 45 (.faddr 0 (.t 3)),
 gF 50 45 (.load false 1 (.t 49)),
 gF 51 45 (.len (.t 50)),
 gF 52 45 (.bin .num .neq (.t 48) (.t 51)),
 oP 53 (.pick (.t 45) (.c (.bool true)) (.t 52)),
 mV 54 53,
 gF 55 54 (.load true 2 (.t 2)),
 gF 56 54 (.call (.f 26) [(.t 55)]),
 gF 57 54 (.load true 2 (.t 3)),
 ⟨some 58, .call (.f 26) [(.t 57)], some (54, false), true⟩,
 ⟨some 59, .call (.f 23) [(.t 56), (.t 58)], some (54, false), true⟩,
 gF 60 54 (.un .not (.t 59)),
 oP 61 (.pick (.t 54) (.c (.bool true)) (.t 60))]) (.cond (.t 61) (.seq (.region false [mV 62 6,
 oP 63 (.bin .num .eql (.t 62) (.c (.int .i64 6))),
 mV 64 63,
 gT 65 64 (.load true 2 (.t 5)),
 gT 66 64 (.call (.f 13) [(.t 65)]),
 oP 67 (.pick (.t 64) (.t 66) (.c (.bool false))),
 mV 4 67]) .ret) .skip)) (.seq (.region false [oP 69 (.load true 2 (.t 2)),
 oP 70 (.load true 2 (.t 3)),
 oP 71 (.call (.f 586) [(.t 69), (.t 70)]),
 mV 68 71,
 oP 72 (.extract 0 (.t 68)),
 oP 73 (.extract 1 (.t 68)),
 oP 7 (.new 2 (.agg [.nil, .nil])),
 ⟨none, .store 2 (.t 7) (.t 72), none, false⟩,
 mV 8 73]) (.seq (.seq (.region false [mV 74 8,
 oP 75 (.bin .num .neq (.t 74) (.c (.int .i64 0)))]) (.cond (.t 75) (.seq (.region false [mV 76 6,
 mV 77 8,
 oP 78 (.bin .num .eql (.t 76) (.t 77)),
 mV 79 78,
 gT 80 79 (.load true 2 (.t 5)),
 gT 81 79 (.call (.f 13) [(.t 80)]),
 oP 82 (.pick (.t 79) (.t 81) (.c (.bool false))),
 mV 4 82]) .ret) .skip)) (.seq (.region false [mV 83 6,
 oP 84 (.bin .num .eql (.t 83) (.c (.int .i64 0))),
 mV 85 84,
 gT 86 85 (.load true 2 (.t 5)),
 gT 87 85 (.load true 2 (.t 7)),
 gT 88 85 (.call (.f 15) [(.t 86), (.t 87)]),
 oP 89 (.pick (.t 85) (.t 88) (.c (.bool false))),
 mV 90 89,
 gT 91 90 (.load true 2 (.t 5)),
 gT 92 90 (.call (.f 17) [(.t 91)]),
 oP 93 (.pick (.t 90) (.t 92) (.c (.bool false))),
 mV 94 93,
 gT 95 94 (.load true 2 (.t 5)),
 gT 96 94 (.load true 2 (.t 2)),
 gT 97 94 (.call (.f 587) [(.t 95), (.t 96)]),
 oP 98 (.pick (.t 94) (.t 97) (.c (.bool false))),
 mV 99 98,
 gT 100 99 (.load true 2 (.t 5)),
 gT 101 99 (.load true 2 (.t 3)),
 gT 102 99 (.call (.f 587) [(.t 100), (.t 101)]),
 oP 103 (.pick (.t 99) (.t 102) (.c (.bool false))),
 mV 4 103]) .ret))))))))),
 false, false⟩

/- pipe_Meet -/
def c_pipe_Meet_l0 : AC := .skip
def c_pipe_Meet_l1 : AC := (.block 2 (.region false [oP 61 (.load false 1 (.t 6)),
 oP 62 (.bin .num .add (.t 61) (.c (.int .i64 1))),
 ⟨none, .store 1 (.t 6) (.t 62), none, false⟩]))
def c_pipe_Meet_l2 : AC := (.seq (.region false [oP 11 (.new 3 (.agg [(.bool false), .nil, (.int .i64 0)])),
 ⟨none, .store 3 (.t 11) (.t 81), none, false⟩]) (.region false [oP 12 (.new 2 (.agg [(.int .i64 0), (.int .i64 0)])),
 ⟨none, .store 2 (.t 12) (.t 82), none, false⟩]))
def c_pipe_Meet_l3 : AC := (.block 4 (.seq (.region true [oP 84 (.faddr 1 (.t 2)),
 oP 85 (.load false 1 (.t 84)),
 oP 86 (.aiaddr 2 1 (.t 12) (.c (.int .i64 0))),
 oP 87 (.load false 1 (.t 86)),
 oP 88 (.iaddr 8 (.t 85) (.t 87)),
 oP 89 (.faddr 6 (.t 88)),
 oP 90 (.load false 1 (.t 89)),
 oP 91 (.faddr 1 (.t 3)),
 oP 92 (.load false 1 (.t 91)),
 oP 93 (.aiaddr 2 1 (.t 12) (.c (.int .i64 1))),
 oP 94 (.load false 1 (.t 93)),
 oP 95 (.iaddr 8 (.t 92) (.t 94)),
 oP 96 (.faddr 6 (.t 95)),
 oP 97 (.load false 1 (.t 96)),
 oS 98 (.call (.f 69) [(.t 90), (.t 97)]),
 mV 83 98,
 oP 99 (.extract 0 (.t 83)),
 oP 100 (.extract 1 (.t 83)),
 mV 13 99,
 mV 14 100]) (.seq (.region true [oP 102 (.load true 2 (.t 2)),
 oP 103 (.load true 3 (.t 11)),
 oP 104 (.call (.f 59) [(.t 102), (.t 103)]),
 oP 105 (.load true 2 (.t 3)),
 oP 106 (.load true 3 (.t 11)),
 oS 107 (.call (.f 59) [(.t 105), (.t 106)]),
 oS 108 (.call (.f 69) [(.t 104), (.t 107)]),
 mV 101 108,
 oP 109 (.extract 0 (.t 101)),
 oP 110 (.extract 1 (.t 101)),
 mV 15 109,
 mV 16 110]) (.seq (.region false [oP 111 (.load false 1 (.t 8)),
 mV 112 111,
 gT 113 112 (.mv (.t 14)),
 oP 114 (.pick (.t 112) (.t 113) (.c (.bool false))),
 mV 115 114,
 gT 116 115 (.mv (.t 16)),
 oP 117 (.pick (.t 115) (.t 116) (.c (.bool false))),
 ⟨none, .store 1 (.t 8) (.t 117), none, false⟩]) (.seq (.region false [oP 118 (.faddr 1 (.t 9)),
 oP 119 (.load false 1 (.t 118)),
 oP 120 (.load true 3 (.t 10)),
 oP 121 (.load true 3 (.t 11)),
 mV 122 13,
 mV 123 15,
 oP 124 (.build [(.bool false), .nil, (.int .i64 0), (.bool false), .nil, (.int .i64 0), .nil, .nil] [(0, 3, (.t 120)), (3, 3, (.t 121)), (6, 1, (.t 122)), (7, 1, (.t 123))]),
 oP 125 (.bslice 8 1 (.agg [(.bool false), .nil, (.int .i64 0), (.bool false), .nil, (.int .i64 0), .nil, .nil]) [(0, (.t 124))]),
 oP 126 (.append 8 128 (.t 119) (.t 125)),
 oP 127 (.faddr 1 (.t 9)),
 ⟨none, .store 1 (.t 127) (.t 126), none, false⟩]) (.region false [oP 128 (.load true 3 (.t 11)),
 ⟨none, .store 3 (.t 10) (.t 128), none, false⟩]))))))
@[simp] def c_pipe_Meet : AFn := ⟨[(.cell 4 true 2), (.tmp 5)],
 (.seq (.region false [oP 2 (.box 2 (.t 0)),
 oP 3 (.box 2 (.t 1)),
 oP 4 (.new 2 (.agg [.nil, .nil])),
 oP 5 (.mv (.c (.int .i64 0)))]) (.seq (.block 0 (.seq (.region false [oP 18 (.load true 2 (.t 2)),
 oP 19 (.call (.f 17) [(.t 18)]),
 oP 20 (.un .not (.t 19)),
 mV 21 20,
 gF 22 21 (.load true 2 (.t 3)),
 gF 23 21 (.call (.f 17) [(.t 22)]),
 gF 24 21 (.un .not (.t 23)),
 oP 25 (.pick (.t 21) (.c (.bool true)) (.t 24)),
 mV 17 25]) (.cond (.t 17) (.seq (.region false [oP 26 (.build [.nil, .nil] []),
 ⟨none, .store 2 (.t 4) (.t 26), none, false⟩,
 oP 5 (.mv (.c (.int .i64 1)))]) .ret) (.seq (.region true [oP 28 (.faddr 1 (.t 2)),
 oP 29 (.load false 1 (.t 28)),
 oP 30 (.len (.t 29)),
 oP 31 (.bin .num .eql (.t 30) (.c (.int .i64 0))),
 mV 32 31,
 gF 33 32 (.faddr 1 (.t 3)),
 gF 34 32 (.load false 1 (.t 33)),
 gF 35 32 (.len (.t 34)),
 gF 36 32 (.bin .num .eql (.t 35) (.c (.int .i64 0))),
 oP 37 (.pick (.t 32) (.c (.bool true)) (.t 36)),
 mV 38 37,
 gF 39 38 (.faddr 0 (.t 2)),
 gF 40 38 (.load false 1 (.t 39)),
 gF 41 38 (.len (.t 40)),
 gF 42 38 (.faddr 0 (.t 3)),
 gF 43 38 (.load false 1 (.t 42)),
 gF 44 38 (.len (.t 43)),
 gF 45 38 (.bin .num .neq (.t 41) (.t 44)),
 oP 46 (.pick (.t 38) (.c (.bool true)) (.t 45)),
 mV 47 46,
 gF 48 47 (.load true 2 (.t 2)),
 gF 49 47 (.call (.f 64) [(.t 48)]),
 gF 50 47 (.load true 2 (.t 3)),
 ⟨some 51, .call (.f 64) [(.t 50)], some (47, false), true⟩,
 ⟨some 52, .call (.f 52) [(.t 49), (.t 51)], some (47, false), true⟩,
 gF 53 47 (.bin .num .neq (.t 52) (.c (.int .i64 0))),
 oP 54 (.pick (.t 47) (.c (.bool true)) (.t 53)),
 mV 27 54]) (.cond (.t 27) (.seq (.region false [oP 55 (.build [.nil, .nil] []),
 ⟨none, .store 2 (.t 4) (.t 55), none, false⟩,
 oP 5 (.mv (.c (.int .i64 6)))]) .ret) .skip))))) (.seq (.region false [oP 6 (.new 1 (.int .i64 0)),
 ⟨none, .store 1 (.t 6) (.c (.int .i64 0)), none, false⟩]) (.seq (.seq (.region false [oP 56 (.load true 2 (.t 2)),
 oP 57 (.load true 2 (.t 3)),
 oP 58 (.call (.f 588) [(.t 56), (.t 57)])]) (.block 1 (.rfor (.t 58) [59, 60] c_pipe_Meet_l0 c_pipe_Meet_l1))) (.seq (.seq (.region false [oP 63 (.load false 1 (.t 6)),
 oP 64 (.bin .num .gtr (.t 63) (.c (.int .i64 1000)))]) (.cond (.t 64) (.seq (.region false [oP 65 (.build [.nil, .nil] []),
 ⟨none, .store 2 (.t 4) (.t 65), none, false⟩,
 oP 5 (.mv (.c (.int .i64 5)))]) .ret) .skip)) (.seq (.region false [oP 67 (.faddr 0 (.t 2)),
 oP 68 (.load false 1 (.t 67)),
 oP 69 (.faddr 0 (.t 3)),
 oP 70 (.load false 1 (.t 69)),
 oP 71 (.call (.f 69) [(.t 68), (.t 70)]),
 mV 66 71,
 oP 72 (.extract 0 (.t 66)),
 oP 73 (.extract 1 (.t 66)),
 oP 8 (.new 1 (.bool false)),
 mV 7 72,
 ⟨none, .store 1 (.t 8) (.t 73), none, false⟩]) (.seq (.region false [mV 74 7,
 oP 75 (.build [.nil, .nil] [(0, 1, (.t 74))]),
 oP 9 (.new 2 (.agg [.nil, .nil])),
 ⟨none, .store 2 (.t 9) (.t 75), none, false⟩]) (.seq (.region false [oP 76 (.load true 2 (.t 2)),
 oP 77 (.call (.f 64) [(.t 76)]),
 oP 10 (.new 3 (.agg [(.bool false), .nil, (.int .i64 0)])),
 ⟨none, .store 3 (.t 10) (.t 77), none, false⟩]) (.seq (.seq (.region false [oP 78 (.load true 2 (.t 2)),
 oP 79 (.load true 2 (.t 3)),
 oP 80 (.call (.f 588) [(.t 78), (.t 79)])]) (.block 3 (.rfor (.t 80) [81, 82] c_pipe_Meet_l2 c_pipe_Meet_l3))) (.seq (.seq (.region false [oP 129 (.load false 1 (.t 8)),
 oP 130 (.un .not (.t 129))]) (.cond (.t 130) (.seq (.region false [oP 131 (.build [.nil, .nil] []),
 ⟨none, .store 2 (.t 4) (.t 131), none, false⟩,
 oP 5 (.mv (.c (.int .i64 14)))]) .ret) .skip)) (.seq (.region false [oP 132 (.load true 2 (.t 9)),
 ⟨none, .store 2 (.t 4) (.t 132), none, false⟩,
 oP 5 (.mv (.c (.int .i64 0)))]) .ret))))))))))),
 false, false⟩

/- fpref37_Meet -/
def c_fpref37_Meet_l0 : AC := (.seq (.seq (.region false [mV 46 12,
 mV 47 7,
 oP 48 (.len (.t 47)),
 oP 49 (.bin .num .lss (.t 46) (.t 48)),
 mV 50 49,
 gT 51 50 (.mv (.t 9)),
 oP 52 (.pick (.t 50) (.t 51) (.c (.bool false)))]) (.cond (.t 52) .skip (.exit 0))) (.seq (.block 1 (.seq (.region true [oP 56 (.load true 2 (.t 2)),
 oP 57 (.load true 3 (.t 11)),
 mV 58 7,
 mV 59 12,
 oP 60 (.iaddr 3 (.t 58) (.t 59)),
 oP 61 (.load true 3 (.t 60)),
 oP 62 (.call (.f 590) [(.t 56), (.t 57), (.t 61)]),
 oP 63 (.load true 2 (.t 3)),
 oP 64 (.load true 3 (.t 11)),
 mV 65 7,
 mV 66 12,
 oP 67 (.iaddr 3 (.t 65) (.t 66)),
 oP 68 (.load true 3 (.t 67)),
 oS 69 (.call (.f 590) [(.t 63), (.t 64), (.t 68)]),
 oS 70 (.call (.f 34) [(.t 62), (.t 69)]),
 mV 55 70,
 oP 71 (.extract 0 (.t 55)),
 oP 72 (.extract 1 (.t 55)),
 mV 13 71,
 mV 14 72]) (.seq (.region true [oP 74 (.load true 2 (.t 2)),
 mV 75 7,
 mV 76 12,
 oP 77 (.iaddr 3 (.t 75) (.t 76)),
 oP 78 (.load true 3 (.t 77)),
 oP 79 (.call (.f 36) [(.t 74), (.t 78)]),
 oP 80 (.load true 2 (.t 3)),
 mV 81 7,
 mV 82 12,
 oP 83 (.iaddr 3 (.t 81) (.t 82)),
 oP 84 (.load true 3 (.t 83)),
 oS 85 (.call (.f 36) [(.t 80), (.t 84)]),
 oS 86 (.call (.f 34) [(.t 79), (.t 85)]),
 mV 73 86,
 oP 87 (.extract 0 (.t 73)),
 oP 88 (.extract 1 (.t 73)),
 mV 15 87,
 mV 16 88]) (.seq (.region false [mV 89 14,
 mV 90 89,
 gT 91 90 (.mv (.t 16)),
 oP 92 (.pick (.t 90) (.t 91) (.c (.bool false))),
 mV 9 92]) (.seq (.region true [oP 93 (.faddr 1 (.t 10)),
 oP 94 (.load false 1 (.t 93)),
 oP 95 (.load true 3 (.t 11)),
 mV 96 7,
 mV 97 12,
 oP 98 (.iaddr 3 (.t 96) (.t 97)),
 oP 99 (.load true 3 (.t 98)),
 mV 100 13,
 mV 101 15,
 oP 102 (.build [(.bool false), .nil, (.int .i64 0), (.bool false), .nil, (.int .i64 0), .nil, .nil] [(0, 3, (.t 95)), (3, 3, (.t 99)), (6, 1, (.t 100)), (7, 1, (.t 101))]),
 oP 103 (.bslice 8 1 (.agg [(.bool false), .nil, (.int .i64 0), (.bool false), .nil, (.int .i64 0), .nil, .nil]) [(0, (.t 102))]),
 oS 104 (.append 8 128 (.t 94) (.t 103)),
 oP 105 (.faddr 1 (.t 10)),
 ⟨none, .store 1 (.t 105) (.t 104), none, true⟩]) (.region false [mV 106 7,
 mV 107 12,
 oP 108 (.iaddr 3 (.t 106) (.t 107)),
 oP 109 (.load true 3 (.t 108)),
 ⟨none, .store 3 (.t 11) (.t 109), none, false⟩])))))) (.region false [mV 53 12,
 oP 54 (.bin .num .add (.t 53) (.c (.int .i64 1))),
 mV 12 54])))
@[simp] def c_fpref37_Meet : AFn := ⟨[(.cell 4 true 2), (.tmp 5)],
 (.seq (.region false [oP 2 (.box 2 (.t 0)),
 oP 3 (.box 2 (.t 1)),
 oP 4 (.new 2 (.agg [.nil, .nil])),
 oP 5 (.mv (.c (.int .i64 0)))]) (.seq (.region false [oP 17 (.load true 2 (.t 2)),
 oP 18 (.call (.f 24) [(.t 17)]),
 oP 6 (.new 3 (.agg [(.bool false), .nil, (.int .i64 0)])),
 ⟨none, .store 3 (.t 6) (.t 18), none, false⟩]) (.seq (.seq (.region true [oP 19 (.load true 2 (.t 3)),
 oP 20 (.call (.f 24) [(.t 19)]),
 oP 21 (.load true 3 (.t 6)),
 oS 22 (.call (.f 18) [(.t 20), (.t 21)]),
 oP 23 (.bin .num .lss (.t 22) (.c (.int .i64 0)))]) (.cond (.t 23) (.region false [oP 24 (.load true 2 (.t 3)),
 oP 25 (.call (.f 24) [(.t 24)]),
 ⟨none, .store 3 (.t 6) (.t 25), none, false⟩]) .skip)) (.seq (.region false [oP 26 (.load true 2 (.t 2)),
 oP 27 (.load true 2 (.t 3)),
 oP 28 (.load true 3 (.t 6)),
 oP 29 (.call (.f 589) [(.t 26), (.t 27), (.t 28)]),
 mV 7 29]) (.seq (.seq (.region false [mV 30 7,
 oP 31 (.len (.t 30)),
 oP 32 (.bin .num .gtr (.t 31) (.c (.int .i64 1000)))]) (.cond (.t 32) (.seq (.region false [oP 33 (.build [.nil, .nil] []),
 ⟨none, .store 2 (.t 4) (.t 33), none, false⟩,
 oP 5 (.mv (.c (.int .i64 5)))]) .ret) .skip)) (.seq (.region false [oP 35 (.faddr 0 (.t 2)),
 oP 36 (.load false 1 (.t 35)),
 oP 37 (.faddr 0 (.t 3)),
 oP 38 (.load false 1 (.t 37)),
 oP 39 (.call (.f 34) [(.t 36), (.t 38)]),
 mV 34 39,
 oP 40 (.extract 0 (.t 34)),
 oP 41 (.extract 1 (.t 34)),
 mV 8 40,
 mV 9 41]) (.seq (.region false [mV 42 8,
 oP 43 (.build [.nil, .nil] [(0, 1, (.t 42))]),
 oP 10 (.new 2 (.agg [.nil, .nil])),
 ⟨none, .store 2 (.t 10) (.t 43), none, false⟩]) (.seq (.region false [oP 44 (.load true 2 (.t 2)),
 oP 45 (.call (.f 26) [(.t 44)]),
 oP 11 (.new 3 (.agg [(.bool false), .nil, (.int .i64 0)])),
 ⟨none, .store 3 (.t 11) (.t 45), none, false⟩]) (.seq (.seq (.region false [oP 12 (.mv (.c (.int .i64 0)))]) (.block 0 (.loop c_fpref37_Meet_l0))) (.seq (.seq (.region false [mV 110 9,
 oP 111 (.un .not (.t 110))]) (.cond (.t 111) (.seq (.region false [oP 112 (.build [.nil, .nil] []),
 ⟨none, .store 2 (.t 4) (.t 112), none, false⟩,
 oP 5 (.mv (.c (.int .i64 14)))]) .ret) .skip)) (.seq (.region false [oP 113 (.load true 2 (.t 10)),
 ⟨none, .store 2 (.t 4) (.t 113), none, false⟩,
 oP 5 (.mv (.c (.int .i64 0)))]) .ret))))))))))),
 false, false⟩

/- pipe_Inside -/
def c_pipe_Inside_l0 : AC := (.seq (.region false [oP 63 (.bin .num .lss (.t 62) (.t 61))]) (.seq (.cond (.t 63) .skip (.exit 0)) (.seq (.block 1 (.seq (.region false [oP 64 (.iaddr 8 (.t 60) (.t 62)),
 oP 65 (.load true 8 (.t 64)),
 oP 7 (.new 8 (.agg [(.bool false), .nil, (.int .i64 0), (.bool false), .nil, (.int .i64 0), .nil, .nil])),
 ⟨none, .store 8 (.t 7) (.t 65), none, false⟩]) (.seq (.region false [oP 66 (.load true 2 (.t 2)),
 oP 67 (.faddr 3 (.t 7)),
 oP 68 (.load true 3 (.t 67)),
 oP 69 (.call (.f 58) [(.t 66), (.t 68)])]) (.cond (.t 69) (.region false [mV 70 5,
 oP 71 (.faddr 3 (.t 7)),
 oP 72 (.load true 3 (.t 71)),
 oP 73 (.bslice 3 1 (.agg [(.bool false), .nil, (.int .i64 0)]) [(0, (.t 72))]),
 oP 74 (.append 3 40 (.t 70) (.t 73)),
 mV 5 74]) .skip)))) (.region false [oP 75 (.bin .num .add (.t 62) (.c (.int .i64 1))),
 mV 62 75]))))
def c_pipe_Inside_l1 : AC := (.seq (.region false [oP 92 (.bin .num .lss (.t 91) (.t 90))]) (.seq (.cond (.t 92) .skip (.exit 4)) (.seq (.block 5 (.seq (.region false [oP 93 (.iaddr 8 (.t 89) (.t 91)),
 oP 94 (.load true 8 (.t 93)),
 oP 11 (.new 8 (.agg [(.bool false), .nil, (.int .i64 0), (.bool false), .nil, (.int .i64 0), .nil, .nil])),
 ⟨none, .store 8 (.t 11) (.t 94), none, false⟩]) (.seq (.region false [oP 95 (.faddr 0 (.t 9)),
 oP 96 (.load true 3 (.t 95)),
 oP 97 (.faddr 3 (.t 11)),
 oP 98 (.load true 3 (.t 97)),
 oP 99 (.call (.f 46) [(.t 96), (.t 98)]),
 mV 100 99,
 gT 101 100 (.faddr 0 (.t 11)),
 gT 102 100 (.load true 3 (.t 101)),
 gT 103 100 (.faddr 3 (.t 9)),
 gT 104 100 (.load true 3 (.t 103)),
 gT 105 100 (.call (.f 46) [(.t 102), (.t 104)]),
 oP 106 (.pick (.t 100) (.t 105) (.c (.bool false))),
 mV 107 106,
 gT 108 107 (.faddr 6 (.t 9)),
 gT 109 107 (.load false 1 (.t 108)),
 gT 110 107 (.faddr 6 (.t 11)),
 gT 111 107 (.load false 1 (.t 110)),
 gT 112 107 (.call (.f 53) [(.t 109), (.t 111)]),
 gT 113 107 (.un .not (.t 112)),
 oP 114 (.pick (.t 107) (.t 113) (.c (.bool false)))]) (.cond (.t 114) (.seq (.region false [oP 4 (.mv (.c (.bool false)))]) .ret) .skip)))) (.region false [oP 115 (.bin .num .add (.t 91) (.c (.int .i64 1))),
 mV 91 115]))))
def c_pipe_Inside_l2 : AC := (.seq (.region false [oP 80 (.bin .num .lss (.t 79) (.t 78))]) (.seq (.cond (.t 80) .skip (.exit 2)) (.seq (.block 3 (.seq (.region false [oP 81 (.iaddr 8 (.t 77) (.t 79)),
 oP 82 (.load true 8 (.t 81)),
 oP 9 (.new 8 (.agg [(.bool false), .nil, (.int .i64 0), (.bool false), .nil, (.int .i64 0), .nil, .nil])),
 ⟨none, .store 8 (.t 9) (.t 82), none, false⟩]) (.seq (.region false [mV 83 5,
 oP 84 (.faddr 3 (.t 9)),
 oP 85 (.load true 3 (.t 84)),
 oP 86 (.bslice 3 1 (.agg [(.bool false), .nil, (.int .i64 0)]) [(0, (.t 85))]),
 oP 87 (.append 3 40 (.t 83) (.t 86)),
 mV 5 87]) (.seq (.region false [oP 88 (.faddr 1 (.t 3)),
 oP 89 (.load false 1 (.t 88)),
 oP 90 (.len (.t 89)),
 oP 91 (.mv (.c (.int .i64 0)))]) (.block 4 (.loop c_pipe_Inside_l1)))))) (.region false [oP 116 (.bin .num .add (.t 79) (.c (.int .i64 1))),
 mV 79 116]))))
@[simp] def c_pipe_Inside : AFn := ⟨[(.tmp 4)],
 (.seq (.region false [oP 2 (.box 2 (.t 0)),
 oP 3 (.box 2 (.t 1)),
 oP 4 (.mv (.c (.bool false)))]) (.seq (.seq (.region true [oP 12 (.load true 2 (.t 2)),
 oS 13 (.call (.f 17) [(.t 12)]),
 oP 14 (.un .not (.t 13)),
 mV 15 14,
 gF 16 15 (.load true 2 (.t 3)),
 ⟨some 17, .call (.f 17) [(.t 16)], some (15, false), true⟩,
 gF 18 15 (.un .not (.t 17)),
 oP 19 (.pick (.t 15) (.c (.bool true)) (.t 18)),
 mV 20 19,
 gF 21 20 (.faddr 1 (.t 2)),
 gF 22 20 (.load false 1 (.t 21)),
 gF 23 20 (.len (.t 22)),
 gF 24 20 (.bin .num .eql (.t 23) (.c (.int .i64 0))),
 oP 25 (.pick (.t 20) (.c (.bool true)) (.t 24)),
 mV 26 25,
 gF 27 26 (.faddr 1 (.t 3)),
 gF 28 26 (.load false 1 (.t 27)),
 gF 29 26 (.len (.t 28)),
 gF 30 26 (.bin .num .eql (.t 29) (.c (.int .i64 0))),
 oP 31 (.pick (.t 26) (.c (.bool true)) (.t 30)),
 mV 32 31,
 gF 33 32 (.faddr 0 (.t 2)),
 gF 34 32 (.load false 1 (.t 33)),
 gF 35 32 (.len (.t 34)),
 gF 36 32 (.faddr 0 (.t 3)),
 gF 37 32 (.load false 1 (.t 36)),
 gF 38 32 (.len (.t 37)),
 gF 39 32 (.bin .num .neq (.t 35) (.t 38)),
 oP 40 (.pick (.t 32) (.c (.bool true)) (.t 39)),
 mV 41 40,
 gF 42 41 (.load true 2 (.t 3)),
 gF 43 41 (.load true 2 (.t 2)),
 gF 44 41 (.call (.f 64) [(.t 43)]),
 ⟨some 45, .call (.f 58) [(.t 42), (.t 44)], some (41, false), true⟩,
 gF 46 41 (.un .not (.t 45)),
 oP 47 (.pick (.t 41) (.c (.bool true)) (.t 46)),
 mV 48 47,
 gF 49 48 (.load true 2 (.t 3)),
 gF 50 48 (.load true 2 (.t 2)),
 gF 51 48 (.call (.f 61) [(.t 50)]),
 gF 52 48 (.field true 3 3 (.t 51)),
 ⟨some 53, .call (.f 58) [(.t 49), (.t 52)], some (48, false), true⟩,
 gF 54 48 (.un .not (.t 53)),
 oP 55 (.pick (.t 48) (.c (.bool true)) (.t 54))]) (.cond (.t 55) (.seq (.region false [oP 4 (.mv (.c (.bool false)))]) .ret) .skip)) (.seq (.region false [oP 56 (.load true 2 (.t 2)),
 oP 57 (.call (.f 64) [(.t 56)]),
 oP 58 (.bslice 3 1 (.agg [(.bool false), .nil, (.int .i64 0)]) [(0, (.t 57))]),
 mV 5 58]) (.seq (.seq (.region false [oP 59 (.faddr 1 (.t 3)),
 oP 60 (.load false 1 (.t 59)),
 oP 61 (.len (.t 60)),
 oP 62 (.mv (.c (.int .i64 0)))]) (.block 0 (.loop c_pipe_Inside_l0))) (.seq (.seq (.region false [oP 76 (.faddr 1 (.t 2)),
 oP 77 (.load false 1 (.t 76)),
 oP 78 (.len (.t 77)),
 oP 79 (.mv (.c (.int .i64 0)))]) (.block 2 (.loop c_pipe_Inside_l2))) (.seq (.region false [mV 117 5,
 oP 118 (.mkfn 592 [(.t 2), (.t 3)]),
 oP 119 (.call (.f 591) [(.t 117), (.t 118)]),
 oP 120 (.un .not (.t 119)),
 mV 4 120]) .ret)))))),
 false, false⟩

/- pipe_pieces -/
@[simp] def c_pipe_pieces : AFn := ⟨[(.tmp 4)],
 (.seq (.region false [oP 2 (.box 2 (.t 0)),
 oP 3 (.box 2 (.t 1)),
 oP 4 (.mv (.c .nilfn))]) (.seq (.region false [oP 5 (.mkfn 593 [(.t 2), (.t 3)]),
 mV 4 5]) .ret)),
 false, false⟩

/- fpref37_Ends -/
def c_fpref37_Ends_l0 : AC := (.seq (.seq (.region false [mV 11 8,
 oP 12 (.faddr 1 (.t 3)),
 oP 13 (.load false 1 (.t 12)),
 oP 14 (.len (.t 13)),
 oP 15 (.bin .num .lss (.t 11) (.t 14)),
 mV 16 15,
 gF 17 16 (.mv (.t 9)),
 gF 18 16 (.faddr 1 (.t 4)),
 gF 19 16 (.load false 1 (.t 18)),
 gF 20 16 (.len (.t 19)),
 gF 21 16 (.bin .num .lss (.t 17) (.t 20)),
 oP 22 (.pick (.t 16) (.c (.bool true)) (.t 21))]) (.cond (.t 22) .skip (.exit 0))) (.block 1 (.seq (.region false [oP 10 (.new 3 (.agg [(.bool false), .nil, (.int .i64 0)]))]) (.seq (.seq (.region true [mV 23 9,
 oP 24 (.faddr 1 (.t 4)),
 oP 25 (.load false 1 (.t 24)),
 oP 26 (.len (.t 25)),
 oP 27 (.bin .num .eql (.t 23) (.t 26)),
 mV 28 27,
 gF 29 28 (.mv (.t 8)),
 gF 30 28 (.faddr 1 (.t 3)),
 gF 31 28 (.load false 1 (.t 30)),
 gF 32 28 (.len (.t 31)),
 gF 33 28 (.bin .num .lss (.t 29) (.t 32)),
 gF 34 28 (.mv (.t 33)),
 gT 35 34 (.faddr 1 (.t 3)),
 gT 36 34 (.load false 1 (.t 35)),
 gT 37 34 (.mv (.t 8)),
 gT 38 34 (.iaddr 8 (.t 36) (.t 37)),
 gT 39 34 (.faddr 3 (.t 38)),
 gT 40 34 (.load true 3 (.t 39)),
 gT 41 34 (.faddr 1 (.t 4)),
 gT 42 34 (.load false 1 (.t 41)),
 gT 43 34 (.mv (.t 9)),
 gT 44 34 (.iaddr 8 (.t 42) (.t 43)),
 gT 45 34 (.faddr 3 (.t 44)),
 gT 46 34 (.load true 3 (.t 45)),
 ⟨some 47, .call (.f 18) [(.t 40), (.t 46)], some (34, true), true⟩,
 gT 48 34 (.bin .num .leq (.t 47) (.c (.int .i64 0))),
 gF 49 28 (.pick (.t 34) (.t 48) (.c (.bool false))),
 oP 50 (.pick (.t 28) (.c (.bool true)) (.t 49))]) (.cond (.t 50) (.seq (.region false [oP 51 (.faddr 1 (.t 3)),
 oP 52 (.load false 1 (.t 51)),
 mV 53 8,
 oP 54 (.iaddr 8 (.t 52) (.t 53)),
 oP 55 (.faddr 3 (.t 54)),
 oP 56 (.load true 3 (.t 55)),
 ⟨none, .store 3 (.t 10) (.t 56), none, false⟩]) (.seq (.seq (.region true [mV 57 9,
 oP 58 (.faddr 1 (.t 4)),
 oP 59 (.load false 1 (.t 58)),
 oP 60 (.len (.t 59)),
 oP 61 (.bin .num .lss (.t 57) (.t 60)),
 mV 62 61,
 gT 63 62 (.load true 3 (.t 10)),
 gT 64 62 (.faddr 1 (.t 4)),
 gT 65 62 (.load false 1 (.t 64)),
 gT 66 62 (.mv (.t 9)),
 gT 67 62 (.iaddr 8 (.t 65) (.t 66)),
 gT 68 62 (.faddr 3 (.t 67)),
 gT 69 62 (.load true 3 (.t 68)),
 ⟨some 70, .call (.f 23) [(.t 63), (.t 69)], some (62, true), true⟩,
 oP 71 (.pick (.t 62) (.t 70) (.c (.bool false)))]) (.cond (.t 71) (.region false [mV 72 9,
 oP 73 (.bin .num .add (.t 72) (.c (.int .i64 1))),
 mV 9 73]) .skip)) (.region false [mV 74 8,
 oP 75 (.bin .num .add (.t 74) (.c (.int .i64 1))),
 mV 8 75]))) (.seq (.region false [oP 76 (.faddr 1 (.t 4)),
 oP 77 (.load false 1 (.t 76)),
 mV 78 9,
 oP 79 (.iaddr 8 (.t 77) (.t 78)),
 oP 80 (.faddr 3 (.t 79)),
 oP 81 (.load true 3 (.t 80)),
 ⟨none, .store 3 (.t 10) (.t 81), none, false⟩]) (.region false [mV 82 9,
 oP 83 (.bin .num .add (.t 82) (.c (.int .i64 1))),
 mV 9 83])))) (.seq (.region false [oP 84 (.load true 3 (.t 10)),
 oP 85 (.load true 3 (.t 5)),
 oP 86 (.call (.f 18) [(.t 84), (.t 85)]),
 oP 87 (.bin .num .leq (.t 86) (.c (.int .i64 0)))]) (.cond (.t 87) (.region false [mV 88 7,
 oP 89 (.load true 3 (.t 10)),
 oP 90 (.bslice 3 1 (.agg [(.bool false), .nil, (.int .i64 0)]) [(0, (.t 89))]),
 oP 91 (.append 3 40 (.t 88) (.t 90)),
 mV 7 91]) .skip))))))
@[simp] def c_fpref37_Ends : AFn := ⟨[(.tmp 6)],
 (.seq (.region false [oP 3 (.box 2 (.t 0)),
 oP 4 (.box 2 (.t 1)),
 oP 5 (.box 3 (.t 2)),
 oP 6 (.mv (.c .nil))]) (.seq (.region false [oP 7 (.mv (.c .nil))]) (.seq (.region false [oP 8 (.mv (.c (.int .i64 0))),
 oP 9 (.mv (.c (.int .i64 0)))]) (.seq (.block 0 (.loop c_fpref37_Ends_l0)) (.seq (.region false [mV 92 7,
 mV 6 92]) .ret))))),
 false, false⟩

/- fpref37_Tube -/
@[simp] def c_fpref37_Tube : AFn := ⟨[(.tmp 6)],
 (.seq (.region false [oP 3 (.box 2 (.t 0)),
 oP 4 (.box 3 (.t 1)),
 oP 5 (.box 3 (.t 2)),
 oP 6 (.mv (.c .nil))]) (.seq (.region false [oP 7 (.load true 2 (.t 3)),
 oP 8 (.load true 3 (.t 4)),
 oP 9 (.load true 3 (.t 5)),
 oP 10 (.call (.f 37) [(.t 7), (.t 8), (.t 9)]),
 mV 6 10]) .ret)),
 false, false⟩

/- slices_ContainsFunc_Dyadic -/
@[simp] def c_slices_ContainsFunc_Dyadic : AFn := ⟨[(.tmp 4)],
 (.seq (.region false [oP 4 (.mv (.c (.bool false)))]) (.seq (.region false [mV 5 0,
 mV 6 1,
 oP 7 (.call (.f 594) [(.t 5), (.t 6)]),
 oP 8 (.bin .num .geq (.t 7) (.c (.int .i64 0))),
 mV 4 8]) .ret)),
 false, false⟩

/- pipe_Inside_1 -/
@[simp] def c_pipe_Inside_1 : AFn := ⟨[(.tmp 4)],
 (.seq (.region false [oP 3 (.box 3 (.t 0)),
 oP 4 (.mv (.c (.bool false)))]) (.seq (.region true [oP 5 (.load true 2 (.t 1)),
 oP 6 (.load true 3 (.t 3)),
 oP 7 (.call (.f 59) [(.t 5), (.t 6)]),
 oP 8 (.load true 2 (.t 2)),
 oP 9 (.load true 3 (.t 3)),
 oS 10 (.call (.f 59) [(.t 8), (.t 9)]),
 oS 11 (.call (.f 53) [(.t 7), (.t 10)]),
 oP 12 (.un .not (.t 11)),
 mV 4 12]) .ret)),
 false, false⟩

/- pipe_pieces_1 -/
@[simp] def c_pipe_pieces_1_r0 : List AOper :=
 [oP 4 (.mv (.c (.int .i64 0))),
  oP 5 (.mv (.c (.int .i64 0)))]
def c_pipe_pieces_1_l0 : AC := (.seq (.seq (.region false [mV 10 4,
 oP 11 (.faddr 1 (.t 1)),
 oP 12 (.load false 1 (.t 11)),
 oP 13 (.len (.t 12)),
 oP 14 (.bin .num .lss (.t 10) (.t 13)),
 mV 15 14,
 gT 16 15 (.mv (.t 5)),
 gT 17 15 (.faddr 1 (.t 2)),
 gT 18 15 (.load false 1 (.t 17)),
 gT 19 15 (.len (.t 18)),
 gT 20 15 (.bin .num .lss (.t 16) (.t 19)),
 oP 21 (.pick (.t 15) (.t 20) (.c (.bool false)))]) (.cond (.t 21) .skip (.exit 0))) (.block 1 (.seq (.region true [oP 22 (.faddr 1 (.t 1)),
 oP 23 (.load false 1 (.t 22)),
 mV 24 4,
 oP 25 (.iaddr 8 (.t 23) (.t 24)),
 oP 26 (.faddr 3 (.t 25)),
 oP 27 (.load true 3 (.t 26)),
 oP 28 (.faddr 1 (.t 2)),
 oP 29 (.sload false 1 28),
 mV 30 5,
 oP 31 (.iaddr 8 (.t 29) (.t 30)),
 oP 32 (.faddr 3 (.t 31)),
 oP 33 (.sload true 3 32),
 oP 6 (.new 3 (.agg [(.bool false), .nil, (.int .i64 0)])),
 oP 7 (.new 3 (.agg [(.bool false), .nil, (.int .i64 0)])),
 ⟨none, .storeN 3 (.t 6) (.t 27) [28, 32], none, true⟩,
 ⟨none, .store 3 (.t 7) (.t 33), none, true⟩]) (.seq (.region false [oP 34 (.load true 3 (.t 6)),
 mV 35 4,
 mV 36 5,
 oP 37 (.build [(.int .i64 0), (.int .i64 0)] [(0, 1, (.t 35)), (1, 1, (.t 36))]),
 oP 8 (.new 3 (.agg [(.bool false), .nil, (.int .i64 0)])),
 oP 9 (.new 2 (.agg [(.int .i64 0), (.int .i64 0)])),
 ⟨none, .store 3 (.t 8) (.t 34), none, false⟩,
 ⟨none, .store 2 (.t 9) (.t 37), none, false⟩]) (.seq (.seq (.region false [oP 38 (.load true 3 (.t 7)),
 oP 39 (.load true 3 (.t 6)),
 oP 40 (.call (.f 46) [(.t 38), (.t 39)])]) (.cond (.t 40) (.region false [oP 41 (.load true 3 (.t 7)),
 ⟨none, .store 3 (.t 8) (.t 41), none, false⟩]) .skip)) (.seq (.seq (.region false [mV 42 0,
 oP 43 (.load true 3 (.t 8)),
 oP 44 (.load true 2 (.t 9)),
 oP 45 (.call (.t 42) [(.t 43), (.t 44)]),
 oP 46 (.un .not (.t 45))]) (.cond (.t 46) (.exit 0) .skip)) (.seq (.seq (.region false [oP 47 (.load true 3 (.t 8)),
 oP 48 (.load true 3 (.t 6)),
 oP 49 (.call (.f 46) [(.t 47), (.t 48)]),
 oP 50 (.un .not (.t 49))]) (.cond (.t 50) (.region false [mV 51 4,
 oP 52 (.bin .num .add (.t 51) (.c (.int .i64 1))),
 mV 4 52]) .skip)) (.seq (.region false [oP 53 (.load true 3 (.t 8)),
 oP 54 (.load true 3 (.t 7)),
 oP 55 (.call (.f 46) [(.t 53), (.t 54)]),
 oP 56 (.un .not (.t 55))]) (.cond (.t 56) (.region false [mV 57 5,
 oP 58 (.bin .num .add (.t 57) (.c (.int .i64 1))),
 mV 5 58]) .skip)))))))))
@[simp] def c_pipe_pieces_1 : AFn := ⟨[],
 (.scope (.seq (.region false c_pipe_pieces_1_r0) (.seq .skip (.block 0 (.loop c_pipe_pieces_1_l0))))),
 false, false⟩

/- slices_IndexFunc_Dyadic -/
def c_slices_IndexFunc_Dyadic_l0 : AC := (.seq (.region false [oP 9 (.bin .num .lss (.t 8) (.t 7))]) (.seq (.cond (.t 9) .skip (.exit 0)) (.seq (.block 1 (.seq (.region false [mV 10 8,
 mV 5 10]) (.seq (.region false [mV 11 1,
 mV 12 0,
 mV 13 5,
 oP 14 (.iaddr 3 (.t 12) (.t 13)),
 oP 15 (.load true 3 (.t 14)),
 oP 16 (.call (.t 11) [(.t 15)])]) (.cond (.t 16) (.seq (.region false [mV 17 5,
 mV 4 17]) .ret) .skip)))) (.region false [oP 18 (.bin .num .add (.t 8) (.c (.int .i64 1))),
 mV 8 18]))))
@[simp] def c_slices_IndexFunc_Dyadic : AFn := ⟨[(.tmp 4)],
 (.seq (.region false [oP 4 (.mv (.c (.int .i64 0)))]) (.seq (.seq (.region false [mV 6 0,
 oP 7 (.len (.t 6)),
 oP 8 (.mv (.c (.int .i64 0)))]) (.block 0 (.loop c_slices_IndexFunc_Dyadic_l0))) (.seq (.region false [oP 4 (.mv (.c (.int .i64 (-1))))]) .ret))),
 false, false⟩

end Go.Abs
/- MADE BY A PROGRAM (wip/tools/mkcode.py): our numbers of the functions, and the program. -/
namespace Go.Abs

abbrev g_fplaw37_awake : Nat := 7
abbrev g_fplaw37_great : Nat := 8
abbrev g_fplaw37_long : Nat := 9
abbrev g_pipe_Cut : Nat := 10
abbrev g_fpref37_Valid : Nat := 11
abbrev g_fpref02_Valid : Nat := 12
abbrev g_fplaw37_zero : Nat := 13
abbrev g_fpref37_Same : Nat := 15
abbrev g_pipe_Valid : Nat := 17
abbrev g_fpref02_Cmp : Nat := 18
abbrev g_pipe_At : Nat := 19
abbrev g_fpref37_Equal : Nat := 20
abbrev g_fpref02_Equal : Nat := 23
abbrev g_fpref37_Last : Nat := 24
abbrev g_fpref37_First : Nat := 26
abbrev g_fpref37_Inside : Nat := 27
abbrev g_fplaw37_wide : Nat := 29
abbrev g_fpref37_Box : Nat := 31
abbrev g_slices_IndexFunc_Segment : Nat := 32
abbrev g_fpref37_Common : Nat := 34
abbrev g_fpref37_At : Nat := 36
abbrev g_fpref37_Over : Nat := 37
abbrev g_fplaw37_example : Nat := 38
abbrev g_fplaw37_n : Nat := 39
abbrev g_fplaw37_of : Nat := 40
abbrev g_slices_ContainsFunc_Pipe : Nat := 41
abbrev g_fplaw37_great_1 : Nat := 42
abbrev g_slices_ContainsFunc_Segment : Nat := 43
abbrev g_fplaw37_great_1_1 : Nat := 44
abbrev g_pipe_copied : Nat := 45
abbrev g_pipe_less : Nat := 46
abbrev g_slices_Clone_Interval : Nat := 47
abbrev g_fpref37_Before : Nat := 48
abbrev g_fpref02_bits : Nat := 49
abbrev g_box_Valid : Nat := 50
abbrev g_dyadic_Valid : Nat := 51
abbrev g_dyadic_Cmp : Nat := 52
abbrev g_box_Inside : Nat := 53
abbrev g_fpref02_Sign : Nat := 54
abbrev g_fpref02_Top : Nat := 55
abbrev g_fpref02_Sum : Nat := 56
abbrev g_fpref02_Neg : Nat := 57
abbrev g_pipe_during : Nat := 58
abbrev g_pipe_at : Nat := 59
abbrev g_fpref05_Equal : Nat := 60
abbrev g_pipe_last : Nat := 61
abbrev g_fpref02_compare : Nat := 63
abbrev g_pipe_begin : Nat := 64
abbrev g_fpref05_Inside : Nat := 65
abbrev g_slices_ContainsFunc_Interval : Nat := 67
abbrev g_fplaw37_wide_1 : Nat := 68
abbrev g_box_Meet : Nat := 69
abbrev g_fpref05_Valid : Nat := 70
abbrev g_fpref05_Meet : Nat := 71
abbrev g_fpref37_Hull : Nat := 73
abbrev g_fpref02_Int : Nat := 74
abbrev g_slices_IndexFunc_Pipe : Nat := 75
abbrev g_box_Valid_1 : Nat := 76
abbrev g_interval_Valid : Nat := 77
abbrev g_dyadic_inRange : Nat := 78
abbrev g_dyadic_Sign : Nat := 79
abbrev g_dyadic_compare : Nat := 80
abbrev g_box_two : Nat := 81
abbrev g_slices_EqualFunc_Interval : Nat := 82
abbrev g_interval_Inside : Nat := 83
abbrev g_fpref02_left : Nat := 84
abbrev g_fpref02_Of : Nat := 85
abbrev g_fpref02_plus : Nat := 86
abbrev g_fpref02_minus : Nat := 87
abbrev g_pipe_at_1 : Nat := 88
abbrev g_slices_IndexFunc_Interval : Nat := 89
abbrev g_interval_Meet : Nat := 90
abbrev g_fpref05_zero : Nat := 91
abbrev g_fpref05_most : Nat := 92
abbrev g_fpref05_least : Nat := 93
abbrev g_fpref05_Hull : Nat := 95
abbrev g_interval_Valid_1 : Nat := 96
abbrev g_dyadic_size : Nat := 97
abbrev g_dyadic_Top : Nat := 98
abbrev g_natural_Cmp : Nat := 99
abbrev g_dyadic_shifted : Nat := 100
abbrev g_fpref02_trim : Nat := 101
abbrev g_fpref02_zeros : Nat := 102
abbrev g_fpref02_right : Nat := 103
abbrev g_interval_more : Nat := 104
abbrev g_interval_less : Nat := 105
abbrev g_fpref05_known : Nat := 108
abbrev g_fpref05_Whole : Nat := 109
abbrev g_natural_Bits : Nat := 110
abbrev g_natural_trim : Nat := 111
abbrev g_natural_Shl : Nat := 112
abbrev g_math_bits_Len32 : Nat := 113
abbrev g_natural_long : Nat := 114
abbrev g_natural_done : Nat := 115
abbrev g_natural_shl : Nat := 116
abbrev g_slices_ContainsFunc_uint32s : Nat := 117
abbrev g_natural_long_1 : Nat := 118
abbrev g_slices_Clip_uint32 : Nat := 119
abbrev g_slices_IndexFunc_uint32s : Nat := 120
abbrev g_fplaw37_PipeMeets : Nat := 584
abbrev g_pipe_Meet : Nat := 585
abbrev g_fpref37_Meet : Nat := 586
abbrev g_pipe_Inside : Nat := 587
abbrev g_pipe_pieces : Nat := 588
abbrev g_fpref37_Ends : Nat := 589
abbrev g_fpref37_Tube : Nat := 590
abbrev g_slices_ContainsFunc_Dyadic : Nat := 591
abbrev g_pipe_Inside_1 : Nat := 592
abbrev g_pipe_pieces_1 : Nat := 593
abbrev g_slices_IndexFunc_Dyadic : Nat := 594

def fnList : List (Nat × AFn) :=
 [(7, c_fplaw37_awake),
  (8, c_fplaw37_great),
  (9, c_fplaw37_long),
  (10, c_pipe_Cut),
  (11, c_fpref37_Valid),
  (12, c_fpref02_Valid),
  (13, c_fplaw37_zero),
  (15, c_fpref37_Same),
  (17, c_pipe_Valid),
  (18, c_fpref02_Cmp),
  (19, c_pipe_At),
  (20, c_fpref37_Equal),
  (23, c_fpref02_Equal),
  (24, c_fpref37_Last),
  (26, c_fpref37_First),
  (27, c_fpref37_Inside),
  (29, c_fplaw37_wide),
  (31, c_fpref37_Box),
  (32, c_slices_IndexFunc_Segment),
  (34, c_fpref37_Common),
  (36, c_fpref37_At),
  (37, c_fpref37_Over),
  (38, c_fplaw37_example),
  (39, c_fplaw37_n),
  (40, c_fplaw37_of),
  (41, c_slices_ContainsFunc_Pipe),
  (42, c_fplaw37_great_1),
  (43, c_slices_ContainsFunc_Segment),
  (44, c_fplaw37_great_1_1),
  (45, c_pipe_copied),
  (46, c_pipe_less),
  (47, c_slices_Clone_Interval),
  (48, c_fpref37_Before),
  (49, c_fpref02_bits),
  (50, c_box_Valid),
  (51, c_dyadic_Valid),
  (52, c_dyadic_Cmp),
  (53, c_box_Inside),
  (54, c_fpref02_Sign),
  (55, c_fpref02_Top),
  (56, c_fpref02_Sum),
  (57, c_fpref02_Neg),
  (58, c_pipe_during),
  (59, c_pipe_at),
  (60, c_fpref05_Equal),
  (61, c_pipe_last),
  (63, c_fpref02_compare),
  (64, c_pipe_begin),
  (65, c_fpref05_Inside),
  (67, c_slices_ContainsFunc_Interval),
  (68, c_fplaw37_wide_1),
  (69, c_box_Meet),
  (70, c_fpref05_Valid),
  (71, c_fpref05_Meet),
  (73, c_fpref37_Hull),
  (74, c_fpref02_Int),
  (75, c_slices_IndexFunc_Pipe),
  (76, c_box_Valid_1),
  (77, c_interval_Valid),
  (78, c_dyadic_inRange),
  (79, c_dyadic_Sign),
  (80, c_dyadic_compare),
  (81, c_box_two),
  (82, c_slices_EqualFunc_Interval),
  (83, c_interval_Inside),
  (84, c_fpref02_left),
  (85, c_fpref02_Of),
  (86, c_fpref02_plus),
  (87, c_fpref02_minus),
  (88, c_pipe_at_1),
  (89, c_slices_IndexFunc_Interval),
  (90, c_interval_Meet),
  (91, c_fpref05_zero),
  (92, c_fpref05_most),
  (93, c_fpref05_least),
  (95, c_fpref05_Hull),
  (96, c_interval_Valid_1),
  (97, c_dyadic_size),
  (98, c_dyadic_Top),
  (99, c_natural_Cmp),
  (100, c_dyadic_shifted),
  (101, c_fpref02_trim),
  (102, c_fpref02_zeros),
  (103, c_fpref02_right),
  (104, c_interval_more),
  (105, c_interval_less),
  (108, c_fpref05_known),
  (109, c_fpref05_Whole),
  (110, c_natural_Bits),
  (111, c_natural_trim),
  (112, c_natural_Shl),
  (113, c_math_bits_Len32),
  (114, c_natural_long),
  (115, c_natural_done),
  (116, c_natural_shl),
  (117, c_slices_ContainsFunc_uint32s),
  (118, c_natural_long_1),
  (119, c_slices_Clip_uint32),
  (120, c_slices_IndexFunc_uint32s),
  (584, c_fplaw37_PipeMeets),
  (585, c_pipe_Meet),
  (586, c_fpref37_Meet),
  (587, c_pipe_Inside),
  (588, c_pipe_pieces),
  (589, c_fpref37_Ends),
  (590, c_fpref37_Tube),
  (591, c_slices_ContainsFunc_Dyadic),
  (592, c_pipe_Inside_1),
  (593, c_pipe_pieces_1),
  (594, c_slices_IndexFunc_Dyadic)]

end Go.Abs
/- Rules to find out what abstract code does: total correctness, backward, no loop without a measure. -/
namespace Go.Abs

section
variable {S : AProg}

def WC (S : AProg) (n0 : Nat) (c : AC) (E : Env) (H : Heap) (Q : AX → Env → Heap → Prop) : Prop :=
 ∃ x E1 H1, Ev S (.code n0 c E H) (.cd x E1 H1) ∧ Q x E1 H1

def WO (S : AProg) (n0 : Nat) (d : Bool) (l : List AOper) (E : Env) (H : Heap) (Q : Env → Heap → Prop) : Prop :=
 ∃ E1 H1, Ev S (.ops n0 d l E H) (.cd .normal E1 H1) ∧ Q E1 H1

def CT (S : AProg) (g : Nat) (args : List V) (H : Heap) (Q : V → Heap → Prop) : Prop :=
 ∃ v H1, Ev S (.call g args H) (.ret v H1) ∧ Q v H1

/-- The everyday contract: the answer, and nothing else has turned. -/
def CQ (S : AProg) (g : Nat) (args : List V) (v : V) : Prop := ∀ H, Ev S (.call g args H) (.ret v H)

variable {n0 : Nat} {E : Env} {H : Heap} {Q : AX → Env → Heap → Prop} {R : Env → Heap → Prop} {d : Bool}

theorem WC.mono {c : AC} {Q' : AX → Env → Heap → Prop} (h : WC S n0 c E H Q) (hq : ∀ x E H, Q x E H → Q' x E H) : WC S n0 c E H Q' :=
 let ⟨x, E1, H1, e, q⟩ := h; ⟨x, E1, H1, e, hq _ _ _ q⟩

theorem WO.mono {l : List AOper} {R' : Env → Heap → Prop} (h : WO S n0 d l E H R) (hq : ∀ E H, R E H → R' E H) : WO S n0 d l E H R' :=
 let ⟨E1, H1, e, q⟩ := h; ⟨E1, H1, e, hq _ _ q⟩

theorem CT.mono {g : Nat} {args : List V} {Q Q' : V → Heap → Prop} (h : CT S g args H Q) (hq : ∀ v H, Q v H → Q' v H) : CT S g args H Q' :=
 let ⟨v, H1, e, q⟩ := h; ⟨v, H1, e, hq _ _ q⟩

theorem WC_skip (h : Q .normal E H) : WC S n0 .skip E H Q := ⟨_, _, _, .skip, h⟩
theorem WC_exit {id : Nat} (h : Q (.exit id) E H) : WC S n0 (.exit id) E H Q := ⟨_, _, _, .exit, h⟩
theorem WC_ret (h : Q .ret E H) : WC S n0 .ret E H Q := ⟨_, _, _, .ret, h⟩

def AX.thn (K : Env → Heap → Prop) (Q : AX → Env → Heap → Prop) : AX → Env → Heap → Prop
 | .normal, E, H => K E H
 | x, E, H => Q x E H

theorem WC_seq {a b : AC} (h : WC S n0 a E H (AX.thn (fun E H => WC S n0 b E H Q) Q)) : WC S n0 (.seq a b) E H Q := by
 obtain ⟨x, E1, H1, e, q⟩ := h
 cases x with
 | normal => obtain ⟨y, E2, H2, e2, q2⟩ := q; exact ⟨y, E2, H2, .seqN e e2, q2⟩
 | exit id => exact ⟨_, _, _, .seqX e (by simp), q⟩
 | ret => exact ⟨_, _, _, .seqX e (by simp), q⟩

theorem WC_cond {c : X} {a b : AC} {t : Bool} (hc : getX E c = .bool t) (h1 : t = true → WC S n0 a E H Q) (h2 : t = false → WC S n0 b E H Q) : WC S n0 (.cond c a b) E H Q := by
 cases t with
 | true => obtain ⟨x, E1, H1, e, q⟩ := h1 rfl; exact ⟨x, E1, H1, .cond hc (by simpa using e), q⟩
 | false => obtain ⟨x, E1, H1, e, q⟩ := h2 rfl; exact ⟨x, E1, H1, .cond hc (by simpa using e), q⟩

theorem WC_true {c : X} {a b : AC} (hc : getX E c = .bool true) (h : WC S n0 a E H Q) : WC S n0 (.cond c a b) E H Q := WC_cond hc (fun _ => h) (by simp)
theorem WC_false {c : X} {a b : AC} (hc : getX E c = .bool false) (h : WC S n0 b E H Q) : WC S n0 (.cond c a b) E H Q := WC_cond hc (by simp) (fun _ => h)

theorem WC_block {id : Nat} {c : AC} (h : WC S n0 c E H (fun x E H => Q (x.outOf id) E H)) : WC S n0 (.block id c) E H Q := by
 obtain ⟨x, E1, H1, e, q⟩ := h
 exact ⟨_, _, _, .block e, q⟩

theorem WC_scope {c : AC} (h : WC S n0 c E H Q) : WC S n0 (.scope c) E H Q := by
 obtain ⟨x, E1, H1, e, q⟩ := h
 exact ⟨_, _, _, .scope e, q⟩

theorem WC_region {l : List AOper} (h : WO S n0 d l E H (fun E H => Q .normal E H)) : WC S n0 (.region d l) E H Q := by
 obtain ⟨E1, H1, e, q⟩ := h
 exact ⟨_, _, _, .region e, q⟩

theorem WC_loop {c : AC} (I : Nat → Env → Heap → Prop) (k : Nat) (h0 : I k E H)
   (round : ∀ k E H, I k E H → WC S n0 c E H (AX.thn (fun E1 H1 => ∃ j, j < k ∧ I j E1 H1) Q)) : WC S n0 (.loop c) E H Q := by
 induction k using Nat.strongRecOn generalizing E H with
 | _ k ih =>
   obtain ⟨x, E1, H1, e, q⟩ := round k E H h0
   cases x with
   | normal =>
     obtain ⟨j, hj, hI⟩ := q
     obtain ⟨y, E2, H2, e2, q2⟩ := ih j hj hI
     exact ⟨y, E2, H2, .loopN e e2, q2⟩
   | exit id => exact ⟨_, _, _, .loopX e (by simp), q⟩
   | ret => exact ⟨_, _, _, .loopX e (by simp), q⟩

theorem WO_nil (h : R E H) : WO S n0 d [] E H R := ⟨_, _, .opNil, h⟩

/-- The rest of a region, standing at a call: nothing is done before a contract is offered. -/
def WOcall (S : AProg) (n0 : Nat) (d : Bool) (dst : Option Nat) (x : X) (xs : List X) (gu : Option (Nat × Bool)) (sy : Bool) (l : List AOper) (E : Env) (H : Heap) (R : Env → Heap → Prop) : Prop :=
 WO S n0 d (⟨dst, .call x xs, gu, sy⟩ :: l) E H R

/-- What an operation comes to. -/
def stepP (S : AProg) (n0 : Nat) (d : Bool) (dst : Option Nat) (op : AOp) (gu : Option (Nat × Bool)) (sy : Bool) (l : List AOper) (E : Env) (H : Heap) (R : Env → Heap → Prop) : Prop :=
 match gd ⟨dst, op, gu, sy⟩ E with
 | some false => WO S n0 d l (put E dst .undef) H R
 | some true =>
   match op with
   | .call x xs => WOcall S n0 d dst x xs none sy l E H R
   | op =>
     match stp n0 op E H with
     | some (v, H1) => ((d && !sy) = true → H <+: H1) ∧ WO S n0 d l (put E dst v) H1 R
     | none => False
 | none => False

theorem WO_cons {dst : Option Nat} {op : AOp} {gu : Option (Nat × Bool)} {sy : Bool} {l : List AOper} (h : stepP S n0 d dst op gu sy l E H R) : WO S n0 d (⟨dst, op, gu, sy⟩ :: l) E H R := by
 unfold stepP at h
 split at h
 · rename_i hg
   obtain ⟨E1, H1, e, q⟩ := h
   exact ⟨_, _, .opSkip hg e, q⟩
 · rename_i hg
   split at h
   · obtain ⟨E1, H1, e, q⟩ := h
     refine ⟨E1, H1, ?_, q⟩
     cases e with
     | opSkip hg' _ => simp [gd] at hg'
     | opDo _ hs _ _ => cases hs
     | opCall _ ho hx hp e1 hpre e2 => exact .opCall hg ho hx hp e1 hpre e2
   · split at h
     · rename_i v H1 hs
       obtain ⟨hp, E1, H2, e, q⟩ := h
       exact ⟨_, _, .opDo hg hs (fun hd hsy => hp (by simp [hd]; simpa using hsy)) e, q⟩
     · exact h.elim
 · exact h.elim

theorem WO_iff {dst : Option Nat} {op : AOp} {gu : Option (Nat × Bool)} {sy : Bool} {l : List AOper} : WO S n0 d (⟨dst, op, gu, sy⟩ :: l) E H R ↔ stepP S n0 d dst op gu sy l E H R := by
 refine ⟨fun h => ?_, WO_cons⟩
 obtain ⟨E1, H1, e, q⟩ := h
 unfold stepP
 cases e with
 | opSkip hg e1 => rw [hg]; exact ⟨_, _, e1, q⟩
 | opDo hg hs hp e1 =>
   rw [hg]
   cases op <;> first
     | (cases hs; done)
     | (simp only [] at hs ⊢; rw [hs]; exact ⟨fun h => by simp at h; exact hp h.1 h.2, _, _, e1, q⟩)
 | opCall hg ho hx hp e1 hpre e2 =>
   simp only [] at ho
   subst ho
   rw [hg]
   exact ⟨_, _, .opCall rfl rfl hx hp e1 hpre e2, q⟩

theorem WO_nil_iff : WO S n0 d [] E H R ↔ R E H := by
 refine ⟨fun h => ?_, WO_nil⟩
 obtain ⟨E1, H1, e, q⟩ := h
 cases e; exact q

theorem WO_call {dst : Option Nat} {sy : Bool} {l : List AOper} {x : X} {args caps vs : List V} {xs : List X} {g : Nat} {H1 : Heap} (hx : getX E x = .fn g caps)
   (ha : xs.map (getX E) ++ caps = args) (hp : prep S g H args = some (vs, H1))
   (h : CT S g vs H1 (fun v H2 => ((d && !sy) = true → H <+: H2) ∧ WO S n0 d l (put E dst v) H2 R)) : WOcall S n0 d dst x xs none sy l E H R := by
 obtain ⟨v, H2, e, hpre, E1, H3, e1, q⟩ := h
 subst ha
 exact ⟨_, _, .opCall rfl rfl hx hp e (fun hd hsy => hpre (by simp [hd]; simpa using hsy)) e1, q⟩

theorem CQ.ct {g : Nat} {args : List V} {v : V} {Q : V → Heap → Prop} (h : CQ S g args v) (hq : Q v H) : CT S g args H Q := ⟨_, _, h H, hq⟩

theorem CQ_of {g : Nat} {f : AFn} {args : List V} {v : V} (hf : S.fn g = some f)
   (h : ∀ H, WC S H.length f.body (E0 args) H (fun x E1 H1 => (x = .normal ∨ x = .ret) ∧ ∃ v0, resV E1 H1 f.results = some v0 ∧ fin f.own H.length H1 v0 = some (v, H))) : CQ S g args v := by
 intro H
 obtain ⟨x, E1, H1, e, hx, v0, hr, hfin⟩ := h H
 exact .call hf e hx hr hfin

theorem CT_of {g : Nat} {f : AFn} {args : List V} {Q : V → Heap → Prop} (hf : S.fn g = some f)
   (h : WC S H.length f.body (E0 args) H (fun x E1 H1 => (x = .normal ∨ x = .ret) ∧ ∃ v0 v H2, resV E1 H1 f.results = some v0 ∧ fin f.own H.length H1 v0 = some (v, H2) ∧ Q v H2)) : CT S g args H Q := by
 obtain ⟨x, E1, H1, e, hx, v0, v, H2, hr, hfin, hq⟩ := h
 exact ⟨_, _, .call hf e hx hr hfin, hq⟩

theorem CQ_emp {g : Nat} {pre post : List V} {v : V} (h1 : CQ S g (pre ++ .nil :: post) v) (h2 : CQ S g (pre ++ .emp :: post) v) : CQ S g (pre ++ .sl [] :: post) v := fun H => .emp (h1 H) (h2 H)

end

/-- The variables of an environment, one by one. -/
theorem upd_apply (E : Env) (d : Nat) (v : V) (i : Nat) : upd E d v i = if i = d then v else E i := rfl

theorem wrap_i64 {n : Int} (h1 : -9223372036854775808 ≤ n) (h2 : n < 9223372036854775808) : IntKind.wrap .i64 n = n := by
 simp [IntKind.wrap, IntKind.bits, IntKind.signed]; split <;> omega
theorem wrap_u32 {n : Int} (h1 : 0 ≤ n) (h2 : n < 4294967296) : IntKind.wrap .u32 n = n := by
 simp only [IntKind.wrap, IntKind.bits, IntKind.signed]; simp; omega
theorem wrap_u64 {n : Int} (h1 : 0 ≤ n) (h2 : n < 18446744073709551616) : IntKind.wrap .u64 n = n := by
 simp only [IntKind.wrap, IntKind.bits, IntKind.signed]; simp; omega

end Go.Abs

/- What each operation comes to, one lemma each. -/
namespace Go.Abs

def stpAppend (z bytes : Nat) (x y : V) (H : Heap) : Option (V × Heap) :=
   (elems H y).bind fun ys =>
     if headOk z ys = true then
       match x with
       | .nil =>
         if ys = [] then some (.nil, H)
         else if appendLimit ys.length bytes = true then some (.ref H.length z 0 ys.length, H ++ [some ⟨z, ys, true, true⟩]) else none
       | .ref b z' off len =>
         match H[b]? with
         | some (some k) =>
           if k.arr = true ∧ k.wr = true ∧ k.z = z ∧ z' = z ∧ off + len ≤ k.el.length ∧ appendLimit (len + ys.length) bytes = true then
             if ys = [] then some (.ref b z' off len, H)
             else some (.ref H.length z 0 (len + ys.length), H.set b none ++ [some ⟨z, (k.el.drop off).take len ++ ys, true, true⟩])
           else none
         | _ => none
       | _ => none
     else none

theorem stq_append {n0 z bytes : Nat} {x y : X} {E : Env} {H : Heap} : stp n0 (.append z bytes x y) E H = stpAppend z bytes (getX E x) (getX E y) H := rfl

theorem stq_mv {n0 : Nat} {E : Env} {H : Heap} {x : X} : stp n0 (.mv x) E H = (some (getX E x, H)) := rfl

theorem stq_pick {n0 : Nat} {E : Env} {H : Heap} {c a b : X} : stp n0 (.pick c a b) E H =
   match getX E c with
   | .bool t => some (if t then getX E a else getX E b, H)
   | _ => none := rfl

theorem stq_box {n0 : Nat} {E : Env} {H : Heap} {z : Nat} {x : X} : stp n0 (.box z x) E H =
   if (getX E x).cells.length = z ∧ (getX E x).isTup = false then some (.ptr H.length 0 0, H ++ [some ⟨z, [getX E x], false, true⟩]) else none := rfl

theorem stq_new {n0 : Nat} {E : Env} {H : Heap} {z : Nat} {v : V} : stp n0 (.new z v) E H = (if v.cells.length = z ∧ v.pure = true then some (.ptr H.length 0 0, H ++ [some ⟨z, [v], false, true⟩]) else none) := rfl

theorem stq_build {n0 : Nat} {E : Env} {H : Heap} {zero : List V} {parts : List (Nat × Nat × X)} : stp n0 (.build zero parts) E H =
   if zero.all V.cellPure = true then (fillC zero (parts.map fun p => (p.1, p.2.1, getX E p.2.2))).map fun cs => (.agg cs, H) else none := rfl

theorem stq_bslice {n0 : Nat} {E : Env} {H : Heap} {z len : Nat} {zero : V} {parts : List (Nat × X)} : stp n0 (.bslice z len zero parts) E H =
   if zero.cells.length = z ∧ zero.pure = true then
     (pureIns H (parts.map fun p => getX E p.2)).bind fun (vs, H1) =>
       (fillE z (List.replicate len zero) ((parts.map (·.1)).zip vs)).map fun el => (.ref H1.length z 0 len, H1 ++ [some ⟨z, el, true, true⟩])
   else none := rfl

theorem stq_load {n0 : Nat} {E : Env} {H : Heap} {ag : Bool} {z : Nat} {x : X} : stp n0 (.load ag z x) E H =
   match getX E x with
   | .eptr cs => (wrapC ag z cs).map fun v => (v, H)
   | .ptr b i off =>
     match H[b]? with
     | some (some k) =>
       match k.el[i]? with
       | some e => (wrapC ag z (e.cells.drop off)).map fun v => (v, H)
       | none => none
     | _ => none
   | _ => none := rfl

theorem stq_store {n0 : Nat} {E : Env} {H : Heap} {z : Nat} {a x : X} : stp n0 (.store z a x) E H = (stStore n0 z (getX E a) (getX E x) H) := rfl

theorem stq_sload {n0 : Nat} {E : Env} {H : Heap} {ag : Bool} {z t : Nat} : stp n0 (.sload ag z t) E H =
   match E t with
   | .eptr cs => (wrapC ag z cs).map fun v => (v, H)
   | .ptr b i off =>
     match H[b]? with
     | some (some k) =>
       match k.el[i]? with
       | some e => (wrapC ag z (e.cells.drop off)).bind fun v => if v.cells.all (V.lowB H.length) = true ∧ v.isTup = false then some (v, H) else none
       | none => none
     | _ => none
   | _ => none := rfl

theorem stq_storeN {n0 : Nat} {E : Env} {H : Heap} {z : Nat} {a x : X} {av : List Nat} : stp n0 (.storeN z a x av) E H = (if (getX E x).pure = true ∧ (av.all fun t => apart (E t) (getX E a)) = true then stStore n0 z (getX E a) (getX E x) H else none) := rfl

theorem stq_bin {n0 : Nat} {E : Env} {H : Heap} {bk : BK} {op : BinOp} {x y : X} : stp n0 (.bin bk op x y) E H = ((binV bk op (getX E x) (getX E y)).map fun v => (v, H)) := rfl

theorem stq_un {n0 : Nat} {E : Env} {H : Heap} {op : UnOp} {x : X} : stp n0 (.un op x) E H = ((unV op (getX E x)).map fun v => (v, H)) := rfl

theorem stq_conv {n0 : Nat} {E : Env} {H : Heap} {k : IntKind} {x : X} : stp n0 (.conv k x) E H =
   match getX E x with
   | .int _ n => some (.int k (k.wrap n), H)
   | _ => none := rfl

theorem stq_mkfn {n0 : Nat} {E : Env} {H : Heap} {g : Nat} {caps : List X} : stp n0 (.mkfn g caps) E H = (if (caps.map (getX E)).all V.isCell = true then some (.fn g (caps.map (getX E)), H) else none) := rfl

theorem stq_mkslice {n0 : Nat} {E : Env} {H : Heap} {z bytes : Nat} {zero : V} {l c : X} : stp n0 (.mkslice z bytes zero l c) E H =
   match natOf (getX E l), natOf (getX E c) with
   | some l, some c =>
     if l ≤ c ∧ c * bytes ≤ 281474976710656 ∧ c ≤ 9223372036854775807 ∧ zero.cells.length = z ∧ zero.pure = true then
       some (.ref H.length z 0 l, H ++ [some ⟨z, List.replicate c zero, true, true⟩])
     else none
   | _, _ => none := rfl

theorem stq_appendZ {n0 z bytes : Nat} {zero : V} {x n : X} {E : Env} {H : Heap} : stp n0 (.appendZ z bytes zero x n) E H =
   match getX E x, natOf (getX E n) with
   | .nil, some m =>
     if 0 < m ∧ m * bytes ≤ 140737488355328 ∧ m ≤ 9223372036854775807 ∧ zero.cells.length = z ∧ zero.pure = true then some (.ref H.length z 0 m, H ++ [some ⟨z, List.replicate m zero, true, true⟩]) else none
   | _, _ => none := rfl

theorem stq_slice {n0 : Nat} {E : Env} {H : Heap} {z : Nat} {x : X} {lo hi mx : Option X} : stp n0 (.slice z x lo hi mx) E H =
   match getX E x with
   | .nil =>
     match optNat E 0 lo, optNat E 0 hi, optNat E 0 mx with
     | some 0, some 0, some 0 => some (.nil, H)
     | _, _, _ => none
   | .sl l =>
     match optNat E 0 lo, optNat E l.length hi, optNat E l.length mx with
     | some lo, some hi, some mx =>
       if lo ≤ hi ∧ hi ≤ mx ∧ mx ≤ l.length ∧ (lo = 0 ∨ headOk z ((l.take hi).drop lo) = true) then some (.sl ((l.take hi).drop lo), H) else none
     | _, _, _ => none
   | .ref b z' off len =>
     match optNat E 0 lo, optNat E len hi, mx with
     | some lo, some hi, none => if lo ≤ hi ∧ hi ≤ len ∧ z' = z then some (.ref b z' (off + lo) (hi - lo), H) else none
     | _, _, _ => none
   | _ => none := rfl

theorem stq_faddr {n0 : Nat} {E : Env} {H : Heap} {off : Nat} {x : X} : stp n0 (.faddr off x) E H =
   match getX E x with
   | .ptr b i o => some (.ptr b i (o + off), H)
   | .eptr cs => some (.eptr (cs.drop off), H)
   | _ => none := rfl

theorem stq_field {n0 : Nat} {E : Env} {H : Heap} {ag : Bool} {off z : Nat} {x : X} : stp n0 (.field ag off z x) E H =
   match getX E x with
   | .agg cs => (wrapC ag z (cs.drop off)).map fun v => (v, H)
   | _ => none := rfl

theorem stq_iaddr {n0 : Nat} {E : Env} {H : Heap} {z : Nat} {x i : X} : stp n0 (.iaddr z x i) E H =
   match getX E x, natOf (getX E i) with
   | .sl l, some i =>
     match l[i]? with
     | some e => if e.cells.length = z then some (.eptr e.cells, H) else none
     | none => none
   | .ref b z' off len, some i => if i < len ∧ z' = z then some (.ptr b (off + i) 0, H) else none
   | _, _ => none := rfl

theorem stq_aiaddr {n0 : Nat} {E : Env} {H : Heap} {n z : Nat} {x i : X} : stp n0 (.aiaddr n z x i) E H =
   match getX E x, natOf (getX E i) with
   | .ptr b j off, some i => if i < n then some (.ptr b j (off + i * z), H) else none
   | .eptr cs, some i => if i < n then some (.eptr (cs.drop (i * z)), H) else none
   | _, _ => none := rfl

theorem stq_index {n0 : Nat} {E : Env} {H : Heap} {ag : Bool} {n z : Nat} {x i : X} : stp n0 (.index ag n z x i) E H =
   match getX E x, natOf (getX E i) with
   | .agg cs, some i => if i < n then (wrapC ag z (cs.drop (i * z))).map fun v => (v, H) else none
   | _, _ => none := rfl

theorem stq_sindex {n0 : Nat} {E : Env} {H : Heap} {x i : X} : stp n0 (.sindex x i) E H =
   match getX E x, natOf (getX E i) with
   | .str s, some i =>
     match s[i]? with
     | some b => some (.int .u8 b.toNat, H)
     | none => none
   | _, _ => none := rfl

theorem stq_extract {n0 : Nat} {E : Env} {H : Heap} {i : Nat} {x : X} : stp n0 (.extract i x) E H =
   match getX E x with
   | .tup vs => (vs[i]?).map fun v => (v, H)
   | _ => none := rfl

theorem stq_len {n0 : Nat} {E : Env} {H : Heap} {x : X} : stp n0 (.len x) E H =
   match getX E x with
   | .sl l => some (.int .i64 l.length, H)
   | .nil => some (.int .i64 0, H)
   | .emp => some (.int .i64 0, H)
   | .ref _ _ _ len => some (.int .i64 len, H)
   | _ => none := rfl

theorem stq_lenc {n0 : Nat} {E : Env} {H : Heap} {n : Nat} {x : X} : stp n0 (.lenc n x) E H = (some (.int .i64 n, H)) := rfl

theorem stq_capn {n0 : Nat} {E : Env} {H : Heap} {x : X} : stp n0 (.capn x) E H =
   match getX E x with
   | .nil => some (.int .i64 0, H)
   | _ => none := rfl

theorem stq_copy {n0 : Nat} {E : Env} {H : Heap} {z : Nat} {x y : X} : stp n0 (.copy z x y) E H =
   match getX E x with
   | .ref b z' off len =>
     (elems H (getX E y)).bind fun ys =>
       match H[b]? with
       | some (some k) =>
         if k.arr = true ∧ k.wr = true ∧ k.z = z ∧ z' = z ∧ headOk z ys = true ∧ off + len ≤ k.el.length then
           some (.int .i64 (Nat.min ys.length len), H.set b (some { k with el := splice k.el off (ys.take len) }))
         else none
       | _ => none
   | _ => none := rfl

theorem stq_min {n0 : Nat} {E : Env} {H : Heap} {x y : X} : stp n0 (.min x y) E H =
   match getX E x, getX E y with
   | .int k a, .int k' b => if k = k' then some (.int k (if b < a then b else a), H) else none
   | _, _ => none := rfl

theorem stq_max {n0 : Nat} {E : Env} {H : Heap} {x y : X} : stp n0 (.max x y) E H =
   match getX E x, getX E y with
   | .int k a, .int k' b => if k = k' then some (.int k (if a < b then b else a), H) else none
   | _, _ => none := rfl

theorem stq_max3 {n0 : Nat} {E : Env} {H : Heap} {x y z : X} : stp n0 (.max3 x y z) E H =
   match getX E x, getX E y, getX E z with
   | .int k a, .int k' b, .int k'' c => if k = k' ∧ k = k'' then some (.int k (if (if a < b then b else a) < c then c else if a < b then b else a), H) else none
   | _, _, _ => none := rfl

attribute [simp] stq_max3 stq_append stq_mv stq_pick stq_box stq_new stq_build stq_bslice stq_load stq_store stq_sload stq_storeN stq_bin stq_un stq_conv stq_mkfn stq_mkslice stq_appendZ stq_slice stq_faddr stq_field stq_iaddr stq_aiaddr stq_index stq_sindex stq_extract stq_len stq_lenc stq_capn stq_copy stq_min stq_max

end Go.Abs

/- The rules once more, with what comes behind as a list: so that 'simp' runs straight-line code by itself. -/
namespace Go.Abs

inductive Fr where
 | seq (b : AC)
 | blk (id : Nat)

section
variable {S : AProg} {n0 : Nat} {Q : AX → Env → Heap → Prop}

def WP (S : AProg) (n0 : Nat) (Q : AX → Env → Heap → Prop) : List Fr → AX → Env → Heap → Prop
 | [], x, E, H => Q x E H
 | .seq b :: K, .normal, E, H => WC S n0 b E H (fun x E H => WP S n0 Q K x E H)
 | .seq _ :: K, x, E, H => WP S n0 Q K x E H
 | .blk id :: K, x, E, H => WP S n0 Q K (x.outOf id) E H

/-- Code, and what comes behind. -/
def WK (S : AProg) (n0 : Nat) (c : AC) (K : List Fr) (E : Env) (H : Heap) (Q : AX → Env → Heap → Prop) : Prop := WC S n0 c E H (fun x E H => WP S n0 Q K x E H)
/-- Operations, and what comes behind. -/
def WL (S : AProg) (n0 : Nat) (d : Bool) (l : List AOper) (K : List Fr) (E : Env) (H : Heap) (Q : AX → Env → Heap → Prop) : Prop := WO S n0 d l E H (fun E H => WP S n0 Q K .normal E H)

theorem WC_of_WK {c : AC} {E : Env} {H : Heap} (h : WK S n0 c [] E H Q) : WC S n0 c E H Q := h

theorem WP_nil {x : AX} {E : Env} {H : Heap} : WP S n0 Q [] x E H ↔ Q x E H := Iff.rfl
theorem WP_seq {b : AC} {K : List Fr} {E : Env} {H : Heap} : WP S n0 Q (.seq b :: K) .normal E H ↔ WK S n0 b K E H Q := Iff.rfl
theorem WP_seq_exit {b : AC} {K : List Fr} {id : Nat} {E : Env} {H : Heap} : WP S n0 Q (.seq b :: K) (.exit id) E H ↔ WP S n0 Q K (.exit id) E H := Iff.rfl
theorem WP_seq_ret {b : AC} {K : List Fr} {E : Env} {H : Heap} : WP S n0 Q (.seq b :: K) .ret E H ↔ WP S n0 Q K .ret E H := Iff.rfl
theorem WP_blk {id : Nat} {K : List Fr} {x : AX} {E : Env} {H : Heap} : WP S n0 Q (.blk id :: K) x E H ↔ WP S n0 Q K (x.outOf id) E H := by cases x <;> exact Iff.rfl

theorem WC_mono {c : AC} {E : Env} {H : Heap} {Q' : AX → Env → Heap → Prop} (h : WC S n0 c E H Q) (hq : ∀ x E H, Q x E H → Q' x E H) : WC S n0 c E H Q' := by
 obtain ⟨x, E1, H1, e, q⟩ := h
 exact ⟨x, E1, H1, e, hq _ _ _ q⟩

theorem WK_seq_iff {a b : AC} {K : List Fr} {E : Env} {H : Heap} : WK S n0 (.seq a b) K E H Q ↔ WK S n0 a (.seq b :: K) E H Q := by
 constructor
 · rintro ⟨x, E1, H1, e, q⟩
   cases e with
   | seqN e1 e2 => exact ⟨.normal, _, _, e1, _, _, _, e2, q⟩
   | seqX e1 hx =>
     refine ⟨x, E1, H1, e1, ?_⟩
     cases x with
     | normal => exact absurd rfl hx
     | exit id => exact q
     | ret => exact q
 · intro h
   refine WC_seq (WC_mono h fun x E1 H1 q => ?_)
   cases x with
   | normal => exact q
   | exit id => exact q
   | ret => exact q

theorem WK_cond_iff {x : X} {a b : AC} {K : List Fr} {E : Env} {H : Heap} : WK S n0 (.cond x a b) K E H Q ↔ match getX E x with | .bool true => WK S n0 a K E H Q | .bool false => WK S n0 b K E H Q | _ => False := by
 constructor
 · rintro ⟨y, E1, H1, e, q⟩
   cases e with
   | @cond _ _ _ _ _ _ t _ hc e1 =>
     rw [hc]
     cases t with
     | true => exact ⟨_, _, _, by simpa using e1, q⟩
     | false => exact ⟨_, _, _, by simpa using e1, q⟩
 · intro h
   split at h
   · rename_i hc; exact WC_true hc h
   · rename_i hc; exact WC_false hc h
   · exact h.elim

theorem WK_block_iff {id : Nat} {c : AC} {K : List Fr} {E : Env} {H : Heap} : WK S n0 (.block id c) K E H Q ↔ WK S n0 c (.blk id :: K) E H Q := by
 constructor
 · rintro ⟨y, E1, H1, e, q⟩
   cases e with
   | block e1 => exact ⟨_, _, _, e1, WP_blk.2 q⟩
 · intro h
   exact WC_block (WC_mono h fun x E1 H1 q => WP_blk.1 q)

theorem WK_scope_iff {c : AC} {K : List Fr} {E : Env} {H : Heap} : WK S n0 (.scope c) K E H Q ↔ WK S n0 c K E H Q := by
 constructor
 · rintro ⟨y, E1, H1, e, q⟩
   cases e with
   | scope e1 => exact ⟨_, _, _, e1, q⟩
 · intro h
   exact WC_scope h

theorem WK_region_iff {d : Bool} {l : List AOper} {K : List Fr} {E : Env} {H : Heap} : WK S n0 (.region d l) K E H Q ↔ WL S n0 d l K E H Q := by
 constructor
 · rintro ⟨y, E1, H1, e, q⟩
   cases e with
   | region e1 => exact ⟨_, _, e1, q⟩
 · intro h; exact WC_region h

theorem WK_skip_iff {K : List Fr} {E : Env} {H : Heap} : WK S n0 .skip K E H Q ↔ WP S n0 Q K .normal E H := ⟨by rintro ⟨y, E1, H1, e, q⟩; cases e; exact q, WC_skip⟩
theorem WK_exit_iff {id : Nat} {K : List Fr} {E : Env} {H : Heap} : WK S n0 (.exit id) K E H Q ↔ WP S n0 Q K (.exit id) E H := ⟨by rintro ⟨y, E1, H1, e, q⟩; cases e; exact q, WC_exit⟩
theorem WK_ret_iff {K : List Fr} {E : Env} {H : Heap} : WK S n0 .ret K E H Q ↔ WP S n0 Q K .ret E H := ⟨by rintro ⟨y, E1, H1, e, q⟩; cases e; exact q, WC_ret⟩

theorem WL_nil_iff {d : Bool} {K : List Fr} {E : Env} {H : Heap} : WL S n0 d [] K E H Q ↔ WP S n0 Q K .normal E H := WO_nil_iff

/-- A call, before a contract is offered. -/
def WLcall (S : AProg) (n0 : Nat) (d : Bool) (dst : Option Nat) (x : X) (xs : List X) (sy : Bool) (l : List AOper) (K : List Fr) (E : Env) (H : Heap) (Q : AX → Env → Heap → Prop) : Prop :=
 WOcall S n0 d dst x xs none sy l E H (fun E H => WP S n0 Q K .normal E H)

def stepL (S : AProg) (n0 : Nat) (d : Bool) (dst : Option Nat) (op : AOp) (gu : Option (Nat × Bool)) (sy : Bool) (l : List AOper) (K : List Fr) (E : Env) (H : Heap) (Q : AX → Env → Heap → Prop) : Prop :=
 match gd ⟨dst, op, gu, sy⟩ E with
 | some false => WL S n0 d l K (put E dst .undef) H Q
 | some true =>
   match op with
   | .call x xs => WLcall S n0 d dst x xs sy l K E H Q
   | op =>
     match stp n0 op E H with
     | some (v, H1) => ((d && !sy) = true → H <+: H1) ∧ WL S n0 d l K (put E dst v) H1 Q
     | none => False
 | none => False

theorem WL_cons_iff {d : Bool} {dst : Option Nat} {op : AOp} {gu : Option (Nat × Bool)} {sy : Bool} {l : List AOper} {K : List Fr} {E : Env} {H : Heap} : WL S n0 d (⟨dst, op, gu, sy⟩ :: l) K E H Q ↔ stepL S n0 d dst op gu sy l K E H Q := WO_iff

theorem WL_call {d : Bool} {dst : Option Nat} {sy : Bool} {l : List AOper} {K : List Fr} {E : Env} {H : Heap} {x : X} {args caps vs : List V} {xs : List X} {g : Nat} {v : V} (hx : getX E x = .fn g caps)
   (ha : xs.map (getX E) ++ caps = args) (hp : prep S g H args = some (vs, H)) (h : CQ S g vs v) (k : WL S n0 d l K (put E dst v) H Q) : WLcall S n0 d dst x xs sy l K E H Q :=
 WO_call hx ha hp (h.ct ⟨fun _ => List.prefix_refl H, k⟩)

theorem WL_callT {d : Bool} {dst : Option Nat} {sy : Bool} {l : List AOper} {K : List Fr} {E : Env} {H H1 : Heap} {x : X} {args caps vs : List V} {xs : List X} {g : Nat} (hx : getX E x = .fn g caps)
   (ha : xs.map (getX E) ++ caps = args) (hp : prep S g H args = some (vs, H1)) (h : CT S g vs H1 (fun v H2 => ((d && !sy) = true → H <+: H2) ∧ WL S n0 d l K (put E dst v) H2 Q)) : WLcall S n0 d dst x xs sy l K E H Q :=
 WO_call hx ha hp h

/-- A loop: an invariant, with a number that falls. -/
theorem WK_loop {c : AC} {K : List Fr} {E : Env} {H : Heap} (I : Nat → Env → Heap → Prop) (k : Nat) (h0 : I k E H)
   (round : ∀ k E H, I k E H → WC S n0 c E H (AX.thn (fun E1 H1 => ∃ j, j < k ∧ I j E1 H1) (fun x E H => WP S n0 Q K x E H))) : WK S n0 (.loop c) K E H Q := WC_loop I k h0 round

/-- One round of a loop: the code, with the invariant at its end. -/
theorem WC_round {c : AC} {E : Env} {H : Heap} {J : Env → Heap → Prop} {R : AX → Env → Heap → Prop} (h : WK S n0 c [] E H (AX.thn J R)) : WC S n0 c E H (AX.thn J R) := h

theorem thn_normal {J : Env → Heap → Prop} {R : AX → Env → Heap → Prop} {E : Env} {H : Heap} : AX.thn J R .normal E H ↔ J E H := Iff.rfl
theorem thn_exit {J : Env → Heap → Prop} {R : AX → Env → Heap → Prop} {id : Nat} {E : Env} {H : Heap} : AX.thn J R (.exit id) E H ↔ R (.exit id) E H := Iff.rfl
theorem thn_ret {J : Env → Heap → Prop} {R : AX → Env → Heap → Prop} {E : Env} {H : Heap} : AX.thn J R .ret E H ↔ R .ret E H := Iff.rfl

theorem CQ_run {g : Nat} {f : AFn} {args : List V} {v : V} (hf : S.fn g = some f)
   (h : ∀ H, WK S H.length f.body [] (E0 args) H (fun x E1 H1 => (x = .normal ∨ x = .ret) ∧ ∃ v0, resV E1 H1 f.results = some v0 ∧ fin f.own H.length H1 v0 = some (v, H))) : CQ S g args v := CQ_of hf h

end

theorem fin_sl {n : Nat} {H : Heap} {l : List V} : fin false n H (.sl l) = some (.sl l, H.take n) := rfl
theorem fin_int {n : Nat} {H : Heap} {k : IntKind} {i : Int} : fin false n H (.int k i) = some (.int k i, H.take n) := rfl
theorem fin_bool {n : Nat} {H : Heap} {b : Bool} : fin false n H (.bool b) = some (.bool b, H.take n) := rfl

@[simp] theorem vcells_agg {cs : List V} : (V.agg cs).cells = cs := rfl
@[simp] theorem vcells_bool {b : Bool} : (V.bool b).cells = [.bool b] := rfl
@[simp] theorem vcells_int {k : IntKind} {n : Int} : (V.int k n).cells = [.int k n] := rfl
@[simp] theorem vcells_sl {l : List V} : (V.sl l).cells = [.sl l] := rfl
@[simp] theorem vcells_nil : V.nil.cells = [.nil] := rfl
@[simp] theorem vcells_ref {b z off len : Nat} : (V.ref b z off len).cells = [.ref b z off len] := rfl
@[simp] theorem vcells_ptr {b i off : Nat} : (V.ptr b i off).cells = [.ptr b i off] := rfl
@[simp] theorem vcells_fn {g : Nat} {cs : List V} : (V.fn g cs).cells = [.fn g cs] := rfl
@[simp] theorem vtup_agg {cs : List V} : (V.agg cs).isTup = false := rfl
@[simp] theorem vtup_bool {b : Bool} : (V.bool b).isTup = false := rfl
@[simp] theorem vtup_int {k : IntKind} {n : Int} : (V.int k n).isTup = false := rfl
@[simp] theorem vtup_sl {l : List V} : (V.sl l).isTup = false := rfl
@[simp] theorem vtup_nil : V.nil.isTup = false := rfl
@[simp] theorem vtup_ref {b z off len : Nat} : (V.ref b z off len).isTup = false := rfl
@[simp] theorem vtup_ptr {b i off : Nat} : (V.ptr b i off).isTup = false := rfl
@[simp] theorem vtup_fn {g : Nat} {cs : List V} : (V.fn g cs).isTup = false := rfl

attribute [simp] fin_sl fin_int fin_bool WP_nil WP_seq WP_seq_exit WP_seq_ret WP_blk WK_seq_iff WK_block_iff WK_scope_iff WK_region_iff WK_skip_iff WK_exit_iff WK_ret_iff WL_nil_iff thn_normal thn_exit thn_ret
attribute [simp] getX put upd_apply E0 AX.outOf binV binI unV natOf optNat stStore wrapC V.isNil resV resVs resV1

end Go.Abs

/- Rules that open both ways of a branch: simp runs a function to its calls and loops on all of its paths. -/
namespace Go.Abs

section
variable {S : AProg} {n0 : Nat} {Q : AX → Env → Heap → Prop}

/-- A branch on a value. -/
def WKc (S : AProg) (n0 : Nat) (v : V) (a b : AC) (K : List Fr) (E : Env) (H : Heap) (Q : AX → Env → Heap → Prop) : Prop :=
 match v with
 | .bool true => WK S n0 a K E H Q
 | .bool false => WK S n0 b K E H Q
 | _ => False

theorem WKc_bool {t : Bool} {a b : AC} {K : List Fr} {E : Env} {H : Heap} : WKc S n0 (.bool t) a b K E H Q ↔ (t = true → WK S n0 a K E H Q) ∧ (t = false → WK S n0 b K E H Q) := by cases t <;> simp [WKc]
theorem WKc_true {a b : AC} {K : List Fr} {E : Env} {H : Heap} : WKc S n0 (.bool true) a b K E H Q ↔ WK S n0 a K E H Q := Iff.rfl
theorem WKc_false {a b : AC} {K : List Fr} {E : Env} {H : Heap} : WKc S n0 (.bool false) a b K E H Q ↔ WK S n0 b K E H Q := Iff.rfl

theorem WK_cond_x {x : X} {a b : AC} {K : List Fr} {E : Env} {H : Heap} : WK S n0 (.cond x a b) K E H Q ↔ WKc S n0 (getX E x) a b K E H Q := by
 rw [WK_cond_iff]; unfold WKc; split <;> simp_all

/-- An operation that is done. -/
def stepN (S : AProg) (n0 : Nat) (d : Bool) (dst : Option Nat) (op : AOp) (sy : Bool) (l : List AOper) (K : List Fr) (E : Env) (H : Heap) (Q : AX → Env → Heap → Prop) : Prop :=
 match op with
 | .call x xs => WLcall S n0 d dst x xs sy l K E H Q
 | op =>
   match stp n0 op E H with
   | some (v, H1) => ((d && !sy) = true → H <+: H1) ∧ WL S n0 d l K (put E dst v) H1 Q
   | none => False

theorem WL_none {d : Bool} {dst : Option Nat} {op : AOp} {sy : Bool} {l : List AOper} {K : List Fr} {E : Env} {H : Heap} :
   WL S n0 d (⟨dst, op, none, sy⟩ :: l) K E H Q ↔ stepN S n0 d dst op sy l K E H Q := WL_cons_iff

theorem upd_self {E : Env} {t : Nat} {v : V} (h : E t = v) : upd E t v = E := by
 funext i; unfold upd; split
 · rename_i e; rw [e, h]
 · rfl

/-- An operation with a guard. -/
def WLg (S : AProg) (n0 : Nat) (v : V) (t : Nat) (want d : Bool) (dst : Option Nat) (op : AOp) (sy : Bool) (l : List AOper) (K : List Fr) (E : Env) (H : Heap) (Q : AX → Env → Heap → Prop) : Prop :=
 match v with
 | .bool b => if b = want then stepN S n0 d dst op sy l K (upd E t (.bool b)) H Q else WL S n0 d l K (put (upd E t (.bool b)) dst .undef) H Q
 | .tup _ => WL S n0 d l K (put E dst .undef) H Q
 | _ => False

theorem WL_some {d : Bool} {dst : Option Nat} {op : AOp} {sy : Bool} {l : List AOper} {K : List Fr} {E : Env} {H : Heap} {t : Nat} {want : Bool} :
   WL S n0 d (⟨dst, op, some (t, want), sy⟩ :: l) K E H Q ↔ WLg S n0 (E t) t want d dst op sy l K E H Q := by
 rw [WL_cons_iff]
 unfold stepL WLg gd
 simp only
 cases hv : E t with
 | bool b => cases b <;> cases want <;> (simp only [upd_self hv]; exact Iff.rfl)
 | tup vs => exact Iff.rfl
 | _ => exact Iff.rfl

variable {t : Nat} {d : Bool} {dst : Option Nat} {op : AOp} {sy : Bool} {l : List AOper} {K : List Fr} {E : Env} {H : Heap}

theorem WLg_t {b : Bool} : WLg S n0 (.bool b) t true d dst op sy l K E H Q ↔ (b = true → stepN S n0 d dst op sy l K (upd E t (.bool true)) H Q) ∧ (b = false → WL S n0 d l K (put (upd E t (.bool false)) dst .undef) H Q) := by
 cases b <;> simp [WLg]
theorem WLg_f {b : Bool} : WLg S n0 (.bool b) t false d dst op sy l K E H Q ↔ (b = true → WL S n0 d l K (put (upd E t (.bool true)) dst .undef) H Q) ∧ (b = false → stepN S n0 d dst op sy l K (upd E t (.bool false)) H Q) := by
 cases b <;> simp [WLg]
theorem WLg_tt : WLg S n0 (.bool true) t true d dst op sy l K E H Q ↔ stepN S n0 d dst op sy l K (upd E t (.bool true)) H Q := Iff.rfl
theorem WLg_ft : WLg S n0 (.bool false) t true d dst op sy l K E H Q ↔ WL S n0 d l K (put (upd E t (.bool false)) dst .undef) H Q := Iff.rfl
theorem WLg_tf : WLg S n0 (.bool true) t false d dst op sy l K E H Q ↔ WL S n0 d l K (put (upd E t (.bool true)) dst .undef) H Q := Iff.rfl
theorem WLg_ff : WLg S n0 (.bool false) t false d dst op sy l K E H Q ↔ stepN S n0 d dst op sy l K (upd E t (.bool false)) H Q := Iff.rfl
theorem WLg_tup {want : Bool} {vs : List V} : WLg S n0 (.tup vs) t want d dst op sy l K E H Q ↔ WL S n0 d l K (put E dst .undef) H Q := Iff.rfl
theorem WLg_undef {want : Bool} : WLg S n0 .undef t want d dst op sy l K E H Q ↔ WL S n0 d l K (put E dst .undef) H Q := Iff.rfl

end

/-- A loop that counts up. -/
theorem WK_up {S : AProg} {n0 : Nat} {Q : AX → Env → Heap → Prop} {c : AC} {K : List Fr} {E : Env} {H : Heap} (I : Nat → Env → Heap → Prop) (n : Nat) (h0 : I 0 E H)
   (round : ∀ i E H, i ≤ n → I i E H → WK S n0 c [] E H (AX.thn (fun E1 H1 => i < n ∧ I (i + 1) E1 H1) (fun x E H => WP S n0 Q K x E H))) : WK S n0 (.loop c) K E H Q := by
 refine WK_loop (fun k E H => ∃ i, i + k = n ∧ I i E H) n ⟨0, by omega, h0⟩ ?_
 rintro k E H ⟨i, hi, h⟩
 refine WC_mono (round i E H (by omega) h) ?_
 intro x E1 H1 hx
 cases x with
 | normal => exact ⟨k - 1, by have := hx.1; omega, i + 1, by have := hx.1; omega, hx.2⟩
 | exit id => exact hx
 | ret => exact hx

theorem getE_app {α : Type} (H l : List α) (k : Nat) : (H ++ l)[H.length + k]? = l[k]? := by
 rw [List.getElem?_append_right (by omega)]; congr 1; omega
theorem getE_app0 {α : Type} (H l : List α) : (H ++ l)[H.length]? = l[0]? := getE_app H l 0
theorem set_app {α : Type} (H l : List α) (k : Nat) (v : α) : (H ++ l).set (H.length + k) v = H ++ l.set k v := by
 rw [List.set_append_right _ _ (by omega)]; congr 2; omega
theorem set_app0 {α : Type} (H l : List α) (v : α) : (H ++ l).set H.length v = H ++ l.set 0 v := set_app H l 0 v

attribute [simp low] WKc_bool WLg_t WLg_f
attribute [simp] WK_cond_x WKc_true WKc_false stepN WL_none WL_some WLg_tt WLg_ft WLg_tf WLg_ff WLg_tup WLg_undef getE_app getE_app0 set_app set_app0

end Go.Abs

