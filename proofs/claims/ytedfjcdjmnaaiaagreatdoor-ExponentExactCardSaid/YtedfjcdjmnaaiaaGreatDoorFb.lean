/- Parts of the proof: FpCode2, FpCode3, FpCode4, FpCode5, FpCode6, FpCode7, FpFuns, FpRules, FpProg, FpStpEq, FpWK, FpWX, FpNum, FpNat, FpLen, FpLen2, FpBits. -/
import Derived.Test.YtedfjcdjmnaaiaaGreatDoorFa
import Derived.Test.YtedfjcdjmnaaiaaGreatDoorF0
namespace Go.Abs
@[simp] def qhn : AFn := ⟨[(.cell 4 true 7)],
 (.seq (.region false [oU 2 7 0,
 oL 4]) (.seq (.seq (.region false [oI 9 7 2,
 oP 10 (.bslice 7 1 (.agg [(.bool false), .nil, (.int .i64 0), (.bool false), .nil, (.int .i64 0), (.bool false)]) [(0, (.t 9))]),
 oA1 11 106 10,
 oW 12 11,
 mV 13 12,
 oE 14 13 1,
 oC1 15 13 186 14,
 gF 16 13 (.un .not (.t 15)),
 oX 17 13 16]) (.cond (.t 17) (.seq (.region false [oA0 18 107,
 oK 7 4 18 false]) .ret) .skip)) (.seq (.region false [oQ 20 0 2,
 oI 21 3 20,
 mV 22 1,
 oA2 23 199 21 22,
 mV 19 23,
 oR 24 0 19,
 oR 25 1 19,
 oM 5,
 oK 3 5 24 false,
 mV 6 25]) (.seq (.region false [oQ 27 3 2,
 oI 28 3 27,
 mV 29 1,
 oA2 30 200 28 29,
 mV 26 30,
 oR 31 0 26,
 oR 32 1 26,
 oM 7,
 oK 3 7 31 false,
 mV 8 32]) (.seq (.region false [oI 33 3 5,
 mV 34 6,
 oI 35 3 7,
 mV 36 8,
 oA4 37 189 33 34 35 36,
 oK 7 4 37 false]) .ret))))),
 false, false⟩
@[simp] def qho : AFn := ⟨[(.cell 2 true 7)],
 (.seq (.region false [oU 1 3 0,
 oL 2]) (.seq (.seq (.region false [oI 3 3 1,
 oA1 4 51 3,
 oW 5 4]) (.cond (.t 5) (.seq (.region false [oA0 6 107,
 oK 7 2 6 false]) .ret) .skip)) (.seq (.region false [oI 7 3 1,
 oI 8 3 1,
 oP 9 (.build [(.bool false), .nil, (.int .i64 0), (.bool false), .nil, (.int .i64 0), (.bool false)] [(0, 3, (.t 7)), (3, 3, (.t 8))]),
 oK 7 2 9 false]) .ret))),
 false, false⟩
@[simp] def qjo : AFn := ⟨[(.cell 2 true 7)],
 (.seq (.region false [oU 1 3 0,
 oL 2]) (.seq (.region false [oI 3 3 1,
 oI 4 3 1,
 oP 5 (.build [(.bool false), .nil, (.int .i64 0), (.bool false), .nil, (.int .i64 0), (.bool false)] [(0, 3, (.t 3)), (3, 3, (.t 4))]),
 oK 7 2 5 false]) .ret)),
 false, false⟩
def qde : AC := (.seq (.seq (.region false [mV 31 9,
 oO 32 .lss 31 4]) (.cond (.t 32) .skip (.exit 0))) (.seq (.block 1 (.seq (.region true [mV 36 7,
 mV 37 9,
 oV 38 6 36 37,
 oP 39 (.aiaddr 2 3 (.t 38) (.c (.int .i64 0))),
 oI 40 3 39,
 mV 41 7,
 mV 42 9,
 oV 43 6 41 42,
 oP 44 (.aiaddr 2 3 (.t 43) (.c (.int .i64 1))),
 oI 45 3 44,
 mV 46 2,
 oP 47 (.call (.f 203) [(.t 40), (.t 45), (.t 46), (.c (.bool false))]),
 mV 35 47,
 oR 48 0 35,
 oR 49 1 35,
 oM 10,
 oK 3 10 48 true,
 mV 11 49]) (.seq (.region true [mV 51 7,
 mV 52 9,
 oV 53 6 51 52,
 oP 54 (.aiaddr 2 3 (.t 53) (.c (.int .i64 0))),
 oI 55 3 54,
 mV 56 7,
 mV 57 9,
 oV 58 6 56 57,
 oP 59 (.aiaddr 2 3 (.t 58) (.c (.int .i64 1))),
 oI 60 3 59,
 mV 61 2,
 oP 62 (.call (.f 203) [(.t 55), (.t 60), (.t 61), (.c (.bool true))]),
 mV 50 62,
 oR 63 0 50,
 oR 64 1 50,
 oM 12,
 oK 3 12 63 true,
 mV 13 64]) (.seq (.seq (.region false [mV 65 11,
 oO 66 .neq 65 0,
 mV 67 66,
 oE 68 67 13,
 gF 69 67 (.bin .num .neq (.t 68) (.c (.int .i64 0))),
 oX 70 67 69]) (.cond (.t 70) (.seq (.region false [oA0 71 109,
 oK 7 6 71 false]) .ret) .skip)) (.seq (.seq (.region false [mV 72 9,
 oO 73 .eql 72 0]) (.cond (.t 73) (.region false [oI 74 3 10,
 oI 75 3 12,
 oP 76 (.build [(.bool false), .nil, (.int .i64 0), (.bool false), .nil, (.int .i64 0), (.bool false)] [(0, 3, (.t 74)), (3, 3, (.t 75))]),
 oK 7 8 76 false]) .skip)) (.region true [oQ 77 0 8,
 oI 78 3 77,
 oI 79 3 10,
 oA2 80 93 78 79,
 oQ 81 3 8,
 oI 82 3 81,
 oI 83 3 12,
 oB2 84 92 82 83,
 oP 85 (.build [(.bool false), .nil, (.int .i64 0), (.bool false), .nil, (.int .i64 0), (.bool false)] [(0, 3, (.t 80)), (3, 3, (.t 84))]),
 oK 7 8 85 true])))))) (.region false [mV 33 9,
 oO 34 .add 33 1,
 mV 9 34])))
@[simp] def qnk : AFn := ⟨[(.cell 6 true 7)],
 (.seq (.region false [oU 3 7 0,
 oU 4 7 1,
 oL 6]) (.seq (.seq (.region false [mV 14 2,
 oA1 15 195 14,
 oW 16 15,
 mV 17 16,
 oG 18 17 true 7 3,
 oC1 19 17 108 18,
 gF 20 17 (.un .not (.t 19)),
 oX 21 17 20,
 mV 22 21,
 oG 23 22 true 7 4,
 oC1 24 22 108 23,
 gF 25 22 (.un .not (.t 24)),
 oX 26 22 25]) (.cond (.t 26) (.seq (.region false [oA0 27 109,
 oK 7 6 27 false]) .ret) .skip)) (.seq (.region false [oI 28 7 3,
 oI 29 7 4,
 oA2 30 202 28 29,
 mV 7 30]) (.seq (.region false [oL 8]) (.seq (.seq (.region false [oP 9 (.mv (.c (.int .i64 0)))]) (.block 0 (.loop qde))) (.seq (.region false [oI 86 7 8,
 oK 7 6 86 false]) .ret)))))),
 false, false⟩
@[simp] def qhw : AFn := ⟨[(.cell 4 true 7)],
 (.seq (.region false [oU 2 7 0,
 oL 4]) (.seq (.region false [oI 6 7 2,
 oA1 7 157 6,
 oL 5,
 oK 7 5 7 false]) (.seq (.region false [oI 8 7 5,
 oI 9 7 5,
 mV 10 1,
 oA3 11 154 8 9 10,
 oK 7 4 11 false]) .ret))),
 false, false⟩
@[simp] def qk7 : AFn := ⟨[(.cell 2 true 7)],
 (.seq (.region false [oU 1 7 0,
 oL 2]) (.seq (.seq (.region false [oI 7 7 1,
 oP 8 (.bslice 7 1 (.agg [(.bool false), .nil, (.int .i64 0), (.bool false), .nil, (.int .i64 0), (.bool false)]) [(0, (.t 7))]),
 oA1 9 106 8,
 oW 10 9]) (.cond (.t 10) (.seq (.region false [oA0 11 107,
 oK 7 2 11 false]) .ret) .skip)) (.seq (.region false [oI 13 7 1,
 oA1 14 165 13,
 mV 12 14,
 oR 15 0 12,
 oR 16 1 12,
 oM 3,
 oK 3 3 15 false,
 mV 4 16]) (.seq (.region false [oI 18 7 1,
 oA1 19 164 18,
 mV 17 19,
 oR 20 0 17,
 oR 21 1 17,
 oM 5,
 oK 3 5 20 false,
 mV 6 21]) (.seq (.region false [oI 22 3 3,
 oI 23 3 5,
 oP 24 (.build [(.bool false), .nil, (.int .i64 0), (.bool false), .nil, (.int .i64 0), (.bool false)] [(0, 3, (.t 22)), (3, 3, (.t 23))]),
 oK 7 2 24 false]) .ret))))),
 false, false⟩
@[simp] def qnr : AFn := ⟨[(.cell 2 true 7)],
 (.seq (.region false [oU 1 7 0,
 oL 2]) (.seq (.seq (.region false [oI 3 7 1,
 oA1 4 108 3,
 oW 5 4]) (.cond (.t 5) (.seq (.region false [oA0 6 109,
 oK 7 2 6 false]) .ret) .skip)) (.seq (.region true [oI 7 7 1,
 oA1 8 167 7,
 oI 9 7 1,
 oB1 10 166 9,
 oP 11 (.build [(.bool false), .nil, (.int .i64 0), (.bool false), .nil, (.int .i64 0), (.bool false)] [(0, 3, (.t 8)), (3, 3, (.t 10))]),
 oK 7 2 11 true]) .ret))),
 false, false⟩
@[simp] def qhm : AFn := ⟨[(.cell 4 true 7)],
 (.seq (.region false [oU 2 7 0,
 oL 4]) (.seq (.seq (.region false [oI 9 7 2,
 oP 10 (.bslice 7 1 (.agg [(.bool false), .nil, (.int .i64 0), (.bool false), .nil, (.int .i64 0), (.bool false)]) [(0, (.t 9))]),
 oA1 11 106 10,
 oW 12 11]) (.cond (.t 12) (.seq (.region false [oA0 13 107,
 oK 7 4 13 false]) .ret) .skip)) (.seq (.region false [oQ 15 0 2,
 oI 16 3 15,
 mV 17 1,
 oA2 18 204 16 17,
 mV 14 18,
 oR 19 0 14,
 oR 20 1 14,
 oM 5,
 oK 3 5 19 false,
 mV 6 20]) (.seq (.region false [oQ 22 3 2,
 oI 23 3 22,
 mV 24 1,
 oA2 25 204 23 24,
 mV 21 25,
 oR 26 0 21,
 oR 27 1 21,
 oM 7,
 oK 3 7 26 false,
 mV 8 27]) (.seq (.region false [oI 28 3 5,
 mV 29 6,
 oI 30 3 7,
 mV 31 8,
 oA4 32 189 28 29 30 31,
 oK 7 4 32 false]) .ret))))),
 false, false⟩
@[simp] def qjn : AFn := ⟨[(.cell 4 true 7)],
 (.seq (.region false [oU 2 7 0,
 oL 4]) (.seq (.seq (.region false [oI 9 7 2,
 oA1 10 108 9,
 oW 11 10,
 mV 12 11,
 oE 13 12 1,
 gF 14 12 (.bin .num .lss (.t 13) (.c (.int .i64 (-32768)))),
 oX 15 12 14,
 mV 16 15,
 oE 17 16 1,
 gF 18 16 (.bin .num .gtr (.t 17) (.c (.int .i64 32768))),
 oX 19 16 18]) (.cond (.t 19) (.seq (.region false [oA0 20 109,
 oK 7 4 20 false]) .ret) .skip)) (.seq (.region false [oQ 22 0 2,
 oI 23 3 22,
 mV 24 1,
 oA2 25 182 23 24,
 mV 21 25,
 oR 26 0 21,
 oR 27 1 21,
 oM 5,
 oK 3 5 26 false,
 mV 6 27]) (.seq (.region false [oQ 29 3 2,
 oI 30 3 29,
 mV 31 1,
 oA2 32 182 30 31,
 mV 28 32,
 oR 33 0 28,
 oR 34 1 28,
 oM 7,
 oK 3 7 33 false,
 mV 8 34]) (.seq (.region false [oI 35 3 5,
 mV 36 6,
 oI 37 3 7,
 mV 38 8,
 oA4 39 197 35 36 37 38,
 oK 7 4 39 false]) .ret))))),
 false, false⟩
@[simp] def qnm : AFn := ⟨[(.cell 4 true 3)],
 (.seq (.region false [oU 2 7 0,
 oM 4]) (.seq (.seq (.region false [mV 9 1,
 oA1 10 195 9,
 oW 11 10,
 mV 12 11,
 oG 13 12 true 7 2,
 oC1 14 12 108 13,
 gF 15 12 (.un .not (.t 14)),
 oX 16 12 15]) (.cond (.t 16) (.seq (.region false [oP 17 (.build [(.bool false), .nil, (.int .i64 0)] []),
 oK 3 4 17 false]) .ret) .skip)) (.seq (.region false [oQ 19 0 2,
 oI 20 3 19,
 oQ 21 3 2,
 oI 22 3 21,
 mV 23 1,
 oP 24 (.call (.f 196) [(.t 20), (.t 22), (.t 23), (.c (.bool false))]),
 mV 18 24,
 oR 25 0 18,
 oR 26 1 18,
 oM 5,
 oK 3 5 25 false,
 mV 6 26]) (.seq (.region false [oI 28 3 5,
 oP 29 (.call (.f 182) [(.t 28), (.c (.int .i64 (-1)))]),
 mV 27 29,
 oR 30 0 27,
 oR 31 1 27,
 oM 7,
 oK 3 7 30 false,
 mV 8 31]) (.seq (.seq (.region false [mV 32 6,
 oO 33 .neq 32 0,
 mV 34 33,
 oE 35 34 8,
 gF 36 34 (.bin .num .neq (.t 35) (.c (.int .i64 0))),
 oX 37 34 36,
 mV 38 37,
 oG 39 38 true 7 2,
 oG 40 38 true 3 7,
 oC2 41 38 169 39 40,
 gF 42 38 (.un .not (.t 41)),
 oX 43 38 42]) (.cond (.t 43) (.seq (.region false [oQ 44 0 2,
 oI 45 3 44,
 oK 3 4 45 false]) .ret) .skip)) (.seq (.region false [oI 46 3 7,
 oK 3 4 46 false]) .ret)))))),
 false, false⟩
@[simp] def qk3 : AFn := ⟨[(.cell 2 true 3), (.tmp 3)],
 (.seq (.region false [oU 1 7 0,
 oM 2,
 oZ 3 false]) (.seq (.seq (.region false [oI 4 7 1,
 oP 5 (.bslice 7 1 (.agg [(.bool false), .nil, (.int .i64 0), (.bool false), .nil, (.int .i64 0), (.bool false)]) [(0, (.t 4))]),
 oA1 6 106 5,
 oW 7 6]) (.cond (.t 7) (.seq (.region false [oP 8 (.build [(.bool false), .nil, (.int .i64 0)] []),
 oK 3 2 8 false,
 oZ 3 false]) .ret) .skip)) (.seq (.region true [oQ 9 0 1,
 oI 10 3 9,
 oA1 11 205 10,
 oQ 12 3 1,
 oI 13 3 12,
 oB1 14 205 13,
 oB2 15 104 11 14,
 oK 3 2 15 true,
 oZ 3 true]) .ret))),
 false, false⟩
@[simp] def qk2 : AFn := ⟨[(.cell 2 true 3), (.tmp 3)],
 (.seq (.region false [oU 1 7 0,
 oM 2,
 oZ 3 false]) (.seq (.seq (.region false [oI 4 7 1,
 oP 5 (.bslice 7 1 (.agg [(.bool false), .nil, (.int .i64 0), (.bool false), .nil, (.int .i64 0), (.bool false)]) [(0, (.t 4))]),
 oA1 6 106 5,
 oW 7 6]) (.cond (.t 7) (.seq (.region false [oP 8 (.build [(.bool false), .nil, (.int .i64 0)] []),
 oK 3 2 8 false,
 oZ 3 false]) .ret) .skip)) (.seq (.seq (.region false [oI 9 7 1,
 oA1 10 173 9,
 oO 11 .eql 10 0]) (.cond (.t 11) (.seq (.region false [oP 12 (.build [(.bool false), .nil, (.int .i64 0)] []),
 oK 3 2 12 false,
 oZ 3 true]) .ret) .skip)) (.seq (.region true [oQ 13 0 1,
 oI 14 3 13,
 oA1 15 205 14,
 oQ 16 3 1,
 oI 17 3 16,
 oB1 18 205 17,
 oB2 19 105 15 18,
 oK 3 2 19 true,
 oZ 3 true]) .ret)))),
 false, false⟩
@[simp] def qnn : AFn := ⟨[(.cell 2 true 3)],
 (.seq (.region false [oU 1 7 0,
 oM 2]) (.seq (.region true [oQ 3 0 1,
 oI 4 3 3,
 oA1 5 57 4,
 oQ 6 3 1,
 oI 7 3 6,
 oB2 8 92 5 7,
 oK 3 2 8 true]) .ret)),
 false, false⟩
@[simp] def qnl : AFn := ⟨[(.cell 2 true 3)],
 (.seq (.region false [oU 1 7 0,
 oM 2]) (.seq (.seq (.region false [oI 3 7 1,
 oA1 4 174 3,
 oO 5 .eql 4 0]) (.cond (.t 5) (.seq (.region false [oP 6 (.build [(.bool false), .nil, (.int .i64 0)] []),
 oK 3 2 6 false]) .ret) .skip)) (.seq (.region true [oQ 7 0 1,
 oI 8 3 7,
 oQ 9 3 1,
 oI 10 3 9,
 oA1 11 57 10,
 oB2 12 92 8 11,
 oK 3 2 12 true]) .ret))),
 false, false⟩
@[simp] def qno : AFn := ⟨[(.tmp 4)],
 (.seq (.region false [oU 2 7 0,
 oU 3 3 1,
 oZ 4 false]) (.seq (.seq (.region false [oI 5 7 2,
 oA1 6 70 5,
 oW 7 6,
 mV 8 7,
 oG 9 8 true 3 3,
 oC1 10 8 12 9,
 gF 11 8 (.un .not (.t 10)),
 oX 12 8 11]) (.cond (.t 12) (.seq (.region false [oZ 4 false]) .ret) .skip)) (.seq (.region false [oQ 13 6 2,
 oJ 14 13,
 mV 15 14,
 gF 16 15 (.faddr 0 (.t 2)),
 oG 17 15 true 3 16,
 oG 18 15 true 3 3,
 oC2 19 15 18 17 18,
 gF 20 15 (.bin .num .leq (.t 19) (.c (.int .i64 0))),
 oE 21 15 20,
 oH 22 21 true 3 3,
 gT 23 21 (.faddr 3 (.t 2)),
 oH 24 21 true 3 23,
 oD2 25 21 18 22 24,
 gT 26 21 (.bin .num .leq (.t 25) (.c (.int .i64 0))),
 gF 27 15 (.pick (.t 21) (.t 26) (.c (.bool false))),
 oX 28 15 27,
 mV 4 28]) .ret))),
 false, false⟩
@[simp] def qjg : AFn := ⟨[(.tmp 2)],
 (.seq (.region false [oU 1 7 0,
 oP 2 (.mv (.c (.int .i64 0)))]) (.seq (.block 0 (.seq (.region false [oI 4 7 1,
 oP 5 (.bslice 7 1 (.agg [(.bool false), .nil, (.int .i64 0), (.bool false), .nil, (.int .i64 0), (.bool false)]) [(0, (.t 4))]),
 oA1 6 106 5,
 oW 7 6,
 mV 3 7]) (.cond (.t 3) (.seq (.region false [oP 2 (.mv (.c (.int .i64 0)))]) .ret) (.seq (.region false [oQ 9 0 1,
 oI 10 3 9,
 oA1 11 79 10,
 oO 12 .gtr 11 0,
 mV 8 12]) (.cond (.t 8) (.seq (.region false [oP 2 (.mv (.c (.int .i64 1)))]) .ret) (.seq (.region false [oQ 14 3 1,
 oI 15 3 14,
 oA1 16 79 15,
 oO 17 .lss 16 0,
 mV 13 17]) (.cond (.t 13) (.seq (.region false [oP 2 (.mv (.c (.int .i64 (-1))))]) .ret) .skip))))))) (.seq (.region false [oP 2 (.mv (.c (.int .i64 0)))]) .ret))),
 false, false⟩
@[simp] def qlf : AFn := ⟨[(.tmp 2)],
 (.seq (.region false [oU 1 7 0,
 oP 2 (.mv (.c (.int .i64 0)))]) (.seq (.seq (.region false [oI 3 7 1,
 oA1 4 108 3,
 oW 5 4]) (.cond (.t 5) (.seq (.region false [oP 2 (.mv (.c (.int .i64 0)))]) .ret) .skip)) (.seq (.seq (.region false [oQ 6 0 1,
 oI 7 3 6,
 oA1 8 54 7,
 oO 9 .gtr 8 0]) (.cond (.t 9) (.seq (.region false [oP 2 (.mv (.c (.int .i64 1)))]) .ret) .skip)) (.seq (.seq (.region false [oQ 10 3 1,
 oI 11 3 10,
 oA1 12 54 11,
 oO 13 .lss 12 0]) (.cond (.t 13) (.seq (.region false [oP 2 (.mv (.c (.int .i64 (-1))))]) .ret) .skip)) (.seq (.region false [oP 2 (.mv (.c (.int .i64 0)))]) .ret))))),
 false, false⟩
def qdf : AC := (.seq (.seq (.region false [mV 36 9,
 oO 37 .lss 36 4]) (.cond (.t 37) .skip (.exit 0))) (.seq (.block 1 (.seq (.region true [mV 41 7,
 mV 42 9,
 oV 43 6 41 42,
 oP 44 (.aiaddr 2 3 (.t 43) (.c (.int .i64 0))),
 oI 45 3 44,
 mV 46 7,
 mV 47 9,
 oV 48 6 46 47,
 oP 49 (.aiaddr 2 3 (.t 48) (.c (.int .i64 1))),
 oI 50 3 49,
 mV 51 2,
 oP 52 (.call (.f 206) [(.t 45), (.t 50), (.t 51), (.c (.bool false))]),
 mV 40 52,
 oR 53 0 40,
 oR 54 1 40,
 oM 10,
 oK 3 10 53 true,
 mV 11 54]) (.seq (.region true [mV 56 7,
 mV 57 9,
 oV 58 6 56 57,
 oP 59 (.aiaddr 2 3 (.t 58) (.c (.int .i64 0))),
 oI 60 3 59,
 mV 61 7,
 mV 62 9,
 oV 63 6 61 62,
 oP 64 (.aiaddr 2 3 (.t 63) (.c (.int .i64 1))),
 oI 65 3 64,
 mV 66 2,
 oP 67 (.call (.f 206) [(.t 60), (.t 65), (.t 66), (.c (.bool true))]),
 mV 55 67,
 oR 68 0 55,
 oR 69 1 55,
 oM 12,
 oK 3 12 68 true,
 mV 13 69]) (.seq (.seq (.region false [mV 70 11,
 oO 71 .neq 70 0,
 mV 72 71,
 oE 73 72 13,
 gF 74 72 (.bin .num .neq (.t 73) (.c (.int .i64 0))),
 oX 75 72 74]) (.cond (.t 75) (.seq (.region false [oA0 76 109,
 oK 7 6 76 false]) .ret) .skip)) (.seq (.seq (.region false [mV 77 9,
 oO 78 .eql 77 0]) (.cond (.t 78) (.region false [oI 79 3 10,
 oI 80 3 12,
 oP 81 (.build [(.bool false), .nil, (.int .i64 0), (.bool false), .nil, (.int .i64 0), (.bool false)] [(0, 3, (.t 79)), (3, 3, (.t 80))]),
 oK 7 8 81 false]) .skip)) (.region true [oQ 82 0 8,
 oI 83 3 82,
 oI 84 3 10,
 oA2 85 93 83 84,
 oQ 86 3 8,
 oI 87 3 86,
 oI 88 3 12,
 oB2 89 92 87 88,
 oP 90 (.build [(.bool false), .nil, (.int .i64 0), (.bool false), .nil, (.int .i64 0), (.bool false)] [(0, 3, (.t 85)), (3, 3, (.t 89))]),
 oK 7 8 90 true])))))) (.region false [mV 38 9,
 oO 39 .add 38 1,
 mV 9 39])))
@[simp] def qnp : AFn := ⟨[(.cell 6 true 7)],
 (.seq (.region false [oU 3 7 0,
 oU 4 7 1,
 oL 6]) (.seq (.seq (.region false [mV 14 2,
 oA1 15 195 14,
 oW 16 15,
 mV 17 16,
 oG 18 17 true 7 3,
 oC1 19 17 108 18,
 gF 20 17 (.un .not (.t 19)),
 oX 21 17 20,
 mV 22 21,
 oG 23 22 true 7 4,
 oC1 24 22 108 23,
 gF 25 22 (.un .not (.t 24)),
 oX 26 22 25,
 mV 27 26,
 oG 28 27 true 7 4,
 oC1 29 27 174 28,
 gF 30 27 (.bin .num .eql (.t 29) (.c (.int .i64 0))),
 oX 31 27 30]) (.cond (.t 31) (.seq (.region false [oA0 32 109,
 oK 7 6 32 false]) .ret) .skip)) (.seq (.region false [oI 33 7 3,
 oI 34 7 4,
 oA2 35 202 33 34,
 mV 7 35]) (.seq (.region false [oL 8]) (.seq (.seq (.region false [oP 9 (.mv (.c (.int .i64 0)))]) (.block 0 (.loop qdf))) (.seq (.region false [oI 91 7 8,
 oK 7 6 91 false]) .ret)))))),
 false, false⟩
@[simp] def qjx : AFn := ⟨[(.cell 4 true 3), (.tmp 5)],
 (.seq (.region false [oU 2 3 0,
 oM 4,
 oP 5 (.mv (.c (.int .i64 0)))]) (.seq (.seq (.region false [oI 6 3 2,
 oA1 7 12 6,
 oW 8 7,
 mV 9 8,
 oE 10 9 1,
 oC1 11 9 214 10,
 gF 12 9 (.un .not (.t 11)),
 oX 13 9 12]) (.cond (.t 13) (.seq (.region false [oP 14 (.build [(.bool false), .nil, (.int .i64 0)] []),
 oK 3 4 14 false,
 oP 5 (.mv (.c (.int .i64 1)))]) .ret) .skip)) (.seq (.region false [oQ 15 0 2,
 oJ 16 15,
 oQ 17 1 2,
 oJ 18 17,
 oQ 19 2 2,
 oJ 20 19,
 mV 21 1,
 oN 22 .add 20 21,
 oA3 23 85 16 18 22,
 oA1 24 184 23,
 oR 25 0 24,
 oR 26 1 24,
 oK 3 4 25 false,
 mV 5 26]) .ret))),
 false, false⟩
@[simp] def qgl : AFn := ⟨[(.cell 2 true 3), (.tmp 3)],
 (.seq (.region false [oU 1 3 0,
 oM 2,
 oP 3 (.mv (.c (.int .i64 0)))]) (.seq (.seq (.region false [oI 4 3 1,
 oA1 5 12 4,
 oW 6 5]) (.cond (.t 6) (.seq (.region false [oP 7 (.build [(.bool false), .nil, (.int .i64 0)] []),
 oK 3 2 7 false,
 oP 3 (.mv (.c (.int .i64 9)))]) .ret) .skip)) (.seq (.region false [oI 8 3 1,
 oK 3 2 8 false,
 oP 3 (.mv (.c (.int .i64 0)))]) .ret))),
 false, false⟩
@[simp] def qgk : AFn := ⟨[(.cell 4 true 3)],
 (.seq (.region false [oU 2 3 0,
 oU 3 3 1,
 oM 4]) (.seq (.region true [oQ 5 0 2,
 oJ 6 5,
 oQ 7 0 3,
 oJ 8 7,
 oP 9 (.bin .bool .neq (.t 6) (.t 8)),
 oQ 10 1 2,
 oJ 11 10,
 oQ 12 1 3,
 oJ 13 12,
 oA2 14 215 11 13,
 oQ 15 2 2,
 oJ 16 15,
 oQ 17 2 3,
 oJ 18 17,
 oN 19 .add 16 18,
 oB3 20 85 9 14 19,
 oK 3 4 20 true]) .ret)),
 false, false⟩
@[simp] def qem : AFn := ⟨[(.tmp 2)],
 (.seq (.region false [oZ 2 false]) (.seq (.region false [mV 3 0,
 oO 4 .geq 3 8,
 mV 5 4,
 oF 6 5 0,
 gT 7 5 (.bin .num .leq (.t 6) (.c (.int .i64 512))),
 oY 8 5 7,
 mV 2 8]) .ret)),
 false, false⟩
@[simp] def qi7 : AFn := ⟨[(.cell 6 true 3), (.tmp 7)],
 (.seq (.region false [oU 3 3 0,
 oU 4 3 1,
 oM 6,
 oP 7 (.mv (.c (.int .i64 0)))]) (.seq (.region false [oI 8 3 3,
 oI 9 3 4,
 mV 10 2,
 oP 11 (.call (.f 216) [(.t 8), (.t 9), (.t 10), (.c (.bool false))]),
 oR 12 0 11,
 oR 13 1 11,
 oK 3 6 12 false,
 mV 7 13]) .ret)),
 false, false⟩
@[simp] def qm2 : AFn := ⟨[(.cell 6 true 3), (.tmp 7)],
 (.seq (.region false [oU 3 3 0,
 oU 4 3 1,
 oM 6,
 oP 7 (.mv (.c (.int .i64 0)))]) (.seq (.region false [oI 8 3 3,
 oI 9 3 4,
 mV 10 2,
 oP 11 (.call (.f 216) [(.t 8), (.t 9), (.t 10), (.c (.bool true))]),
 oR 12 0 11,
 oR 13 1 11,
 oK 3 6 12 false,
 mV 7 13]) .ret)),
 false, false⟩
@[simp] def qjd : AFn := ⟨[(.cell 8 true 7)],
 (.seq (.region false [oU 4 3 0,
 oU 6 3 2,
 oL 8]) (.seq (.seq (.region false [mV 9 1,
 oO 10 .neq 9 0,
 mV 11 10,
 oE 12 11 3,
 gF 13 11 (.bin .num .neq (.t 12) (.c (.int .i64 0))),
 oX 14 11 13]) (.cond (.t 14) (.seq (.region false [oA0 15 107,
 oK 7 8 15 false]) .ret) .skip)) (.seq (.region false [oI 16 3 4,
 oI 17 3 6,
 oP 18 (.build [(.bool false), .nil, (.int .i64 0), (.bool false), .nil, (.int .i64 0), (.bool false)] [(0, 3, (.t 16)), (3, 3, (.t 17))]),
 oK 7 8 18 false]) .ret))),
 false, false⟩
def qdn : AC := (.seq (.region false [oO 42 .lss 41 4]) (.seq (.cond (.t 42) .skip (.exit 0)) (.seq (.block 1 (.seq (.region false [mV 43 41,
 oP 44 (.index true 4 6 (.t 40) (.t 41)),
 oP 14 (.new 6 (.agg [(.bool false), .nil, (.int .i64 0), (.bool false), .nil, (.int .i64 0)])),
 mV 13 43,
 oK 6 14 44 false]) (.seq (.region false [mV 46 3,
 oP 47 (.aiaddr 2 3 (.t 14) (.c (.int .i64 0))),
 oI 48 3 47,
 oP 49 (.aiaddr 2 3 (.t 14) (.c (.int .i64 1))),
 oI 50 3 49,
 mV 51 2,
 oP 52 (.call (.t 46) [(.t 48), (.t 50), (.t 51)]),
 mV 45 52,
 oR 53 0 45,
 oR 54 1 45,
 oM 15,
 oK 3 15 53 false,
 mV 16 54]) (.seq (.region false [mV 56 4,
 oP 57 (.aiaddr 2 3 (.t 14) (.c (.int .i64 0))),
 oI 58 3 57,
 oP 59 (.aiaddr 2 3 (.t 14) (.c (.int .i64 1))),
 oI 60 3 59,
 mV 61 2,
 oP 62 (.call (.t 56) [(.t 58), (.t 60), (.t 61)]),
 mV 55 62,
 oR 63 0 55,
 oR 64 1 55,
 oM 17,
 oK 3 17 63 false,
 mV 18 64]) (.seq (.seq (.region false [mV 65 16,
 oO 66 .neq 65 0,
 mV 67 66,
 oE 68 67 18,
 gF 69 67 (.bin .num .neq (.t 68) (.c (.int .i64 0))),
 oX 70 67 69]) (.cond (.t 70) (.seq (.region false [oA0 71 107,
 oK 7 10 71 false]) .ret) .skip)) (.seq (.seq (.region false [mV 72 13,
 oO 73 .eql 72 0,
 mV 74 73,
 oG 75 74 true 3 15,
 gF 76 74 (.faddr 0 (.t 12)),
 oG 77 74 true 3 76,
 oC2 78 74 52 75 77,
 gF 79 74 (.bin .num .lss (.t 78) (.c (.int .i64 0))),
 oX 80 74 79]) (.cond (.t 80) (.region false [oI 81 3 15,
 oQ 82 0 12,
 oK 3 82 81 false]) .skip)) (.seq (.region false [mV 83 13,
 oO 84 .eql 83 0,
 mV 85 84,
 oG 86 85 true 3 17,
 gF 87 85 (.faddr 3 (.t 12)),
 oG 88 85 true 3 87,
 oC2 89 85 52 86 88,
 gF 90 85 (.bin .num .gtr (.t 89) (.c (.int .i64 0))),
 oX 91 85 90]) (.cond (.t 91) (.region false [oI 92 3 17,
 oQ 93 3 12,
 oK 3 93 92 false]) .skip)))))))) (.region false [oO 94 .add 41 1,
 mV 41 94]))))
@[simp] def qjf : AFn := ⟨[(.cell 10 true 7)],
 (.seq (.region false [oU 5 7 0,
 oU 6 7 1,
 oL 10]) (.seq (.region false [oQ 19 0 5,
 oI 20 3 19,
 oQ 21 0 6,
 oI 22 3 21,
 oP 23 (.build [(.bool false), .nil, (.int .i64 0), (.bool false), .nil, (.int .i64 0)] [(0, 3, (.t 20)), (3, 3, (.t 22))]),
 oQ 24 0 5,
 oI 25 3 24,
 oQ 26 3 6,
 oI 27 3 26,
 oP 28 (.build [(.bool false), .nil, (.int .i64 0), (.bool false), .nil, (.int .i64 0)] [(0, 3, (.t 25)), (3, 3, (.t 27))]),
 oQ 29 3 5,
 oI 30 3 29,
 oQ 31 0 6,
 oI 32 3 31,
 oP 33 (.build [(.bool false), .nil, (.int .i64 0), (.bool false), .nil, (.int .i64 0)] [(0, 3, (.t 30)), (3, 3, (.t 32))]),
 oQ 34 3 5,
 oI 35 3 34,
 oQ 36 3 6,
 oI 37 3 36,
 oP 38 (.build [(.bool false), .nil, (.int .i64 0), (.bool false), .nil, (.int .i64 0)] [(0, 3, (.t 35)), (3, 3, (.t 37))]),
 oP 39 (.build [(.bool false), .nil, (.int .i64 0), (.bool false), .nil, (.int .i64 0), (.bool false), .nil, (.int .i64 0), (.bool false), .nil, (.int .i64 0), (.bool false), .nil, (.int .i64 0), (.bool false), .nil, (.int .i64 0), (.bool false), .nil, (.int .i64 0), (.bool false), .nil, (.int .i64 0)] [(0, 6, (.t 23)), (6, 6, (.t 28)), (12, 6, (.t 33)), (18, 6, (.t 38))]),
 oP 11 (.new 24 (.agg [(.bool false), .nil, (.int .i64 0), (.bool false), .nil, (.int .i64 0), (.bool false), .nil, (.int .i64 0), (.bool false), .nil, (.int .i64 0), (.bool false), .nil, (.int .i64 0), (.bool false), .nil, (.int .i64 0), (.bool false), .nil, (.int .i64 0), (.bool false), .nil, (.int .i64 0)])),
 oK 24 11 39 false]) (.seq (.region false [oL 12]) (.seq (.seq (.region false [oI 40 24 11,
 oP 41 (.mv (.c (.int .i64 0)))]) (.block 0 (.loop qdn))) (.seq (.region false [oI 95 7 12,
 oK 7 10 95 false]) .ret))))),
 false, false⟩
@[simp] def qi5 : AFn := ⟨[(.cell 6 true 3), (.tmp 7)],
 (.seq (.region false [oU 3 3 0,
 oU 4 3 1,
 oM 6,
 oP 7 (.mv (.c (.int .i64 0)))]) (.seq (.region false [oI 8 3 3,
 oI 9 3 4,
 mV 10 2,
 oP 11 (.call (.f 217) [(.t 8), (.t 9), (.t 10), (.c (.bool false))]),
 oR 12 0 11,
 oR 13 1 11,
 oK 3 6 12 false,
 mV 7 13]) .ret)),
 false, false⟩
@[simp] def qm0 : AFn := ⟨[(.cell 6 true 3), (.tmp 7)],
 (.seq (.region false [oU 3 3 0,
 oU 4 3 1,
 oM 6,
 oP 7 (.mv (.c (.int .i64 0)))]) (.seq (.region false [oI 8 3 3,
 oI 9 3 4,
 mV 10 2,
 oP 11 (.call (.f 217) [(.t 8), (.t 9), (.t 10), (.c (.bool true))]),
 oR 12 0 11,
 oR 13 1 11,
 oK 3 6 12 false,
 mV 7 13]) .ret)),
 false, false⟩
@[simp] def qi6 : AFn := ⟨[(.cell 6 true 3), (.tmp 7)],
 (.seq (.region false [oU 3 3 0,
 oU 4 3 1,
 oM 6,
 oP 7 (.mv (.c (.int .i64 0)))]) (.seq (.region false [oI 8 3 3,
 oI 9 3 4,
 mV 10 2,
 oP 11 (.call (.f 218) [(.t 8), (.t 9), (.t 10), (.c (.bool false))]),
 oR 12 0 11,
 oR 13 1 11,
 oK 3 6 12 false,
 mV 7 13]) .ret)),
 false, false⟩
@[simp] def qm1 : AFn := ⟨[(.cell 6 true 3), (.tmp 7)],
 (.seq (.region false [oU 3 3 0,
 oU 4 3 1,
 oM 6,
 oP 7 (.mv (.c (.int .i64 0)))]) (.seq (.region false [oI 8 3 3,
 oI 9 3 4,
 mV 10 2,
 oP 11 (.call (.f 218) [(.t 8), (.t 9), (.t 10), (.c (.bool true))]),
 oR 12 0 11,
 oR 13 1 11,
 oK 3 6 12 false,
 mV 7 13]) .ret)),
 false, false⟩
@[simp] def qlg : AFn := ⟨[(.tmp 2)],
 (.seq (.region false [oZ 2 false]) (.seq (.region false [mV 3 0,
 oO 4 .geq 3 8,
 mV 5 4,
 oF 6 5 0,
 gT 7 5 (.bin .num .leq (.t 6) (.c (.int .i64 512))),
 oY 8 5 7,
 mV 2 8]) .ret)),
 false, false⟩
@[simp] def qnu : AFn := ⟨[(.cell 8 true 3), (.tmp 9)],
 (.seq (.region false [oU 4 3 0,
 oU 5 3 1,
 oM 8,
 oP 9 (.mv (.c (.int .i64 0)))]) (.seq (.region false [oI 11 3 4,
 oI 12 3 5,
 mV 13 2,
 oA3 14 219 11 12 13,
 mV 10 14]) (.seq (.seq (.region false [mV 15 10,
 oO 16 .neq 15 0]) (.cond (.t 16) (.seq (.region false [oP 17 (.build [(.bool false), .nil, (.int .i64 0)] []),
 mV 18 10,
 oK 3 8 17 false,
 mV 9 18]) .ret) .skip)) (.seq (.region false [oI 19 3 4,
 oI 20 3 5,
 oA2 21 56 19 20,
 mV 22 2,
 mV 23 3,
 oA3 24 220 21 22 23,
 oR 25 0 24,
 oR 26 1 24,
 oK 3 8 25 false,
 mV 9 26]) .ret)))),
 false, false⟩
@[simp] def qld : AFn := ⟨[(.cell 8 true 7)],
 (.seq (.region false [oU 4 3 0,
 oU 6 3 2,
 oL 8]) (.seq (.seq (.region false [mV 9 1,
 oO 10 .neq 9 0,
 mV 11 10,
 oE 12 11 3,
 gF 13 11 (.bin .num .neq (.t 12) (.c (.int .i64 0))),
 oX 14 11 13]) (.cond (.t 14) (.seq (.region false [oA0 15 109,
 oK 7 8 15 false]) .ret) .skip)) (.seq (.region false [oI 16 3 4,
 oI 17 3 6,
 oP 18 (.build [(.bool false), .nil, (.int .i64 0), (.bool false), .nil, (.int .i64 0), (.bool false)] [(0, 3, (.t 16)), (3, 3, (.t 17))]),
 oK 7 8 18 false]) .ret))),
 false, false⟩
@[simp] def qpc : AFn := ⟨[(.cell 2 true 3)],
 (.seq (.region false [oU 1 3 0,
 oM 2]) (.seq (.seq (.region false [oI 3 3 1,
 oA1 4 51 3,
 oW 5 4,
 mV 6 5,
 gF 7 6 (.faddr 1 (.t 1)),
 oG 8 6 false 1 7,
 gF 9 6 (.len (.t 8)),
 gF 10 6 (.bin .num .eql (.t 9) (.c (.int .i64 0))),
 oX 11 6 10]) (.cond (.t 11) (.seq (.region false [oP 12 (.build [(.bool false), .nil, (.int .i64 0)] []),
 oK 3 2 12 false]) .ret) .skip)) (.seq (.region true [oQ 13 0 1,
 oJ 14 13,
 oW 15 14,
 oQ 16 1 1,
 oJ 17 16,
 oA1 18 221 17,
 oQ 19 2 1,
 oJ 20 19,
 oP 21 (.build [(.bool false), .nil, (.int .i64 0)] [(0, 1, (.t 15)), (1, 1, (.t 18)), (2, 1, (.t 20))]),
 oK 3 2 21 true]) .ret))),
 false, false⟩
@[simp] def qo7 : AFn := ⟨[(.cell 4 true 3), (.tmp 5)],
 (.seq (.region false [oU 2 3 0,
 oM 4,
 oP 5 (.mv (.c (.int .i64 0)))]) (.seq (.region false [oI 6 3 2,
 mV 7 1,
 oP 8 (.call (.f 222) [(.t 6), (.t 7), (.c (.bool false))]),
 oR 9 0 8,
 oR 10 1 8,
 oK 3 4 9 false,
 mV 5 10]) .ret)),
 false, false⟩
@[simp] def qsx : AFn := ⟨[(.cell 4 true 3), (.tmp 5)],
 (.seq (.region false [oU 2 3 0,
 oM 4,
 oP 5 (.mv (.c (.int .i64 0)))]) (.seq (.region false [oI 6 3 2,
 mV 7 1,
 oP 8 (.call (.f 222) [(.t 6), (.t 7), (.c (.bool true))]),
 oR 9 0 8,
 oR 10 1 8,
 oK 3 4 9 false,
 mV 5 10]) .ret)),
 false, false⟩
@[simp] def qle : AFn := ⟨[(.tmp 4)],
 (.seq (.region false [oU 2 7 0,
 oU 3 7 1,
 oP 4 (.mv (.c .nil))]) (.seq (.region false [oQ 5 0 2,
 oI 6 3 5,
 oQ 7 0 3,
 oI 8 3 7,
 oP 9 (.build [(.bool false), .nil, (.int .i64 0), (.bool false), .nil, (.int .i64 0)] [(0, 3, (.t 6)), (3, 3, (.t 8))]),
 oQ 10 0 2,
 oI 11 3 10,
 oQ 12 3 3,
 oI 13 3 12,
 oP 14 (.build [(.bool false), .nil, (.int .i64 0), (.bool false), .nil, (.int .i64 0)] [(0, 3, (.t 11)), (3, 3, (.t 13))]),
 oQ 15 3 2,
 oI 16 3 15,
 oQ 17 0 3,
 oI 18 3 17,
 oP 19 (.build [(.bool false), .nil, (.int .i64 0), (.bool false), .nil, (.int .i64 0)] [(0, 3, (.t 16)), (3, 3, (.t 18))]),
 oQ 20 3 2,
 oI 21 3 20,
 oQ 22 3 3,
 oI 23 3 22,
 oP 24 (.build [(.bool false), .nil, (.int .i64 0), (.bool false), .nil, (.int .i64 0)] [(0, 3, (.t 21)), (3, 3, (.t 23))]),
 oP 25 (.bslice 6 4 (.agg [(.bool false), .nil, (.int .i64 0), (.bool false), .nil, (.int .i64 0)]) [(0, (.t 9)), (1, (.t 14)), (2, (.t 19)), (3, (.t 24))]),
 mV 4 25]) .ret)),
 false, false⟩
@[simp] def qns : AFn := ⟨[(.cell 8 true 3), (.tmp 9)],
 (.seq (.region false [oU 4 3 0,
 oU 5 3 1,
 oM 8,
 oP 9 (.mv (.c (.int .i64 0)))]) (.seq (.region false [oI 11 3 4,
 oI 12 3 5,
 mV 13 2,
 oA3 14 219 11 12 13,
 mV 10 14]) (.seq (.seq (.region false [mV 15 10,
 oO 16 .neq 15 0]) (.cond (.t 16) (.seq (.region false [oP 17 (.build [(.bool false), .nil, (.int .i64 0)] []),
 mV 18 10,
 oK 3 8 17 false,
 mV 9 18]) .ret) .skip)) (.seq (.region false [oI 19 3 4,
 oI 20 3 5,
 oA2 21 185 19 20,
 mV 22 2,
 mV 23 3,
 oA3 24 220 21 22 23,
 oR 25 0 24,
 oR 26 1 24,
 oK 3 8 25 false,
 mV 9 26]) .ret)))),
 false, false⟩
@[simp] def qlu : AFn := ⟨[(.cell 4 true 3), (.tmp 5)],
 (.seq (.region false [oU 2 3 0,
 oM 4,
 oP 5 (.mv (.c (.int .i64 0)))]) (.seq (.seq (.region false [oI 6 3 2,
 oA1 7 51 6,
 oW 8 7,
 mV 9 8,
 oE 10 9 1,
 oC1 11 9 223 10,
 gF 12 9 (.un .not (.t 11)),
 oX 13 9 12]) (.cond (.t 13) (.seq (.region false [oP 14 (.build [(.bool false), .nil, (.int .i64 0)] []),
 oK 3 4 14 false,
 oP 5 (.mv (.c (.int .i64 1)))]) .ret) .skip)) (.seq (.region false [oQ 15 0 2,
 oJ 16 15,
 oQ 17 1 2,
 oJ 18 17,
 oQ 19 2 2,
 oJ 20 19,
 mV 21 1,
 oN 22 .add 20 21,
 oA3 23 225 16 18 22,
 oA1 24 224 23,
 oR 25 0 24,
 oR 26 1 24,
 oK 3 4 25 false,
 mV 5 26]) .ret))),
 false, false⟩
@[simp] def qpf : AFn := ⟨[(.cell 2 true 3)],
 (.seq (.region false [oU 1 3 0,
 oM 2]) (.seq (.seq (.region false [oI 3 3 1,
 oA1 4 51 3,
 oW 5 4,
 mV 6 5,
 gF 7 6 (.faddr 1 (.t 1)),
 oG 8 6 false 1 7,
 gF 9 6 (.len (.t 8)),
 gF 10 6 (.bin .num .eql (.t 9) (.c (.int .i64 0))),
 oX 11 6 10]) (.cond (.t 11) (.seq (.region false [oP 12 (.build [(.bool false), .nil, (.int .i64 0)] []),
 oK 3 2 12 false]) .ret) .skip)) (.seq (.region true [oQ 13 1 1,
 oJ 14 13,
 oA1 15 221 14,
 oQ 16 2 1,
 oJ 17 16,
 oP 18 (.build [(.bool false), .nil, (.int .i64 0)] [(1, 1, (.t 15)), (2, 1, (.t 17))]),
 oK 3 2 18 true]) .ret))),
 false, false⟩
@[simp] def qnt : AFn := ⟨[(.cell 8 true 3), (.tmp 9)],
 (.seq (.region false [oU 4 3 0,
 oU 5 3 1,
 oM 8,
 oP 9 (.mv (.c (.int .i64 0)))]) (.seq (.region false [oI 14 3 4,
 oI 15 3 5,
 mV 16 2,
 oA3 17 219 14 15 16,
 mV 10 17]) (.seq (.seq (.region false [mV 18 10,
 oO 19 .neq 18 0]) (.cond (.t 19) (.seq (.region false [oP 20 (.build [(.bool false), .nil, (.int .i64 0)] []),
 mV 21 10,
 oK 3 8 20 false,
 mV 9 21]) .ret) .skip)) (.seq (.seq (.region false [oQ 22 1 5,
 oJ 23 22,
 oT 24 23,
 oO 25 .eql 24 0]) (.cond (.t 25) (.seq (.region false [oP 26 (.build [(.bool false), .nil, (.int .i64 0)] []),
 oK 3 8 26 false,
 oP 9 (.mv (.c (.int .i64 10)))]) .ret) .skip)) (.seq (.seq (.region false [oQ 27 1 4,
 oJ 28 27,
 oT 29 28,
 oO 30 .eql 29 0]) (.cond (.t 30) (.seq (.region false [oP 31 (.build [(.bool false), .nil, (.int .i64 0)] []),
 oK 3 8 31 false,
 oP 9 (.mv (.c (.int .i64 0)))]) .ret) .skip)) (.seq (.region true [mV 32 2,
 oO 33 .add 32 2,
 oQ 34 1 5,
 oJ 35 34,
 oA1 36 226 35,
 oN 37 .add 33 36,
 oQ 38 1 4,
 oJ 39 38,
 oB1 40 226 39,
 oN 41 .sub 37 40,
 oP 42 (.max (.c (.int .i64 0)) (.t 41)),
 mV 11 42]) (.seq (.region true [oQ 44 1 4,
 oJ 45 44,
 mV 46 11,
 oA2 47 228 45 46,
 oQ 48 1 5,
 oJ 49 48,
 oB2 50 227 47 49,
 mV 43 50,
 oR 51 0 43,
 oR 52 1 43,
 mV 12 51,
 mV 13 52]) (.seq (.region true [oQ 53 0 4,
 oJ 54 53,
 oQ 55 0 5,
 oJ 56 55,
 oP 57 (.bin .bool .neq (.t 54) (.t 56)),
 mV 58 12,
 oQ 59 2 4,
 oJ 60 59,
 oQ 61 2 5,
 oJ 62 61,
 oN 63 .sub 60 62,
 mV 64 11,
 oN 65 .sub 63 64,
 mV 66 13,
 oA1 67 226 66,
 oO 68 .gtr 67 0,
 mV 69 2,
 mV 70 3,
 oB6 71 229 57 58 65 68 69 70,
 oR 72 0 71,
 oR 73 1 71,
 oK 3 8 72 true,
 mV 9 73]) .ret)))))))),
 false, false⟩
@[simp] def qpd : AFn := ⟨[(.cell 2 true 3)],
 (.seq (.region false [oM 2]) (.seq (.region false [mV 4 0,
 oP 5 (.conv .u64 (.t 4)),
 mV 3 5]) (.seq (.seq (.region false [mV 6 0,
 oO 7 .lss 6 0]) (.cond (.t 7) (.region false [mV 8 3,
 oP 9 (.un .neg (.t 8)),
 mV 3 9]) .skip)) (.seq (.region false [mV 10 0,
 oO 11 .lss 10 0,
 mV 12 3,
 oP 13 (.conv .u32 (.t 12)),
 mV 14 3,
 oP 15 (.bin .num .shr (.t 14) (.c (.int .u64 32))),
 oP 16 (.conv .u32 (.t 15)),
 oP 17 (.bslice 1 2 (.int .u32 0) [(0, (.t 13)), (1, (.t 16))]),
 oP 18 (.call (.f 225) [(.t 11), (.t 17), (.c (.int .i64 0))]),
 oK 3 2 18 false]) .ret)))),
 false, false⟩
@[simp] def qf0 : AFn := ⟨[(.tmp 2)],
 (.seq (.region false [oZ 2 false]) (.seq (.region false [mV 3 0,
 oP 4 (.bin .num .geq (.t 3) (.c (.int .i64 (-32768)))),
 mV 5 4,
 oF 6 5 0,
 gT 7 5 (.bin .num .leq (.t 6) (.c (.int .i64 32768))),
 oY 8 5 7,
 mV 2 8]) .ret)),
 false, false⟩
def qfz : AC := (.seq (.seq (.region false [mV 25 8,
 mV 26 1,
 oT 27 26,
 oN 28 .lss 25 27]) (.cond (.t 28) .skip (.exit 2))) (.seq (.block 3 (.seq (.region true [mV 31 0,
 mV 32 6,
 oV 33 1 31 32,
 oJ 34 33,
 oP 35 (.conv .u64 (.t 34)),
 mV 36 1,
 mV 37 8,
 oV 38 1 36 37,
 oJ 39 38,
 oP 40 (.conv .u64 (.t 39)),
 oN 41 .mul 35 40,
 mV 42 5,
 mV 43 6,
 mV 44 8,
 oN 45 .add 43 44,
 oV 46 1 42 45,
 oJ 47 46,
 oP 48 (.conv .u64 (.t 47)),
 oN 49 .add 41 48,
 mV 50 7,
 oN 51 .add 49 50,
 mV 9 51]) (.seq (.region false [mV 52 5,
 mV 53 6,
 mV 54 8,
 oN 55 .add 53 54,
 mV 56 9,
 oP 57 (.bin .num .and (.t 56) (.c (.int .u64 4294967295))),
 oP 58 (.conv .u32 (.t 57)),
 oV 59 1 52 55,
 oK 1 59 58 false]) (.region false [mV 60 9,
 oP 61 (.bin .num .shr (.t 60) (.c (.int .u64 32))),
 mV 7 61])))) (.region false [mV 29 8,
 oO 30 .add 29 1,
 mV 8 30])))
def qfy : AC := (.seq (.seq (.region false [mV 66 7,
 oP 67 (.bin .num .gtr (.t 66) (.c (.int .u64 0)))]) (.cond (.t 67) .skip (.exit 4))) (.seq (.block 5 (.seq (.region false [mV 70 5,
 mV 71 10,
 oV 72 1 70 71,
 oJ 73 72,
 oP 74 (.conv .u64 (.t 73)),
 mV 75 7,
 oN 76 .add 74 75,
 mV 11 76]) (.seq (.region false [mV 77 5,
 mV 78 10,
 mV 79 11,
 oP 80 (.bin .num .and (.t 79) (.c (.int .u64 4294967295))),
 oP 81 (.conv .u32 (.t 80)),
 oV 82 1 77 78,
 oK 1 82 81 false]) (.region false [mV 83 11,
 oP 84 (.bin .num .shr (.t 83) (.c (.int .u64 32))),
 mV 7 84])))) (.region false [mV 68 10,
 oO 69 .add 68 1,
 mV 10 69])))
def qfx : AC := (.seq (.seq (.region false [mV 19 6,
 mV 20 0,
 oT 21 20,
 oN 22 .lss 19 21]) (.cond (.t 22) .skip (.exit 0))) (.seq (.block 1 (.seq (.region false [oP 7 (.mv (.c (.int .u64 0)))]) (.seq (.seq (.region false [oP 8 (.mv (.c (.int .i64 0)))]) (.block 2 (.loop qfz))) (.seq (.region false [mV 62 6,
 mV 63 1,
 oT 64 63,
 oN 65 .add 62 64,
 mV 10 65]) (.block 4 (.loop qfy)))))) (.region false [mV 23 6,
 oO 24 .add 23 1,
 mV 6 24])))
@[simp] def qjt : AFn := ⟨[(.tmp 4)],
 (.seq (.region false [oP 4 (.mv (.c .nil))]) (.seq (.region false [mV 12 0,
 oT 13 12,
 mV 14 1,
 oT 15 14,
 oN 16 .add 13 15,
 oO 17 .add 16 1,
 oP 18 (.mkslice 1 4 (.int .u32 0) (.t 17) (.t 17)),
 mV 5 18]) (.seq (.seq (.region false [oP 6 (.mv (.c (.int .i64 0)))]) (.block 0 (.loop qfx))) (.seq (.region false [mV 85 5,
 oA1 86 101 85,
 mV 4 86]) .ret)))),
 false, false⟩
@[simp] def c_round_add : AFn := ⟨[(.cell 8 true 3), (.tmp 9)],
 (.seq (.region false [oU 4 3 0,
 oU 5 3 1,
 oM 8,
 oP 9 (.mv (.c (.int .i64 0)))]) (.seq (.seq (.region false [mV 13 2,
 oI 14 3 4,
 oI 15 3 5,
 oP 16 (.bslice 3 2 (.agg [(.bool false), .nil, (.int .i64 0)]) [(0, (.t 14)), (1, (.t 15))]),
 oA2 17 235 13 16,
 mV 10 17]) (.seq (.region false [mV 18 10,
 oO 19 .neq 18 0]) (.cond (.t 19) (.seq (.region false [oP 20 (.build [(.bool false), .nil, (.int .i64 0)] []),
 mV 21 10,
 oK 3 8 20 false,
 mV 9 21]) .ret) .skip))) (.seq (.block 0 (.seq (.region false [oQ 23 1 4,
 oJ 24 23,
 oT 25 24,
 oO 26 .eql 25 0,
 mV 22 26]) (.cond (.t 22) (.seq (.region false [oI 27 3 5,
 mV 28 2,
 mV 29 3,
 oA3 30 222 27 28 29,
 oR 31 0 30,
 oR 32 1 30,
 oK 3 8 31 false,
 mV 9 32]) .ret) (.seq (.region false [oQ 34 1 5,
 oJ 35 34,
 oT 36 35,
 oO 37 .eql 36 0,
 mV 33 37]) (.cond (.t 33) (.seq (.region false [oI 38 3 4,
 mV 39 2,
 mV 40 3,
 oA3 41 222 38 39 40,
 oR 42 0 41,
 oR 43 1 41,
 oK 3 8 42 false,
 mV 9 43]) .ret) .skip))))) (.seq (.seq (.region true [oI 44 3 4,
 oA1 45 98 44,
 oI 46 3 5,
 oB1 47 98 46,
 oN 48 .lss 45 47]) (.cond (.t 48) (.region false [oI 49 3 5,
 oI 50 3 4,
 oK 3 4 49 false,
 oK 3 5 50 false]) .skip)) (.seq (.region false [oI 52 3 4,
 oI 53 3 5,
 mV 54 2,
 oA3 55 236 52 53 54,
 mV 51 55,
 oR 56 0 51,
 oR 57 1 51,
 oP 11 (.new 3 (.agg [.nil, (.int .i64 0), (.bool false)])),
 oK 3 11 56 false,
 mV 12 57]) (.seq (.seq (.region false [oQ 58 0 11,
 oJ 59 58,
 oT 60 59,
 oO 61 .eql 60 0,
 mV 62 61,
 gT 63 62 (.faddr 2 (.t 11)),
 oH 64 62 false 1 63,
 gT 65 62 (.un .not (.t 64)),
 oY 66 62 65]) (.cond (.t 66) (.seq (.region false [oP 67 (.build [(.bool false), .nil, (.int .i64 0)] []),
 oK 3 8 67 false,
 oP 9 (.mv (.c (.int .i64 0)))]) .ret) .skip)) (.seq (.region false [oQ 68 0 4,
 oJ 69 68,
 mV 70 12,
 oP 71 (.bin .bool .neq (.t 69) (.t 70)),
 oI 72 3 11,
 mV 73 2,
 mV 74 3,
 oA4 75 237 71 72 73 74,
 oR 76 0 75,
 oR 77 1 75,
 oK 3 8 76 false,
 mV 9 77]) .ret))))))),
 false, false⟩
@[simp] def qqy : AFn := ⟨[(.cell 8 true 3), (.tmp 9)],
 (.seq (.region false [oU 4 3 0,
 oU 5 3 1,
 oM 8,
 oP 9 (.mv (.c (.int .i64 0)))]) (.seq (.seq (.region false [mV 13 2,
 oI 14 3 4,
 oI 15 3 5,
 oP 16 (.bslice 3 2 (.agg [(.bool false), .nil, (.int .i64 0)]) [(0, (.t 14)), (1, (.t 15))]),
 oA2 17 235 13 16,
 mV 10 17]) (.seq (.region false [mV 18 10,
 oO 19 .neq 18 0]) (.cond (.t 19) (.seq (.region false [oP 20 (.build [(.bool false), .nil, (.int .i64 0)] []),
 mV 21 10,
 oK 3 8 20 false,
 mV 9 21]) .ret) .skip))) (.seq (.seq (.region false [oQ 22 1 4,
 oJ 23 22,
 oT 24 23,
 oO 25 .eql 24 0,
 mV 26 25,
 gF 27 26 (.faddr 1 (.t 5)),
 oG 28 26 false 1 27,
 gF 29 26 (.len (.t 28)),
 gF 30 26 (.bin .num .eql (.t 29) (.c (.int .i64 0))),
 oX 31 26 30]) (.cond (.t 31) (.seq (.region false [oP 32 (.build [(.bool false), .nil, (.int .i64 0)] []),
 oK 3 8 32 false,
 oP 9 (.mv (.c (.int .i64 0)))]) .ret) .skip)) (.seq (.region false [oQ 34 1 4,
 oJ 35 34,
 oQ 36 1 5,
 oJ 37 36,
 oA2 38 238 35 37,
 mV 33 38,
 oR 39 0 33,
 oR 40 1 33,
 mV 11 39,
 mV 12 40]) (.seq (.region false [oQ 41 0 4,
 oJ 42 41,
 oQ 43 0 5,
 oJ 44 43,
 oP 45 (.bin .bool .neq (.t 42) (.t 44)),
 mV 46 11,
 oQ 47 2 4,
 oJ 48 47,
 oQ 49 2 5,
 oJ 50 49,
 oN 51 .add 48 50,
 oP 52 (.build [.nil, (.int .i64 0), (.bool false)] [(0, 1, (.t 46)), (1, 1, (.t 51))]),
 mV 53 2,
 mV 54 3,
 oA4 55 237 45 52 53 54,
 oR 56 0 55,
 oR 57 1 55,
 oK 3 8 56 false,
 mV 9 57]) .ret))))),
 false, false⟩
@[simp] def qqz : AFn := ⟨[(.cell 8 true 3), (.tmp 9)],
 (.seq (.region false [oU 4 3 0,
 oU 5 3 1,
 oM 8,
 oP 9 (.mv (.c (.int .i64 0)))]) (.seq (.seq (.region false [mV 15 2,
 oI 16 3 4,
 oI 17 3 5,
 oP 18 (.bslice 3 2 (.agg [(.bool false), .nil, (.int .i64 0)]) [(0, (.t 16)), (1, (.t 17))]),
 oA2 19 235 15 18,
 mV 10 19]) (.seq (.region false [mV 20 10,
 oO 21 .neq 20 0]) (.cond (.t 21) (.seq (.region false [oP 22 (.build [(.bool false), .nil, (.int .i64 0)] []),
 mV 23 10,
 oK 3 8 22 false,
 mV 9 23]) .ret) .skip))) (.seq (.block 0 (.seq (.region false [oQ 25 1 5,
 oJ 26 25,
 oT 27 26,
 oO 28 .eql 27 0,
 mV 24 28]) (.cond (.t 24) (.seq (.region false [oP 29 (.build [(.bool false), .nil, (.int .i64 0)] []),
 oK 3 8 29 false,
 oP 9 (.mv (.c (.int .i64 10)))]) .ret) (.seq (.region false [oQ 31 1 4,
 oJ 32 31,
 oT 33 32,
 oO 34 .eql 33 0,
 mV 30 34]) (.cond (.t 30) (.seq (.region false [oP 35 (.build [(.bool false), .nil, (.int .i64 0)] []),
 oK 3 8 35 false,
 oP 9 (.mv (.c (.int .i64 0)))]) .ret) .skip))))) (.seq (.region true [mV 36 2,
 oO 37 .add 36 3,
 oI 38 3 5,
 oA1 39 239 38,
 oN 40 .add 37 39,
 oI 41 3 4,
 oB1 42 239 41,
 oN 43 .sub 40 42,
 oP 44 (.max (.c (.int .i64 0)) (.t 43)),
 mV 11 44]) (.seq (.region true [oQ 46 1 4,
 oJ 47 46,
 mV 48 11,
 oA2 49 241 47 48,
 oQ 50 1 5,
 oJ 51 50,
 oB2 52 240 49 51,
 mV 45 52,
 oR 53 0 45,
 oR 54 1 45,
 oR 55 2 45,
 mV 12 53,
 mV 13 54,
 mV 14 55]) (.seq (.region true [oQ 56 0 4,
 oJ 57 56,
 oQ 58 0 5,
 oJ 59 58,
 oP 60 (.bin .bool .neq (.t 57) (.t 59)),
 mV 61 12,
 oQ 62 2 4,
 oJ 63 62,
 mV 64 11,
 oN 65 .sub 63 64,
 oQ 66 2 5,
 oJ 67 66,
 oN 68 .sub 65 67,
 mV 69 13,
 oA1 70 110 69,
 oO 71 .gtr 70 0,
 oP 72 (.build [.nil, (.int .i64 0), (.bool false)] [(0, 1, (.t 61)), (1, 1, (.t 68)), (2, 1, (.t 71))]),
 mV 73 2,
 mV 74 3,
 oB4 75 237 60 72 73 74,
 oR 76 0 75,
 oR 77 1 75,
 oK 3 8 76 true,
 mV 9 77]) .ret)))))),
 false, false⟩
@[simp] def qjq : AFn := ⟨[(.tmp 6)],
 (.seq (.region false [oU 3 3 0,
 oU 4 3 1,
 oP 6 (.mv (.c (.int .i64 0)))]) (.seq (.seq (.region false [oI 7 3 3,
 oA1 8 12 7,
 oW 9 8,
 mV 10 9,
 oG 11 10 true 3 4,
 oC1 12 10 12 11,
 gF 13 10 (.un .not (.t 12)),
 oX 14 10 13]) (.cond (.t 14) (.seq (.region false [oP 6 (.mv (.c (.int .i64 1)))]) .ret) .skip)) (.seq (.seq (.region false [mV 15 2,
 oA1 16 242 15,
 oW 17 16]) (.cond (.t 17) (.seq (.region false [oP 6 (.mv (.c (.int .i64 2)))]) .ret) .skip)) (.seq (.region false [oP 6 (.mv (.c (.int .i64 0)))]) .ret)))),
 false, false⟩
@[simp] def qjr : AFn := ⟨[(.cell 6 true 3), (.tmp 7)],
 (.seq (.region false [oU 3 3 0,
 oM 6,
 oP 7 (.mv (.c (.int .i64 0)))]) (.seq (.region false [oQ 8 0 3,
 oJ 9 8,
 oQ 10 1 3,
 oJ 11 10,
 oQ 12 2 3,
 oJ 13 12,
 mV 14 1,
 mV 15 2,
 oP 16 (.call (.f 229) [(.t 9), (.t 11), (.t 13), (.c (.bool false)), (.t 14), (.t 15)]),
 oR 17 0 16,
 oR 18 1 16,
 oK 3 6 17 false,
 mV 7 18]) .ret)),
 false, false⟩
@[simp] def qdy : AFn := ⟨[(.tmp 2)],
 (.seq (.region false [oP 2 (.mv (.c .nil))]) (.seq (.seq (.region false [mV 3 0,
 oP 4 (.bin .slice .eql (.t 3) (.c .nil))]) (.cond (.t 4) (.seq (.region false [oP 2 (.mv (.c .nil))]) .ret) .skip)) (.seq (.region false [oP 5 (.bslice 1 0 (.int .u32 0) []),
 mV 6 0,
 oP 7 (.append 1 4 (.t 5) (.t 6)),
 mV 2 7]) .ret))),
 false, false⟩
@[simp] def qmy : AFn := ⟨[(.cell 6 true 3), (.tmp 7)],
 (.seq (.region false [oU 3 3 0,
 oM 6,
 oP 7 (.mv (.c (.int .i64 0)))]) (.seq (.seq (.region false [mV 9 1,
 oI 10 3 3,
 oP 11 (.bslice 3 1 (.agg [(.bool false), .nil, (.int .i64 0)]) [(0, (.t 10))]),
 oA2 12 235 9 11,
 mV 8 12]) (.seq (.region false [mV 13 8,
 oO 14 .neq 13 0]) (.cond (.t 14) (.seq (.region false [oP 15 (.build [(.bool false), .nil, (.int .i64 0)] []),
 mV 16 8,
 oK 3 6 15 false,
 mV 7 16]) .ret) .skip))) (.seq (.region true [oQ 17 0 3,
 oJ 18 17,
 oI 19 3 3,
 oA1 20 243 19,
 mV 21 1,
 mV 22 2,
 oB4 23 237 18 20 21 22,
 oR 24 0 23,
 oR 25 1 23,
 oK 3 6 24 true,
 mV 7 25]) .ret))),
 false, false⟩
@[simp] def qgq : AFn := ⟨[(.tmp 2)],
 (.seq (.region false [oZ 2 false]) (.seq (.region false [mV 3 0,
 oP 4 (.bin .num .geq (.t 3) (.c (.int .i64 (-32768)))),
 mV 5 4,
 oF 6 5 0,
 gT 7 5 (.bin .num .leq (.t 6) (.c (.int .i64 32768))),
 oY 8 5 7,
 mV 2 8]) .ret)),
 false, false⟩
@[simp] def qh8 : AFn := ⟨[(.cell 2 true 3), (.tmp 3)],
 (.seq (.region false [oU 1 3 0,
 oM 2,
 oP 3 (.mv (.c (.int .i64 0)))]) (.seq (.seq (.region false [oI 4 3 1,
 oA1 5 78 4,
 oW 6 5]) (.cond (.t 6) (.seq (.region false [oP 7 (.build [(.bool false), .nil, (.int .i64 0)] []),
 oK 3 2 7 false,
 oP 3 (.mv (.c (.int .i64 9)))]) .ret) .skip)) (.seq (.region false [oI 8 3 1,
 oK 3 2 8 false,
 oP 3 (.mv (.c (.int .i64 0)))]) .ret))),
 false, false⟩
@[simp] def qf1 : AFn := ⟨[(.cell 6 true 3)],
 (.seq (.region false [oM 6]) (.seq (.region false [mV 10 1,
 oA1 11 244 10,
 mV 1 11]) (.seq (.seq (.region false [mV 12 1,
 oT 13 12,
 oO 14 .eql 13 0]) (.cond (.t 14) (.seq (.region false [oP 15 (.build [(.bool false), .nil, (.int .i64 0)] []),
 oK 3 6 15 false]) .ret) .skip)) (.seq (.region false [mV 16 1,
 oA1 17 245 16,
 mV 7 17]) (.seq (.region false [mV 19 1,
 mV 20 7,
 oA2 21 246 19 20,
 mV 18 21,
 oR 22 0 18,
 oR 23 1 18,
 mV 8 22,
 mV 9 23]) (.seq (.region false [mV 24 0,
 mV 25 8,
 oA1 26 221 25,
 oA1 27 119 26,
 mV 28 2,
 mV 29 7,
 oN 30 .add 28 29,
 oP 31 (.build [(.bool false), .nil, (.int .i64 0)] [(0, 1, (.t 24)), (1, 1, (.t 27)), (2, 1, (.t 30))]),
 oK 3 6 31 false]) .ret)))))),
 false, false⟩
def qgm : AC := (.seq (.seq (.region false [mV 24 5,
 oP 25 (.bin .num .gtr (.t 24) (.c (.int .u32 0)))]) (.cond (.t 25) .skip (.exit 2))) (.seq (.block 3 (.region false [mV 28 4,
 oO 29 .add 28 1,
 mV 4 29])) (.region false [mV 26 5,
 oP 27 (.bin .num .shr (.t 26) (.c (.int .u64 1))),
 mV 5 27])))
def qeg : AC := (.seq (.seq (.region false [mV 9 3,
 oO 10 .geq 9 0]) (.cond (.t 10) .skip (.exit 0))) (.seq (.block 1 (.seq (.region false [mV 13 0,
 mV 14 3,
 oV 15 1 13 14,
 oJ 16 15,
 oP 17 (.bin .num .neq (.t 16) (.c (.int .u32 0)))]) (.cond (.t 17) (.seq (.region false [mV 18 3,
 oP 19 (.bin .num .mul (.c (.int .i64 32)) (.t 18)),
 mV 4 19]) (.seq (.seq (.region false [mV 20 0,
 mV 21 3,
 oV 22 1 20 21,
 oJ 23 22,
 mV 5 23]) (.block 2 (.loop qgm))) (.seq (.region false [mV 30 4,
 mV 2 30]) .ret))) .skip))) (.region false [mV 11 3,
 oO 12 .sub 11 1,
 mV 3 12])))
@[simp] def qlq : AFn := ⟨[(.tmp 2)],
 (.seq (.region false [oP 2 (.mv (.c (.int .i64 0)))]) (.seq (.seq (.region false [mV 6 0,
 oT 7 6,
 oO 8 .sub 7 1,
 mV 3 8]) (.block 0 (.loop qeg))) (.seq (.region false [oP 2 (.mv (.c (.int .i64 0)))]) .ret))),
 false, false⟩
def qc7 : AC := (.seq (.seq (.region false [mV 40 10,
 mV 41 7,
 oT 42 41,
 oN 43 .lss 40 42]) (.cond (.t 43) .skip (.exit 2))) (.seq (.block 3 (.seq (.region false [mV 46 7,
 mV 47 10,
 oV 48 1 46 47,
 oJ 49 48,
 mV 11 49]) (.seq (.region false [mV 50 7,
 mV 51 10,
 mV 52 11,
 oP 53 (.bin .num .shl (.t 52) (.c (.int .u64 1))),
 mV 54 9,
 oN 55 .or 53 54,
 oV 56 1 50 51,
 oK 1 56 55 false]) (.region false [mV 57 11,
 oP 58 (.bin .num .shr (.t 57) (.c (.int .u64 31))),
 mV 9 58])))) (.region false [mV 44 10,
 oO 45 .add 44 1,
 mV 10 45])))
def qc6 : AC := (.seq (.seq (.region false [mV 62 13,
 mV 63 7,
 oT 64 63,
 oN 65 .lss 62 64]) (.cond (.t 65) .skip (.exit 4))) (.seq (.block 5 (.seq (.region true [mV 68 7,
 mV 69 13,
 oV 70 1 68 69,
 oJ 71 70,
 oP 72 (.conv .u64 (.t 71)),
 oP 73 (.bin .num .add (.t 72) (.c (.int .u64 4294967296))),
 mV 74 1,
 mV 75 13,
 oA2 76 249 74 75,
 oN 77 .sub 73 76,
 mV 78 12,
 oN 79 .sub 77 78,
 mV 14 79]) (.seq (.region false [mV 80 7,
 mV 81 13,
 mV 82 14,
 oP 83 (.bin .num .and (.t 82) (.c (.int .u64 4294967295))),
 oP 84 (.conv .u32 (.t 83)),
 oV 85 1 80 81,
 oK 1 85 84 false]) (.region false [mV 86 14,
 oP 87 (.bin .num .shr (.t 86) (.c (.int .u64 32))),
 oP 88 (.bin .num .sub (.c (.int .u64 1)) (.t 87)),
 mV 12 88])))) (.region false [mV 66 13,
 oO 67 .add 66 1,
 mV 13 67])))
def qe5 : AC := (.seq (.seq (.region false [mV 27 8,
 oO 28 .geq 27 0]) (.cond (.t 28) .skip (.exit 0))) (.seq (.block 1 (.seq (.region false [mV 31 0,
 mV 32 8,
 oO 33 .quo 32 32,
 oV 34 1 31 33,
 oJ 35 34,
 mV 36 8,
 oO 37 .rem 36 32,
 oN 38 .shr 35 37,
 oP 39 (.bin .num .and (.t 38) (.c (.int .u32 1))),
 mV 9 39]) (.seq (.seq (.region false [oP 10 (.mv (.c (.int .i64 0)))]) (.block 2 (.loop qc7))) (.seq (.seq (.region false [mV 59 7,
 mV 60 1,
 oA2 61 248 59 60]) (.cond (.t 61) (.exit 1) .skip)) (.seq (.region false [oP 12 (.mv (.c (.int .u64 0)))]) (.seq (.seq (.region false [oP 13 (.mv (.c (.int .i64 0)))]) (.block 4 (.loop qc6))) (.region true [mV 89 6,
 mV 90 8,
 oO 91 .quo 90 32,
 mV 92 6,
 mV 93 8,
 oO 94 .quo 93 32,
 oV 95 1 92 94,
 oJ 96 95,
 mV 97 8,
 oO 98 .rem 97 32,
 oP 99 (.bin .num .shl (.c (.int .u32 1)) (.t 98)),
 oN 100 .or 96 99,
 oV 101 1 89 91,
 oK 1 101 100 true]))))))) (.region false [mV 29 8,
 oO 30 .sub 29 1,
 mV 8 30])))
@[simp] def qh0 : AFn := ⟨[(.tmp 4), (.tmp 5)],
 (.seq (.region false [oP 4 (.mv (.c .nil)),
 oP 5 (.mv (.c .nil))]) (.seq (.region false [mV 15 1,
 oA1 16 247 15,
 mV 1 16]) (.seq (.region false [mV 17 0,
 oT 18 17,
 oP 19 (.mkslice 1 4 (.int .u32 0) (.t 18) (.t 18)),
 mV 6 19]) (.seq (.region false [mV 20 1,
 oT 21 20,
 oO 22 .add 21 1,
 oP 23 (.mkslice 1 4 (.int .u32 0) (.t 22) (.t 22)),
 mV 7 23]) (.seq (.seq (.region false [mV 24 0,
 oA1 25 226 24,
 oO 26 .sub 25 1,
 mV 8 26]) (.block 0 (.loop qe5))) (.seq (.region false [mV 102 6,
 oA1 103 247 102,
 mV 104 7,
 oA1 105 247 104,
 mV 4 103,
 mV 5 105]) .ret)))))),
 false, false⟩
def qhz : AC := (.seq (.seq (.region false [mV 17 6,
 mV 18 0,
 oT 19 18,
 oN 20 .lss 17 19]) (.cond (.t 20) .skip (.exit 0))) (.seq (.block 1 (.seq (.region false [mV 23 0,
 mV 24 6,
 oV 25 1 23 24,
 oJ 26 25,
 oP 27 (.conv .u64 (.t 26)),
 mV 28 1,
 oO 29 .rem 28 32,
 oN 30 .shl 27 29,
 mV 7 30]) (.seq (.region false [mV 31 5,
 mV 32 6,
 mV 33 1,
 oO 34 .quo 33 32,
 oN 35 .add 32 34,
 mV 36 5,
 mV 37 6,
 mV 38 1,
 oO 39 .quo 38 32,
 oN 40 .add 37 39,
 oV 41 1 36 40,
 oJ 42 41,
 mV 43 7,
 oP 44 (.bin .num .and (.t 43) (.c (.int .u64 4294967295))),
 oP 45 (.conv .u32 (.t 44)),
 oN 46 .or 42 45,
 oV 47 1 31 35,
 oK 1 47 46 false]) (.region false [mV 48 5,
 mV 49 6,
 mV 50 1,
 oO 51 .quo 50 32,
 oN 52 .add 49 51,
 oO 53 .add 52 1,
 mV 54 7,
 oP 55 (.bin .num .shr (.t 54) (.c (.int .u64 32))),
 oP 56 (.conv .u32 (.t 55)),
 oV 57 1 48 53,
 oK 1 57 56 false])))) (.region false [mV 21 6,
 oO 22 .add 21 1,
 mV 6 22])))
@[simp] def qn2 : AFn := ⟨[(.tmp 4)],
 (.seq (.region false [oP 4 (.mv (.c .nil))]) (.seq (.region false [mV 8 0,
 oA1 9 247 8,
 mV 0 9]) (.seq (.region false [mV 10 1,
 oO 11 .quo 10 32,
 mV 12 0,
 oT 13 12,
 oN 14 .add 11 13,
 oO 15 .add 14 1,
 oP 16 (.mkslice 1 4 (.int .u32 0) (.t 15) (.t 15)),
 mV 5 16]) (.seq (.seq (.region false [oP 6 (.mv (.c (.int .i64 0)))]) (.block 0 (.loop qhz))) (.seq (.region false [mV 58 5,
 oA1 59 247 58,
 mV 4 59]) .ret))))),
 false, false⟩
end Go.Abs
namespace Go.Abs
@[simp] def c_fpref03_Cut : AFn := ⟨[(.cell 12 true 3), (.tmp 13)],
 (.seq (.region false [oM 12,
 oP 13 (.mv (.c (.int .i64 0)))]) (.seq (.region false [mV 18 1,
 oA1 19 247 18,
 mV 1 19]) (.seq (.region false [mV 20 1,
 oA1 21 226 20,
 mV 14 21]) (.seq (.region false [mV 22 14,
 mV 23 4,
 oN 24 .sub 22 23,
 mV 25 2,
 oP 26 (.bin .num .sub (.c (.int .i64 (-16384))) (.t 25)),
 oP 27 (.max3 (.t 24) (.t 26) (.c (.int .i64 0))),
 mV 15 27]) (.seq (.region false [mV 28 1,
 mV 29 15,
 oA2 30 250 28 29,
 mV 16 30]) (.seq (.seq (.region false [mV 31 15,
 oO 32 .gtr 31 0,
 mV 33 32,
 oF 34 33 16,
 oF 35 33 15,
 oD2 36 33 228 34 35,
 oF 37 33 1,
 oD2 38 33 232 36 37,
 gT 39 33 (.bin .num .neq (.t 38) (.c (.int .i64 0))),
 oY 40 33 39]) (.cond (.t 40) (.region false [oZ 3 true]) .skip)) (.seq (.region false [mV 41 0,
 mV 42 5,
 oP 43 (.bin .bool .neq (.t 41) (.t 42)),
 mV 17 43]) (.seq (.seq (.region false [mV 44 3,
 mV 45 44,
 oF 46 45 17,
 oY 47 45 46]) (.cond (.t 47) (.region false [mV 48 16,
 oP 49 (.bslice 1 1 (.int .u32 0) [(0, (.c (.int .u32 1)))]),
 oA2 50 251 48 49,
 mV 16 50]) .skip)) (.seq (.seq (.region false [mV 51 16,
 oA1 52 226 51,
 oO 53 .gtr 52 0,
 mV 54 53,
 oF 55 54 16,
 oD1 56 54 226 55,
 oF 57 54 2,
 gT 58 54 (.bin .num .add (.t 56) (.t 57)),
 oF 59 54 15,
 gT 60 54 (.bin .num .add (.t 58) (.t 59)),
 gT 61 54 (.bin .num .gtr (.t 60) (.c (.int .i64 16384))),
 oY 62 54 61]) (.cond (.t 62) (.seq (.seq (.region false [mV 63 17]) (.cond (.t 63) (.seq (.region false [oP 64 (.build [(.bool false), .nil, (.int .i64 0)] []),
 oK 3 12 64 false,
 oP 13 (.mv (.c (.int .i64 9)))]) .ret) .skip)) (.seq (.region false [mV 65 0,
 mV 66 4,
 oA2 67 252 65 66,
 oK 3 12 67 false,
 oP 13 (.mv (.c (.int .i64 0)))]) .ret)) .skip)) (.seq (.region false [mV 68 0,
 mV 69 16,
 mV 70 2,
 mV 71 15,
 oN 72 .add 70 71,
 oA3 73 85 68 69 72,
 oK 3 12 73 false,
 oP 13 (.mv (.c (.int .i64 0)))]) .ret)))))))))),
 false, false⟩
def qe0 : AC := (.seq (.seq (.region false [mV 12 5,
 oO 13 .geq 12 0]) (.cond (.t 13) .skip (.exit 0))) (.seq (.block 1 (.seq (.seq (.region false [mV 16 0,
 mV 17 5,
 oA2 18 249 16 17,
 mV 19 1,
 mV 20 5,
 oA2 21 249 19 20,
 oN 22 .lss 18 21]) (.cond (.t 22) (.seq (.region false [oP 4 (.mv (.c (.int .i64 (-1))))]) .ret) .skip)) (.seq (.region false [mV 23 0,
 mV 24 5,
 oA2 25 249 23 24,
 mV 26 1,
 mV 27 5,
 oA2 28 249 26 27,
 oN 29 .gtr 25 28]) (.cond (.t 29) (.seq (.region false [oP 4 (.mv (.c (.int .i64 1)))]) .ret) .skip)))) (.region false [mV 14 5,
 oO 15 .sub 14 1,
 mV 5 15])))
@[simp] def qn3 : AFn := ⟨[(.tmp 4)],
 (.seq (.region false [oP 4 (.mv (.c (.int .i64 0)))]) (.seq (.seq (.region false [mV 6 0,
 oT 7 6,
 mV 8 1,
 oT 9 8,
 oP 10 (.max (.t 7) (.t 9)),
 oO 11 .sub 10 1,
 mV 5 11]) (.block 0 (.loop qe0))) (.seq (.region false [oP 4 (.mv (.c (.int .i64 0)))]) .ret))),
 false, true⟩
def qhd : AC := (.seq (.region false [oN 10 .lss 9 8]) (.seq (.cond (.t 10) .skip (.exit 0)) (.seq (.block 1 (.seq (.region false [oV 11 3 7 9,
 oI 12 3 11,
 oM 6,
 oK 3 6 12 false]) (.seq (.region false [oI 13 3 6,
 oA1 14 51 13,
 oW 15 14]) (.cond (.t 15) (.seq (.region false [oP 4 (.mv (.c (.int .i64 1)))]) .ret) .skip)))) (.region false [oO 16 .add 9 1,
 mV 9 16]))))
@[simp] def qmz : AFn := ⟨[(.tmp 4)],
 (.seq (.region false [oP 4 (.mv (.c (.int .i64 0)))]) (.seq (.seq (.region false [mV 7 1,
 oT 8 7,
 oP 9 (.mv (.c (.int .i64 0)))]) (.block 0 (.loop qhd))) (.seq (.seq (.region false [mV 17 0,
 oA1 18 255 17,
 oW 19 18]) (.cond (.t 19) (.seq (.region false [oP 4 (.mv (.c (.int .i64 2)))]) .ret) .skip)) (.seq (.region false [oP 4 (.mv (.c (.int .i64 0)))]) .ret)))),
 false, false⟩
@[simp] def c_round_sum : AFn := ⟨[(.cell 6 true 3), (.tmp 7)],
 (.seq (.region false [oU 3 3 0,
 oU 4 3 1,
 oP 6 (.new 3 (.agg [.nil, (.int .i64 0), (.bool false)])),
 oZ 7 false]) (.seq (.region true [oQ 18 2 3,
 oJ 19 18,
 oI 20 3 3,
 oA1 21 98 20,
 mV 22 2,
 oN 23 .sub 21 22,
 oO 24 .sub 23 8,
 oP 25 (.min (.t 19) (.t 24)),
 mV 8 25]) (.seq (.seq (.region true [oI 26 3 3,
 oA1 27 98 26,
 oI 28 3 4,
 oB1 29 98 28,
 oN 30 .sub 27 29,
 oO 31 .leq 30 2]) (.cond (.t 31) (.region false [mV 32 8,
 oQ 33 2 4,
 oJ 34 33,
 oP 35 (.min (.t 32) (.t 34)),
 mV 8 35]) .skip)) (.seq (.region false [oQ 36 1 3,
 oJ 37 36,
 oQ 38 2 3,
 oJ 39 38,
 mV 40 8,
 oN 41 .sub 39 40,
 oA2 42 241 37 41,
 mV 9 42]) (.seq (.region false [oP 10 (.mv (.c .nil))]) (.seq (.region false [oZ 11 false]) (.seq (.seq (.region false [oQ 43 2 4,
 oJ 44 43,
 mV 45 8,
 oN 46 .geq 44 45]) (.cond (.t 46) (.region false [oQ 47 1 4,
 oJ 48 47,
 oQ 49 2 4,
 oJ 50 49,
 mV 51 8,
 oN 52 .sub 50 51,
 oA2 53 241 48 52,
 mV 10 53]) (.region false [oQ 55 1 4,
 oJ 56 55,
 mV 57 8,
 oQ 58 2 4,
 oJ 59 58,
 oN 60 .sub 57 59,
 oA2 61 256 56 60,
 mV 54 61,
 oR 62 0 54,
 oR 63 1 54,
 mV 10 62,
 mV 11 63]))) (.seq (.seq (.region false [oQ 64 0 3,
 oJ 65 64,
 oQ 66 0 4,
 oJ 67 66,
 oP 68 (.bin .bool .eql (.t 65) (.t 67))]) (.cond (.t 68) (.seq (.region false [mV 70 9,
 mV 71 10,
 oA2 72 257 70 71,
 mV 69 72,
 oR 73 0 69,
 oR 74 1 69,
 mV 12 73,
 mV 13 74]) (.seq (.region false [mV 75 12,
 mV 76 8,
 mV 77 11,
 oP 78 (.build [.nil, (.int .i64 0), (.bool false)] [(0, 1, (.t 75)), (1, 1, (.t 76)), (2, 1, (.t 77))]),
 oK 3 6 78 false,
 oZ 7 false]) .ret)) .skip)) (.seq (.seq (.region false [mV 79 11]) (.cond (.t 79) (.region false [mV 81 10,
 oP 82 (.bslice 1 1 (.int .u32 0) [(0, (.c (.int .u32 1)))]),
 oA2 83 257 81 82,
 mV 80 83,
 oR 84 0 80,
 oR 85 1 80,
 mV 10 84]) .skip)) (.seq (.seq (.region false [mV 86 9,
 mV 87 10,
 oA2 88 99 86 87,
 oO 89 .lss 88 0]) (.cond (.t 89) (.seq (.region false [mV 91 10,
 mV 92 9,
 oA2 93 258 91 92,
 mV 90 93,
 oR 94 0 90,
 oR 95 1 90,
 mV 14 94,
 mV 15 95]) (.seq (.region false [mV 96 14,
 mV 97 8,
 oP 98 (.build [.nil, (.int .i64 0), (.bool false)] [(0, 1, (.t 96)), (1, 1, (.t 97)), (2, 1, (.c (.bool false)))]),
 oK 3 6 98 false,
 oZ 7 true]) .ret)) .skip)) (.seq (.region false [mV 100 9,
 mV 101 10,
 oA2 102 258 100 101,
 mV 99 102,
 oR 103 0 99,
 oR 104 1 99,
 mV 16 103,
 mV 17 104]) (.seq (.region false [mV 105 16,
 mV 106 8,
 mV 107 11,
 oP 108 (.build [.nil, (.int .i64 0), (.bool false)] [(0, 1, (.t 105)), (1, 1, (.t 106)), (2, 1, (.t 107))]),
 oK 3 6 108 false,
 oZ 7 false]) .ret)))))))))))),
 false, false⟩
@[simp] def qkw : AFn := ⟨[(.cell 8 true 3), (.tmp 9)],
 (.seq (.region false [oU 5 3 1,
 oM 8,
 oP 9 (.mv (.c (.int .i64 0)))]) (.seq (.region false [oI 13 3 5,
 mV 14 2,
 mV 15 3,
 mV 16 0,
 oP 17 (.bin .bool .neq (.t 15) (.t 16)),
 oA3 18 254 13 14 17,
 mV 12 18,
 oR 19 0 12,
 oR 20 1 12,
 oM 10,
 oK 3 10 19 false,
 mV 11 20]) (.seq (.seq (.region false [mV 21 11,
 oO 22 .eql 21 0,
 mV 23 22,
 oF 24 23 0,
 oY 25 23 24]) (.cond (.t 25) (.region false [oI 26 3 10,
 oA1 27 198 26,
 oK 3 10 27 false]) .skip)) (.seq (.region false [oI 28 3 10,
 mV 29 11,
 oK 3 8 28 false,
 mV 9 29]) .ret)))),
 false, false⟩
@[simp] def qna : AFn := ⟨[(.tmp 4), (.tmp 5)],
 (.seq (.region false [oP 4 (.mv (.c .nil)),
 oP 5 (.mv (.c (.int .i64 0)))]) (.seq (.seq (.region false [mV 6 0,
 mV 7 1,
 oP 8 (.bslice 1 2 .nil [(0, (.t 6)), (1, (.t 7))]),
 oA1 9 114 8]) (.cond (.t 9) (.seq (.region false [oP 4 (.mv (.c .nil)),
 oP 5 (.mv (.c (.int .i64 9)))]) .ret) .skip)) (.seq (.region false [mV 10 0,
 oA1 11 111 10,
 mV 12 1,
 oA1 13 111 12,
 oA2 14 259 11 13,
 oA1 15 115 14,
 oR 16 0 15,
 oR 17 1 15,
 mV 4 16,
 mV 5 17]) .ret))),
 false, false⟩
@[simp] def qn8 : AFn := ⟨[(.tmp 2)],
 (.seq (.region false [oU 1 3 0,
 oP 2 (.mv (.c (.int .i64 0)))]) (.seq (.seq (.region false [oI 3 3 1,
 oA1 4 51 3,
 oW 5 4]) (.cond (.t 5) (.seq (.region false [oP 2 (.mv (.c (.int .i64 0)))]) .ret) .skip)) (.seq (.region false [oQ 6 1 1,
 oJ 7 6,
 oA1 8 97 7,
 mV 2 8]) .ret))),
 false, false⟩
@[simp] def qhi : AFn := ⟨[(.tmp 4), (.tmp 5), (.tmp 6)],
 (.seq (.region false [oP 4 (.mv (.c .nil)),
 oP 5 (.mv (.c .nil)),
 oP 6 (.mv (.c (.int .i64 0)))]) (.seq (.block 0 (.seq (.region false [mV 10 0,
 mV 11 1,
 oP 12 (.bslice 1 2 .nil [(0, (.t 10)), (1, (.t 11))]),
 oA1 13 114 12,
 mV 9 13]) (.cond (.t 9) (.seq (.region false [oP 4 (.mv (.c .nil)),
 oP 5 (.mv (.c .nil)),
 oP 6 (.mv (.c (.int .i64 9)))]) .ret) (.seq (.region false [mV 15 1,
 oA1 16 111 15,
 oT 17 16,
 oO 18 .eql 17 0,
 mV 14 18]) (.cond (.t 14) (.seq (.region false [oP 4 (.mv (.c .nil)),
 oP 5 (.mv (.c .nil)),
 oP 6 (.mv (.c (.int .i64 10)))]) .ret) .skip))))) (.seq (.region false [mV 20 0,
 mV 21 1,
 oA2 22 260 20 21,
 mV 19 22,
 oR 23 0 19,
 oR 24 1 19,
 mV 7 23,
 mV 8 24]) (.seq (.region false [mV 25 7,
 oA1 26 111 25,
 oA1 27 119 26,
 mV 28 8,
 oA1 29 111 28,
 oA1 30 119 29,
 mV 4 27,
 mV 5 30,
 oP 6 (.mv (.c (.int .i64 0)))]) .ret)))),
 false, false⟩
@[simp] def qqx : AFn := ⟨[(.tmp 4)],
 (.seq (.region false [oP 4 (.mv (.c .nil))]) (.seq (.region false [mV 8 0,
 mV 9 1,
 oA2 10 112 8 9,
 mV 7 10,
 oR 11 0 7,
 oR 12 1 7,
 mV 5 11,
 mV 6 12]) (.seq (.region false [mV 13 5,
 mV 4 13]) .ret))),
 false, false⟩
@[simp] def qli : AFn := ⟨[(.tmp 2)],
 (.seq (.region false [oZ 2 false]) (.seq (.region false [mV 3 0,
 oO 4 .geq 3 8,
 mV 5 4,
 oF 6 5 0,
 gT 7 5 (.bin .num .leq (.t 6) (.c (.int .i64 512))),
 oY 8 5 7,
 mV 2 8]) .ret)),
 false, false⟩
@[simp] def qsw : AFn := ⟨[(.cell 2 true 3)],
 (.seq (.region false [oU 1 3 0,
 oP 2 (.new 3 (.agg [.nil, (.int .i64 0), (.bool false)]))]) (.seq (.region false [oQ 3 1 1,
 oJ 4 3,
 oQ 5 2 1,
 oJ 6 5,
 oP 7 (.build [.nil, (.int .i64 0), (.bool false)] [(0, 1, (.t 4)), (1, 1, (.t 6))]),
 oK 3 2 7 false]) .ret)),
 false, false⟩
def qc9 : AC := (.seq (.seq (.region false [mV 6 3,
 oO 7 .gtr 6 0,
 mV 8 7,
 oF 9 8 0,
 oF 10 8 3,
 gT 11 8 (.bin .num .sub (.t 10) (.c (.int .i64 1))),
 gT 12 8 (.iaddr 1 (.t 9) (.t 11)),
 oH 13 8 false 1 12,
 gT 14 8 (.bin .num .eql (.t 13) (.c (.int .u32 0))),
 oY 15 8 14]) (.cond (.t 15) .skip (.exit 0))) (.block 1 (.region false [mV 16 3,
 oO 17 .sub 16 1,
 mV 3 17])))
@[simp] def qh4 : AFn := ⟨[(.tmp 2)],
 (.seq (.region false [oP 2 (.mv (.c .nil))]) (.seq (.region false [mV 4 0,
 oT 5 4,
 mV 3 5]) (.seq (.block 0 (.loop qc9)) (.seq (.region false [mV 18 0,
 mV 19 3,
 oP 20 (.slice 1 (.t 18) none (some (.t 19)) none),
 mV 2 20]) .ret)))),
 false, false⟩
def qj8 : AC := (.seq (.region false [oN 9 .lss 8 7]) (.seq (.cond (.t 9) .skip (.exit 0)) (.seq (.block 1 (.seq (.region false [oV 10 1 6 8,
 oJ 11 10,
 mV 5 11]) (.seq (.seq (.region false [mV 12 5,
 oP 13 (.bin .num .neq (.t 12) (.c (.int .u32 0)))]) (.cond (.t 13) (.seq (.region false [mV 14 3,
 mV 15 5,
 oA1 16 261 15,
 oN 17 .add 14 16,
 mV 2 17]) .ret) .skip)) (.region false [mV 18 3,
 oO 19 .add 18 32,
 mV 3 19])))) (.region false [oO 20 .add 8 1,
 mV 8 20]))))
@[simp] def qpa : AFn := ⟨[(.tmp 2)],
 (.seq (.region false [oP 2 (.mv (.c (.int .i64 0)))]) (.seq (.region false [oP 3 (.mv (.c (.int .i64 0)))]) (.seq (.seq (.region false [mV 6 0,
 oT 7 6,
 oP 8 (.mv (.c (.int .i64 0)))]) (.block 0 (.loop qj8))) (.seq (.region false [mV 21 3,
 mV 2 21]) .ret)))),
 false, false⟩
@[simp] def qm8 : AFn := ⟨[(.tmp 4), (.tmp 5)],
 (.seq (.region false [oP 4 (.mv (.c .nil)),
 oP 5 (.mv (.c (.int .i64 0)))]) (.seq (.block 0 (.seq (.region false [mV 7 0,
 oP 8 (.bslice 1 1 .nil [(0, (.t 7))]),
 oA1 9 114 8,
 mV 6 9]) (.cond (.t 6) (.seq (.region false [oP 4 (.mv (.c .nil)),
 oP 5 (.mv (.c (.int .i64 9)))]) .ret) (.seq (.region false [mV 11 1,
 oO 12 .lss 11 0,
 mV 13 12,
 oE 14 13 1,
 gF 15 13 (.bin .num .gtr (.t 14) (.c (.int .i64 65536))),
 oX 16 13 15,
 mV 10 16]) (.cond (.t 10) (.seq (.region false [oP 4 (.mv (.c .nil)),
 oP 5 (.mv (.c (.int .i64 2)))]) .ret) .skip))))) (.seq (.region false [mV 17 0,
 mV 18 1,
 oA2 19 262 17 18,
 oA1 20 115 19,
 oR 21 0 20,
 oR 22 1 20,
 mV 4 21,
 mV 5 22]) .ret))),
 false, false⟩
def qef : AC := (.seq (.seq (.region false [mV 6 3,
 oO 7 .gtr 6 0,
 mV 8 7,
 oF 9 8 0,
 oF 10 8 3,
 gT 11 8 (.bin .num .sub (.t 10) (.c (.int .i64 1))),
 gT 12 8 (.iaddr 1 (.t 9) (.t 11)),
 oH 13 8 false 1 12,
 gT 14 8 (.bin .num .eql (.t 13) (.c (.int .u32 0))),
 oY 15 8 14]) (.cond (.t 15) .skip (.exit 0))) (.block 1 (.region false [mV 16 3,
 oO 17 .sub 16 1,
 mV 3 17])))
@[simp] def qlp : AFn := ⟨[(.tmp 2)],
 (.seq (.region false [oP 2 (.mv (.c .nil))]) (.seq (.region false [mV 4 0,
 oT 5 4,
 mV 3 5]) (.seq (.block 0 (.loop qef)) (.seq (.region false [oP 18 (.bslice 1 0 (.int .u32 0) []),
 mV 19 0,
 mV 20 3,
 oP 21 (.slice 1 (.t 19) none (some (.t 20)) none),
 oP 22 (.append 1 4 (.t 18) (.t 21)),
 mV 2 22]) .ret)))),
 false, false⟩
@[simp] def qlo : AFn := ⟨[(.tmp 4)],
 (.seq (.region false [oZ 4 false]) (.seq (.region false [mV 5 0,
 mV 6 1,
 oA2 7 232 5 6,
 oO 8 .lss 7 0,
 mV 4 8]) .ret)),
 false, true⟩
@[simp] def qo9 : AFn := ⟨[(.tmp 4)],
 (.seq (.region false [oP 4 (.mv (.c (.int .u64 0)))]) (.seq (.seq (.region false [mV 5 1,
 mV 6 0,
 oT 7 6,
 oN 8 .lss 5 7]) (.cond (.t 8) (.seq (.region false [mV 9 0,
 mV 10 1,
 oV 11 1 9 10,
 oJ 12 11,
 oP 13 (.conv .u64 (.t 12)),
 mV 4 13]) .ret) .skip)) (.seq (.region false [oP 4 (.mv (.c (.int .u64 0)))]) .ret))),
 false, true⟩
def qhy : AC := (.seq (.seq (.region false [mV 10 6,
 mV 11 0,
 oT 12 11,
 oN 13 .lss 10 12]) (.cond (.t 13) .skip (.exit 0))) (.seq (.block 1 (.seq (.region false [mV 16 0,
 mV 17 6,
 oA2 18 249 16 17,
 mV 19 0,
 mV 20 6,
 oO 21 .add 20 1,
 oA2 22 249 19 21,
 oP 23 (.bin .num .shl (.t 22) (.c (.int .u64 32))),
 oN 24 .add 18 23,
 mV 7 24]) (.region false [mV 25 5,
 mV 26 7,
 mV 27 1,
 oO 28 .rem 27 32,
 oN 29 .shr 26 28,
 oP 30 (.bin .num .and (.t 29) (.c (.int .u64 4294967295))),
 oP 31 (.conv .u32 (.t 30)),
 oP 32 (.bslice 1 1 (.int .u32 0) [(0, (.t 31))]),
 oP 33 (.append 1 4 (.t 25) (.t 32)),
 mV 5 33]))) (.region false [mV 14 6,
 oO 15 .add 14 1,
 mV 6 15])))
@[simp] def qn1 : AFn := ⟨[(.tmp 4)],
 (.seq (.region false [oP 4 (.mv (.c .nil))]) (.seq (.region false [oP 5 (.mv (.c .nil))]) (.seq (.seq (.region false [mV 8 1,
 oO 9 .quo 8 32,
 mV 6 9]) (.block 0 (.loop qhy))) (.seq (.region false [mV 34 5,
 oA1 35 247 34,
 mV 4 35]) .ret)))),
 false, false⟩
def qe1 : AC := (.seq (.seq (.region false [mV 9 7,
 mV 10 0,
 oT 11 10,
 mV 12 1,
 oT 13 12,
 oP 14 (.max (.t 11) (.t 13)),
 oN 15 .lss 9 14,
 mV 16 15,
 oE 17 16 6,
 gF 18 16 (.bin .num .gtr (.t 17) (.c (.int .u64 0))),
 oX 19 16 18]) (.cond (.t 19) .skip (.exit 0))) (.seq (.block 1 (.seq (.region false [mV 22 0,
 mV 23 7,
 oA2 24 249 22 23,
 mV 25 1,
 mV 26 7,
 oA2 27 249 25 26,
 oN 28 .add 24 27,
 mV 29 6,
 oN 30 .add 28 29,
 mV 8 30]) (.seq (.region false [mV 31 5,
 mV 32 8,
 oP 33 (.bin .num .and (.t 32) (.c (.int .u64 4294967295))),
 oP 34 (.conv .u32 (.t 33)),
 oP 35 (.bslice 1 1 (.int .u32 0) [(0, (.t 34))]),
 oP 36 (.append 1 4 (.t 31) (.t 35)),
 mV 5 36]) (.region false [mV 37 8,
 oP 38 (.bin .num .shr (.t 37) (.c (.int .u64 32))),
 mV 6 38])))) (.region false [mV 20 7,
 oO 21 .add 20 1,
 mV 7 21])))
@[simp] def qn4 : AFn := ⟨[(.tmp 4)],
 (.seq (.region false [oP 4 (.mv (.c .nil))]) (.seq (.region false [oP 5 (.mv (.c .nil))]) (.seq (.region false [oP 6 (.mv (.c (.int .u64 0)))]) (.seq (.seq (.region false [oP 7 (.mv (.c (.int .i64 0)))]) (.block 0 (.loop qe1))) (.seq (.region false [mV 39 5,
 oA1 40 247 39,
 mV 4 40]) .ret))))),
 false, false⟩
@[simp] def qfv : AFn := ⟨[(.cell 4 true 3)],
 (.seq (.region false [oM 4]) (.seq (.region false [oP 6 (.bslice 1 1 (.int .u32 0) [(0, (.c (.int .u32 1)))]),
 mV 7 1,
 oA2 8 228 6 7,
 oP 9 (.bslice 1 1 (.int .u32 0) [(0, (.c (.int .u32 1)))]),
 oA2 10 263 8 9,
 mV 5 10]) (.seq (.region false [mV 11 0,
 mV 12 5,
 mV 13 1,
 oP 14 (.bin .num .sub (.c (.int .i64 16384)) (.t 13)),
 oA3 15 85 11 12 14,
 oK 3 4 15 false]) .ret))),
 false, false⟩
@[simp] def c_round_cut : AFn := ⟨[(.cell 6 true 3), (.tmp 7)],
 (.seq (.region false [oU 3 3 0,
 oM 6,
 oP 7 (.mv (.c (.int .i64 0)))]) (.seq (.region true [oQ 13 1 3,
 oJ 14 13,
 oQ 15 0 3,
 oJ 16 15,
 oA1 17 110 16,
 oN 18 .add 14 17,
 mV 19 1,
 oN 20 .sub 18 19,
 oP 21 (.max (.t 20) (.c (.int .i64 (-16384)))),
 mV 8 21]) (.seq (.region true [oQ 22 0 3,
 oJ 23 22,
 oQ 24 2 3,
 oJ 25 24,
 mV 9 23,
 mV 10 25]) (.seq (.seq (.region false [oQ 26 1 3,
 oJ 27 26,
 mV 28 8,
 oN 29 .geq 27 28]) (.cond (.t 29) (.region false [oQ 30 0 3,
 oJ 31 30,
 oQ 32 1 3,
 oJ 33 32,
 mV 34 8,
 oN 35 .sub 33 34,
 oA2 36 241 31 35,
 mV 9 36]) (.seq (.region false [oQ 38 0 3,
 oJ 39 38,
 mV 40 8,
 oQ 41 1 3,
 oJ 42 41,
 oN 43 .sub 40 42,
 oA2 44 256 39 43,
 mV 37 44,
 oR 45 0 37,
 oR 46 1 37,
 mV 11 45,
 mV 12 46]) (.region false [mV 47 11,
 mV 48 10,
 mV 49 48,
 oE 50 49 12,
 oX 51 49 50,
 mV 9 47,
 mV 10 51])))) (.seq (.seq (.region false [mV 52 2,
 mV 53 52,
 oF 54 53 10,
 oY 55 53 54]) (.cond (.t 55) (.region false [mV 57 9,
 oP 58 (.bslice 1 1 (.int .u32 0) [(0, (.c (.int .u32 1)))]),
 oA2 59 257 57 58,
 mV 56 59,
 oR 60 0 56,
 oR 61 1 56,
 mV 9 60]) .skip)) (.seq (.seq (.region false [mV 62 9,
 oA1 63 110 62,
 mV 64 8,
 oN 65 .add 63 64,
 oO 66 .gtr 65 16384]) (.cond (.t 66) (.seq (.seq (.region false [mV 67 2]) (.cond (.t 67) (.seq (.region false [oP 68 (.build [(.bool false), .nil, (.int .i64 0)] []),
 oK 3 6 68 false,
 oP 7 (.mv (.c (.int .i64 9)))]) .ret) .skip)) (.seq (.region false [oP 70 (.bslice 1 1 (.int .u32 0) [(0, (.c (.int .u32 1)))]),
 mV 71 1,
 oA2 72 241 70 71,
 oP 73 (.bslice 1 1 (.int .u32 0) [(0, (.c (.int .u32 1)))]),
 oA2 74 258 72 73,
 mV 69 74,
 oR 75 0 69,
 oR 76 1 69,
 mV 9 75]) (.region false [mV 77 1,
 oP 78 (.bin .num .sub (.c (.int .i64 16384)) (.t 77)),
 mV 8 78]))) .skip)) (.seq (.region false [mV 79 9,
 mV 80 8,
 oP 81 (.call (.f 265) [(.c (.bool false)), (.t 79), (.t 80)]),
 oR 82 0 81,
 oR 83 1 81,
 oK 3 6 82 false,
 mV 7 83]) .ret))))))),
 false, false⟩
@[simp] def qi4 : AFn := ⟨[(.tmp 2)],
 (.seq (.region false [oZ 2 false]) (.seq (.region false [mV 3 0,
 oO 4 .geq 3 8,
 mV 5 4,
 oF 6 5 0,
 gT 7 5 (.bin .num .leq (.t 6) (.c (.int .i64 512))),
 oY 8 5 7,
 mV 2 8]) .ret)),
 false, false⟩
@[simp] def qqw : AFn := ⟨[(.tmp 4), (.tmp 5)],
 (.seq (.region false [oP 4 (.mv (.c .nil)),
 oZ 5 false]) (.seq (.seq (.region false [mV 8 1,
 mV 9 0,
 oA1 10 110 9,
 oN 11 .gtr 8 10]) (.cond (.t 11) (.region false [mV 12 0,
 oA1 13 110 12,
 mV 1 13]) .skip)) (.seq (.region false [mV 15 0,
 mV 16 1,
 oA2 17 246 15 16,
 mV 14 17,
 oR 18 0 14,
 oR 19 1 14,
 mV 6 18,
 mV 7 19]) (.seq (.region false [mV 20 6,
 mV 21 6,
 mV 22 1,
 oA2 23 241 21 22,
 mV 24 0,
 oA2 25 99 23 24,
 oO 26 .neq 25 0,
 mV 4 20,
 mV 5 26]) .ret)))),
 false, false⟩
@[simp] def qnb : AFn := ⟨[(.tmp 4), (.tmp 5)],
 (.seq (.region false [oP 4 (.mv (.c .nil)),
 oP 5 (.mv (.c (.int .i64 0)))]) (.seq (.seq (.region false [mV 6 0,
 mV 7 1,
 oP 8 (.bslice 1 2 .nil [(0, (.t 6)), (1, (.t 7))]),
 oA1 9 114 8]) (.cond (.t 9) (.seq (.region false [oP 4 (.mv (.c .nil)),
 oP 5 (.mv (.c (.int .i64 9)))]) .ret) .skip)) (.seq (.region false [mV 10 0,
 mV 11 1,
 oA2 12 264 10 11,
 oA1 13 115 12,
 oR 14 0 13,
 oR 15 1 13,
 mV 4 14,
 mV 5 15]) .ret))),
 false, false⟩
@[simp] def qm7 : AFn := ⟨[(.tmp 4), (.tmp 5)],
 (.seq (.region false [oP 4 (.mv (.c .nil)),
 oP 5 (.mv (.c (.int .i64 0)))]) (.seq (.block 0 (.seq (.region false [mV 7 0,
 mV 8 1,
 oP 9 (.bslice 1 2 .nil [(0, (.t 7)), (1, (.t 8))]),
 oA1 10 114 9,
 mV 6 10]) (.cond (.t 6) (.seq (.region false [oP 4 (.mv (.c .nil)),
 oP 5 (.mv (.c (.int .i64 9)))]) .ret) (.seq (.region false [mV 12 0,
 mV 13 1,
 oA2 14 99 12 13,
 oO 15 .lss 14 0,
 mV 11 15]) (.cond (.t 11) (.seq (.region false [oP 4 (.mv (.c .nil)),
 oP 5 (.mv (.c (.int .i64 2)))]) .ret) .skip))))) (.seq (.region false [mV 16 0,
 mV 17 1,
 oA2 18 266 16 17,
 oA1 19 115 18,
 oR 20 0 19,
 oR 21 1 19,
 mV 4 20,
 mV 5 21]) .ret))),
 false, false⟩
def qez : AC := (.seq (.region false [oN 28 .lss 27 26]) (.seq (.cond (.t 28) .skip (.exit 2)) (.seq (.block 3 (.seq (.region false [mV 29 27,
 oV 30 1 25 27,
 oJ 31 30,
 mV 9 29,
 mV 10 31]) (.seq (.region false [mV 32 7,
 oP 33 (.conv .u64 (.t 32)),
 mV 34 10,
 oP 35 (.conv .u64 (.t 34)),
 oN 36 .mul 33 35,
 mV 37 5,
 mV 38 6,
 mV 39 9,
 oN 40 .add 38 39,
 oV 41 1 37 40,
 oJ 42 41,
 oP 43 (.conv .u64 (.t 42)),
 oN 44 .add 36 43,
 mV 45 8,
 oN 46 .add 44 45,
 mV 11 46]) (.region false [mV 47 5,
 mV 48 6,
 mV 49 9,
 oN 50 .add 48 49,
 mV 51 11,
 oP 52 (.conv .u32 (.t 51)),
 mV 53 11,
 oP 54 (.bin .num .shr (.t 53) (.c (.int .u64 32))),
 oV 55 1 47 50,
 oK 1 55 52 false,
 mV 8 54])))) (.region false [oO 56 .add 27 1,
 mV 27 56]))))
def qhf : AC := (.seq (.region false [oN 21 .lss 20 19]) (.seq (.cond (.t 21) .skip (.exit 0)) (.seq (.block 1 (.seq (.region false [mV 22 20,
 oV 23 1 18 20,
 oJ 24 23,
 mV 6 22,
 mV 7 24]) (.seq (.region false [oP 8 (.mv (.c (.int .u64 0)))]) (.seq (.seq (.region false [mV 25 1,
 oT 26 25,
 oP 27 (.mv (.c (.int .i64 0)))]) (.block 2 (.loop qez))) (.region false [mV 57 5,
 mV 58 6,
 mV 59 1,
 oT 60 59,
 oN 61 .add 58 60,
 mV 62 8,
 oP 63 (.conv .u32 (.t 62)),
 oV 64 1 57 61,
 oK 1 64 63 false]))))) (.region false [oO 65 .add 20 1,
 mV 20 65]))))
@[simp] def qm5 : AFn := ⟨[(.tmp 4)],
 (.seq (.region false [oP 4 (.mv (.c .nil))]) (.seq (.region false [mV 12 0,
 oT 13 12,
 mV 14 1,
 oT 15 14,
 oN 16 .add 13 15,
 oP 17 (.mkslice 1 4 (.int .u32 0) (.t 16) (.t 16)),
 mV 5 17]) (.seq (.seq (.region false [mV 18 0,
 oT 19 18,
 oP 20 (.mv (.c (.int .i64 0)))]) (.block 0 (.loop qhf))) (.seq (.region false [mV 66 5,
 mV 4 66]) .ret)))),
 false, false⟩
def qja : AC := (.seq (.seq (.region false [mV 56 9,
 oT 57 56,
 mV 58 0,
 oT 59 58,
 oN 60 .leq 57 59]) (.cond (.t 60) .skip (.exit 0))) (.block 1 (.region false [mV 61 9,
 oP 62 (.bslice 1 1 (.int .u32 0) [(0, (.c (.int .u32 0)))]),
 oP 63 (.append 1 4 (.t 61) (.t 62)),
 mV 9 63])))
def qc4 : AC := (.seq (.region false [oN 126 .lss 125 124]) (.seq (.cond (.t 126) .skip (.exit 4)) (.seq (.block 5 (.seq (.region false [mV 127 125,
 oV 128 1 123 125,
 oJ 129 128,
 mV 16 127,
 mV 17 129]) (.region false [mV 131 9,
 mV 132 13,
 mV 133 16,
 oN 134 .add 132 133,
 mV 135 9,
 mV 136 13,
 mV 137 16,
 oN 138 .add 136 137,
 oV 139 1 135 138,
 oJ 140 139,
 mV 141 17,
 mV 142 15,
 oA3 143 271 140 141 142,
 mV 130 143,
 oR 144 0 130,
 oR 145 1 130,
 oV 146 1 131 134,
 oK 1 146 144 false,
 mV 15 145]))) (.region false [oO 147 .add 125 1,
 mV 125 147]))))
def qc3 : AC := (.seq (.seq (.region false [mV 76 13,
 oO 77 .geq 76 0]) (.cond (.t 77) .skip (.exit 2))) (.seq (.block 3 (.seq (.region true [mV 80 9,
 mV 81 13,
 mV 82 11,
 oN 83 .add 81 82,
 oV 84 1 80 83,
 oJ 85 84,
 mV 86 9,
 mV 87 13,
 mV 88 11,
 oN 89 .add 87 88,
 oO 90 .sub 89 1,
 oV 91 1 86 90,
 oJ 92 91,
 mV 93 9,
 mV 94 13,
 mV 95 11,
 oN 96 .add 94 95,
 oO 97 .sub 96 2,
 oV 98 1 93 97,
 oJ 99 98,
 mV 100 10,
 mV 101 11,
 oO 102 .sub 101 1,
 oV 103 1 100 102,
 oJ 104 103,
 mV 105 10,
 mV 106 11,
 oO 107 .sub 106 2,
 oV 108 1 105 107,
 oJ 109 108,
 oB5 110 269 85 92 99 104 109,
 mV 14 110]) (.seq (.seq (.region false [mV 111 9,
 mV 112 13,
 mV 113 13,
 mV 114 11,
 oN 115 .add 113 114,
 oO 116 .add 115 1,
 oP 117 (.slice 1 (.t 111) (some (.t 112)) (some (.t 116)) none),
 mV 118 10,
 mV 119 14,
 oA3 120 270 117 118 119]) (.cond (.t 120) (.seq (.region false [mV 121 14,
 oP 122 (.bin .num .sub (.t 121) (.c (.int .u64 1))),
 mV 14 122]) (.seq (.region false [oP 15 (.mv (.c (.int .u32 0)))]) (.seq (.seq (.region false [mV 123 10,
 oT 124 123,
 oP 125 (.mv (.c (.int .i64 0)))]) (.block 4 (.loop qc4))) (.region false [mV 148 9,
 mV 149 13,
 mV 150 11,
 oN 151 .add 149 150,
 oV 152 1 148 151,
 oJ 153 152,
 mV 154 15,
 oN 155 .add 153 154,
 oV 156 1 148 151,
 oK 1 156 155 false])))) .skip)) (.region false [mV 157 12,
 mV 158 13,
 mV 159 14,
 oP 160 (.conv .u32 (.t 159)),
 oV 161 1 157 158,
 oK 1 161 160 false])))) (.region false [mV 78 13,
 oO 79 .sub 78 1,
 mV 13 79])))
@[simp] def qhh : AFn := ⟨[(.tmp 4), (.tmp 5)],
 (.seq (.region false [oP 4 (.mv (.c .nil)),
 oP 5 (.mv (.c .nil))]) (.seq (.region false [mV 18 0,
 oA1 19 111 18,
 mV 20 1,
 oA1 21 111 20,
 mV 0 19,
 mV 1 21]) (.seq (.seq (.region false [mV 22 0,
 mV 23 1,
 oA2 24 99 22 23,
 oO 25 .lss 24 0]) (.cond (.t 25) (.seq (.region false [mV 26 0,
 oA1 27 221 26,
 oP 4 (.mv (.c .nil)),
 mV 5 27]) .ret) .skip)) (.seq (.seq (.region false [mV 28 1,
 oT 29 28,
 oO 30 .eql 29 1]) (.cond (.t 30) (.seq (.region false [mV 32 0,
 mV 33 1,
 oP 34 (.iaddr 1 (.t 33) (.c (.int .i64 0))),
 oJ 35 34,
 oA2 36 267 32 35,
 mV 31 36,
 oR 37 0 31,
 oR 38 1 31,
 mV 6 37,
 mV 7 38]) (.seq (.region false [mV 39 6,
 mV 40 7,
 oP 41 (.bslice 1 1 (.int .u32 0) [(0, (.t 40))]),
 mV 4 39,
 mV 5 41]) .ret)) .skip)) (.seq (.region false [mV 42 1,
 mV 43 1,
 oT 44 43,
 oO 45 .sub 44 1,
 oV 46 1 42 45,
 oJ 47 46,
 oA1 48 268 47,
 mV 8 48]) (.seq (.region false [mV 49 0,
 mV 50 8,
 oA2 51 116 49 50,
 mV 52 1,
 mV 53 8,
 oA2 54 116 52 53,
 oA1 55 111 54,
 mV 9 51,
 mV 10 55]) (.seq (.block 0 (.loop qja)) (.seq (.region false [mV 64 10,
 oT 65 64,
 mV 11 65]) (.seq (.region false [mV 66 9,
 oT 67 66,
 mV 68 11,
 oN 69 .sub 67 68,
 oP 70 (.mkslice 1 4 (.int .u32 0) (.t 69) (.t 69)),
 mV 12 70]) (.seq (.seq (.region false [mV 71 9,
 oT 72 71,
 mV 73 11,
 oN 74 .sub 72 73,
 oO 75 .sub 74 1,
 mV 13 75]) (.block 2 (.loop qc3))) (.seq (.region false [mV 162 12,
 mV 163 9,
 mV 164 11,
 oP 165 (.slice 1 (.t 163) none (some (.t 164)) none),
 mV 166 8,
 oA2 167 262 165 166,
 mV 4 162,
 mV 5 167]) .ret))))))))))),
 false, false⟩
@[simp] def qb5 : AFn := ⟨[(.tmp 2)],
 (.seq (.region false [oP 2 (.mv (.c (.int .i64 0)))]) (.seq (.seq (.region false [mV 3 0,
 oP 4 (.bin .num .eql (.t 3) (.c (.int .u32 0)))]) (.cond (.t 4) (.seq (.region false [oP 2 (.mv (.c (.int .i64 32)))]) .ret) .skip)) (.seq (.region false [mV 5 0,
 mV 6 0,
 oP 7 (.un .neg (.t 6)),
 oN 8 .and 5 7,
 oP 9 (.bin .num .mul (.t 8) (.c (.int .u32 125613361))),
 oP 10 (.bin .num .shr (.t 9) (.c (.int .u64 27))),
 oP 11 (.aiaddr 32 1 (.c (.eptr [(.int .u8 0), (.int .u8 1), (.int .u8 28), (.int .u8 2), (.int .u8 29), (.int .u8 14), (.int .u8 24), (.int .u8 3), (.int .u8 30), (.int .u8 22), (.int .u8 20), (.int .u8 15), (.int .u8 25), (.int .u8 17), (.int .u8 4), (.int .u8 8), (.int .u8 31), (.int .u8 27), (.int .u8 13), (.int .u8 23), (.int .u8 21), (.int .u8 19), (.int .u8 16), (.int .u8 7), (.int .u8 26), (.int .u8 12), (.int .u8 18), (.int .u8 6), (.int .u8 11), (.int .u8 5), (.int .u8 10), (.int .u8 9)])) (.t 10)),
 oJ 12 11,
 oP 13 (.conv .i64 (.t 12)),
 mV 2 13]) .ret))),
 false, false⟩
def qey : AC := (.seq (.region false [oN 26 .lss 25 24]) (.seq (.cond (.t 26) .skip (.exit 0)) (.seq (.block 1 (.seq (.region false [mV 27 25,
 oV 28 1 23 25,
 oJ 29 28,
 mV 6 27,
 mV 7 29]) (.seq (.region false [mV 30 7,
 oP 31 (.conv .u64 (.t 30)),
 mV 8 31]) (.seq (.seq (.region false [mV 32 6,
 oO 33 .add 32 1,
 mV 34 0,
 oT 35 34,
 oN 36 .lss 33 35]) (.cond (.t 36) (.region false [mV 37 8,
 mV 38 0,
 mV 39 6,
 oO 40 .add 39 1,
 oV 41 1 38 40,
 oJ 42 41,
 oP 43 (.conv .u64 (.t 42)),
 oP 44 (.bin .num .shl (.t 43) (.c (.int .u64 32))),
 oN 45 .or 37 44,
 mV 8 45]) .skip)) (.region false [mV 46 5,
 mV 47 6,
 mV 48 8,
 mV 49 1,
 oO 50 .rem 49 32,
 oN 51 .shr 48 50,
 oP 52 (.conv .u32 (.t 51)),
 oV 53 1 46 47,
 oK 1 53 52 false]))))) (.region false [oO 54 .add 25 1,
 mV 25 54]))))
@[simp] def qm4 : AFn := ⟨[(.tmp 4)],
 (.seq (.region false [oP 4 (.mv (.c .nil))]) (.seq (.region false [mV 9 0,
 oA1 10 111 9,
 mV 0 10]) (.seq (.seq (.region false [mV 11 1,
 oO 12 .quo 11 32,
 mV 13 0,
 oT 14 13,
 oN 15 .geq 12 14]) (.cond (.t 15) (.seq (.region false [oP 4 (.mv (.c .nil))]) .ret) .skip)) (.seq (.region false [mV 16 0,
 mV 17 1,
 oO 18 .quo 17 32,
 oP 19 (.slice 1 (.t 16) (some (.t 18)) none none),
 mV 0 19]) (.seq (.region false [mV 20 0,
 oT 21 20,
 oP 22 (.mkslice 1 4 (.int .u32 0) (.t 21) (.t 21)),
 mV 5 22]) (.seq (.seq (.region false [mV 23 0,
 oT 24 23,
 oP 25 (.mv (.c (.int .i64 0)))]) (.block 0 (.loop qey))) (.seq (.region false [mV 55 5,
 mV 4 55]) .ret))))))),
 false, false⟩
def qhx : AC := (.seq (.seq (.region false [mV 9 7,
 mV 10 0,
 oT 11 10,
 oN 12 .lss 9 11]) (.cond (.t 12) .skip (.exit 0))) (.seq (.block 1 (.seq (.region false [mV 15 0,
 mV 16 7,
 oA2 17 249 15 16,
 oP 18 (.bin .num .add (.t 17) (.c (.int .u64 4294967296))),
 mV 19 1,
 mV 20 7,
 oA2 21 249 19 20,
 oN 22 .sub 18 21,
 mV 23 6,
 oN 24 .sub 22 23,
 mV 8 24]) (.seq (.region false [mV 25 5,
 mV 26 8,
 oP 27 (.bin .num .and (.t 26) (.c (.int .u64 4294967295))),
 oP 28 (.conv .u32 (.t 27)),
 oP 29 (.bslice 1 1 (.int .u32 0) [(0, (.t 28))]),
 oP 30 (.append 1 4 (.t 25) (.t 29)),
 mV 5 30]) (.region false [mV 31 8,
 oP 32 (.bin .num .shr (.t 31) (.c (.int .u64 32))),
 oP 33 (.bin .num .sub (.c (.int .u64 1)) (.t 32)),
 mV 6 33])))) (.region false [mV 13 7,
 oO 14 .add 13 1,
 mV 7 14])))
@[simp] def qn0 : AFn := ⟨[(.tmp 4)],
 (.seq (.region false [oP 4 (.mv (.c .nil))]) (.seq (.region false [oP 5 (.mv (.c .nil))]) (.seq (.region false [oP 6 (.mv (.c (.int .u64 0)))]) (.seq (.seq (.region false [oP 7 (.mv (.c (.int .i64 0)))]) (.block 0 (.loop qhx))) (.seq (.region false [mV 34 5,
 oA1 35 247 34,
 mV 4 35]) .ret))))),
 false, false⟩
def qdc : AC := (.seq (.region false [oN 24 .lss 23 22]) (.seq (.cond (.t 24) .skip (.exit 0)) (.seq (.block 1 (.seq (.region false [mV 25 23,
 oV 26 1 21 23,
 oJ 27 26,
 mV 7 25,
 mV 8 27]) (.seq (.region false [oP 9 (.mv (.c (.int .u32 0)))]) (.seq (.seq (.region false [mV 28 7,
 mV 29 1,
 oT 30 29,
 oN 31 .lss 28 30]) (.cond (.t 31) (.region false [mV 32 1,
 mV 33 7,
 oV 34 1 32 33,
 oJ 35 34,
 mV 9 35]) .skip)) (.region false [mV 37 5,
 mV 38 7,
 mV 39 8,
 mV 40 9,
 mV 41 6,
 oA3 42 271 39 40 41,
 mV 36 42,
 oR 43 0 36,
 oR 44 1 36,
 oV 45 1 37 38,
 oK 1 45 43 false,
 mV 6 44]))))) (.region false [oO 46 .add 23 1,
 mV 23 46]))))
@[simp] def qm6 : AFn := ⟨[(.tmp 4)],
 (.seq (.region false [oP 4 (.mv (.c .nil))]) (.seq (.seq (.region false [mV 10 0,
 oT 11 10,
 mV 12 1,
 oT 13 12,
 oN 14 .lss 11 13]) (.cond (.t 14) (.region false [mV 15 1,
 mV 16 0,
 mV 0 15,
 mV 1 16]) .skip)) (.seq (.region false [mV 17 0,
 oT 18 17,
 oO 19 .add 18 1,
 oP 20 (.mkslice 1 4 (.int .u32 0) (.t 19) (.t 19)),
 mV 5 20]) (.seq (.region false [oP 6 (.mv (.c (.int .u32 0)))]) (.seq (.seq (.region false [mV 21 0,
 oT 22 21,
 oP 23 (.mv (.c (.int .i64 0)))]) (.block 0 (.loop qdc))) (.seq (.region false [mV 47 5,
 mV 48 0,
 oT 49 48,
 mV 50 6,
 oV 51 1 47 49,
 oK 1 51 50 false]) (.seq (.region false [mV 52 5,
 mV 4 52]) .ret))))))),
 false, false⟩
@[simp] def qn7 : AFn := ⟨[(.cell 6 true 3), (.tmp 7)],
 (.seq (.region false [oM 6,
 oP 7 (.mv (.c (.int .i64 0)))]) (.seq (.seq (.region false [mV 8 1,
 oT 9 8,
 oO 10 .gtr 9 256,
 mV 11 10,
 oE 12 11 2,
 oC1 13 11 223 12,
 gF 14 11 (.un .not (.t 13)),
 oX 15 11 14]) (.cond (.t 15) (.seq (.region false [oP 16 (.build [(.bool false), .nil, (.int .i64 0)] []),
 oK 3 6 16 false,
 oP 7 (.mv (.c (.int .i64 1)))]) .ret) .skip)) (.seq (.region false [mV 17 0,
 mV 18 1,
 mV 19 2,
 oA3 20 225 17 18 19,
 oA1 21 224 20,
 oR 22 0 21,
 oR 23 1 21,
 oK 3 6 22 false,
 mV 7 23]) .ret))),
 false, false⟩
def qex : AC := (.seq (.region false [oN 20 .lss 19 18]) (.seq (.cond (.t 20) .skip (.exit 0)) (.seq (.block 1 (.seq (.region false [mV 21 19,
 oV 22 1 17 19,
 oJ 23 22,
 mV 7 21,
 mV 8 23]) (.seq (.region false [oP 9 (.mv (.c (.int .u32 0)))]) (.seq (.seq (.region false [mV 24 7,
 mV 25 1,
 oT 26 25,
 oN 27 .lss 24 26]) (.cond (.t 27) (.region false [mV 28 1,
 mV 29 7,
 oV 30 1 28 29,
 oJ 31 30,
 mV 9 31]) .skip)) (.region false [mV 33 5,
 mV 34 7,
 mV 35 8,
 mV 36 9,
 mV 37 6,
 oA3 38 272 35 36 37,
 mV 32 38,
 oR 39 0 32,
 oR 40 1 32,
 oV 41 1 33 34,
 oK 1 41 39 false,
 mV 6 40]))))) (.region false [oO 42 .add 19 1,
 mV 19 42]))))
@[simp] def qm3 : AFn := ⟨[(.tmp 4)],
 (.seq (.region false [oP 4 (.mv (.c .nil))]) (.seq (.region false [mV 10 0,
 oA1 11 111 10,
 mV 12 1,
 oA1 13 111 12,
 mV 0 11,
 mV 1 13]) (.seq (.region false [mV 14 0,
 oT 15 14,
 oP 16 (.mkslice 1 4 (.int .u32 0) (.t 15) (.t 15)),
 mV 5 16]) (.seq (.region false [oP 6 (.mv (.c (.int .u32 0)))]) (.seq (.seq (.region false [mV 17 0,
 oT 18 17,
 oP 19 (.mv (.c (.int .i64 0)))]) (.block 0 (.loop qex))) (.seq (.region false [mV 43 5,
 mV 4 43]) .ret)))))),
 false, false⟩
def qft : AC := (.seq (.seq (.region false [mV 15 8,
 oO 16 .geq 15 0]) (.cond (.t 16) .skip (.exit 0))) (.seq (.block 1 (.region false [mV 20 6,
 mV 21 8,
 mV 22 7,
 mV 23 0,
 mV 24 8,
 oV 25 1 23 24,
 oJ 26 25,
 mV 27 1,
 oA3 28 273 22 26 27,
 mV 19 28,
 oR 29 0 19,
 oR 30 1 19,
 oV 31 1 20 21,
 oK 1 31 29 false,
 mV 7 30])) (.region false [mV 17 8,
 oO 18 .sub 17 1,
 mV 8 18])))
@[simp] def qi8 : AFn := ⟨[(.tmp 4), (.tmp 5)],
 (.seq (.region false [oP 4 (.mv (.c .nil)),
 oP 5 (.mv (.c (.int .u32 0)))]) (.seq (.region false [mV 9 0,
 oT 10 9,
 oP 11 (.mkslice 1 4 (.int .u32 0) (.t 10) (.t 10)),
 mV 6 11]) (.seq (.region false [oP 7 (.mv (.c (.int .u32 0)))]) (.seq (.seq (.region false [mV 12 0,
 oT 13 12,
 oO 14 .sub 13 1,
 mV 8 14]) (.block 0 (.loop qft))) (.seq (.region false [mV 32 6,
 mV 33 7,
 mV 4 32,
 mV 5 33]) .ret))))),
 false, false⟩
@[simp] def qca : AFn := ⟨[(.tmp 2)],
 (.seq (.region false [oP 2 (.mv (.c (.int .i64 0)))]) (.seq (.region false [mV 3 0,
 oA1 4 113 3,
 oP 5 (.bin .num .sub (.c (.int .i64 32)) (.t 4)),
 mV 2 5]) .ret)),
 false, false⟩
@[simp] def qi9 : AFn := ⟨[(.tmp 10)],
 (.seq (.region false [oP 10 (.mv (.c (.int .u64 0)))]) (.seq (.seq (.region false [mV 12 0,
 mV 13 3,
 oN 14 .geq 12 13]) (.cond (.t 14) (.seq (.region false [mV 15 0,
 mV 16 3,
 oN 17 .sub 15 16,
 oP 18 (.conv .u64 (.t 17)),
 oP 19 (.bin .num .shl (.t 18) (.c (.int .u64 32))),
 mV 20 1,
 oP 21 (.conv .u64 (.t 20)),
 oN 22 .add 19 21,
 mV 23 3,
 oP 24 (.conv .u64 (.t 23)),
 oN 25 .add 22 24,
 mV 26 2,
 mV 27 3,
 mV 28 4,
 oP 29 (.call (.f 274) [(.c (.int .u64 4294967295)), (.t 25), (.t 26), (.t 27), (.t 28)]),
 mV 10 29]) .ret) .skip)) (.seq (.region false [mV 30 0,
 oP 31 (.conv .u64 (.t 30)),
 oP 32 (.bin .num .shl (.t 31) (.c (.int .u64 32))),
 mV 33 1,
 oP 34 (.conv .u64 (.t 33)),
 oN 35 .or 32 34,
 mV 11 35]) (.seq (.region true [mV 36 11,
 mV 37 3,
 oP 38 (.conv .u64 (.t 37)),
 oN 39 .quo 36 38,
 mV 40 11,
 mV 41 3,
 oP 42 (.conv .u64 (.t 41)),
 oN 43 .rem 40 42,
 mV 44 2,
 mV 45 3,
 mV 46 4,
 oB5 47 274 39 43 44 45 46,
 mV 10 47]) .ret)))),
 false, false⟩
def qec : AC := (.seq (.region false [oN 17 .lss 16 15]) (.seq (.cond (.t 17) .skip (.exit 0)) (.seq (.block 1 (.seq (.region false [mV 18 16,
 oV 19 1 14 16,
 oJ 20 19,
 mV 9 18,
 mV 10 20]) (.seq (.region false [mV 21 2,
 mV 22 10,
 oP 23 (.conv .u64 (.t 22)),
 oN 24 .mul 21 23,
 mV 25 7,
 oN 26 .add 24 25,
 mV 11 26]) (.seq (.region false [mV 27 11,
 oP 28 (.bin .num .shr (.t 27) (.c (.int .u64 32))),
 mV 7 28]) (.seq (.region false [mV 29 0,
 mV 30 9,
 oV 31 1 29 30,
 oJ 32 31,
 oP 33 (.conv .u64 (.t 32)),
 mV 34 11,
 oP 35 (.bin .num .and (.t 34) (.c (.int .u64 4294967295))),
 oN 36 .sub 33 35,
 mV 37 8,
 oN 38 .sub 36 37,
 mV 12 38]) (.region false [mV 39 0,
 mV 40 9,
 mV 41 12,
 oP 42 (.conv .u32 (.t 41)),
 mV 43 12,
 oP 44 (.bin .num .shr (.t 43) (.c (.int .u64 63))),
 oV 45 1 39 40,
 oK 1 45 42 false,
 mV 8 44])))))) (.region false [oO 46 .add 16 1,
 mV 16 46]))))
@[simp] def qgz : AFn := ⟨[(.tmp 6)],
 (.seq (.region false [oZ 6 false]) (.seq (.region false [oP 7 (.mv (.c (.int .u64 0))),
 oP 8 (.mv (.c (.int .u64 0)))]) (.seq (.seq (.region false [mV 14 1,
 oT 15 14,
 oP 16 (.mv (.c (.int .i64 0)))]) (.block 0 (.loop qec))) (.seq (.region false [mV 47 0,
 mV 48 1,
 oT 49 48,
 oV 50 1 47 49,
 oJ 51 50,
 oP 52 (.conv .u64 (.t 51)),
 mV 53 7,
 oN 54 .sub 52 53,
 mV 55 8,
 oN 56 .sub 54 55,
 mV 13 56]) (.seq (.region false [mV 57 0,
 mV 58 1,
 oT 59 58,
 mV 60 13,
 oP 61 (.conv .u32 (.t 60)),
 oV 62 1 57 59,
 oK 1 62 61 false]) (.seq (.region false [mV 63 13,
 oP 64 (.bin .num .shr (.t 63) (.c (.int .u64 63))),
 oP 65 (.bin .num .eql (.t 64) (.c (.int .u64 1))),
 mV 6 65]) .ret)))))),
 false, true⟩
@[simp] def qge : AFn := ⟨[(.tmp 6), (.tmp 7)],
 (.seq (.region false [oP 6 (.mv (.c (.int .u32 0))),
 oP 7 (.mv (.c (.int .u32 0)))]) (.seq (.region false [mV 9 0,
 oP 10 (.conv .u64 (.t 9)),
 mV 11 1,
 oP 12 (.conv .u64 (.t 11)),
 oN 13 .add 10 12,
 mV 14 2,
 oP 15 (.conv .u64 (.t 14)),
 oN 16 .add 13 15,
 mV 8 16]) (.seq (.region false [mV 17 8,
 oP 18 (.conv .u32 (.t 17)),
 mV 6 18]) (.seq (.region false [mV 19 8,
 oP 20 (.bin .num .shr (.t 19) (.c (.int .u64 32))),
 oP 21 (.conv .u32 (.t 20)),
 mV 7 21]) .ret)))),
 false, false⟩
@[simp] def qgc : AFn := ⟨[(.tmp 6), (.tmp 7)],
 (.seq (.region false [oP 6 (.mv (.c (.int .u32 0))),
 oP 7 (.mv (.c (.int .u32 0)))]) (.seq (.region false [mV 8 0,
 mV 9 1,
 oN 10 .sub 8 9,
 mV 11 2,
 oN 12 .sub 10 11,
 mV 6 12]) (.seq (.region false [mV 13 0,
 oP 14 (.un .xor (.t 13)),
 mV 15 1,
 oN 16 .and 14 15,
 mV 17 0,
 mV 18 1,
 oN 19 .xor 17 18,
 oP 20 (.un .xor (.t 19)),
 mV 21 6,
 oN 22 .and 20 21,
 oN 23 .or 16 22,
 oP 24 (.bin .num .shr (.t 23) (.c (.int .u64 31))),
 mV 7 24]) .ret))),
 false, false⟩
@[simp] def qgd : AFn := ⟨[(.tmp 6), (.tmp 7)],
 (.seq (.region false [oP 6 (.mv (.c (.int .u32 0))),
 oP 7 (.mv (.c (.int .u32 0)))]) (.seq (.seq (.region false [mV 9 2,
 oP 10 (.bin .num .neq (.t 9) (.c (.int .u32 0))),
 mV 11 10,
 oF 12 11 2,
 oF 13 11 0,
 gT 14 11 (.bin .num .leq (.t 12) (.t 13)),
 oY 15 11 14]) (.cond (.t 15) .stop .skip)) (.seq (.region false [mV 17 0,
 oP 18 (.conv .u64 (.t 17)),
 oP 19 (.bin .num .shl (.t 18) (.c (.int .u64 32))),
 mV 20 1,
 oP 21 (.conv .u64 (.t 20)),
 oN 22 .or 19 21,
 mV 8 22]) (.seq (.region true [mV 23 8,
 mV 24 2,
 oP 25 (.conv .u64 (.t 24)),
 oN 26 .quo 23 25,
 oP 27 (.conv .u32 (.t 26)),
 mV 28 8,
 mV 29 2,
 oP 30 (.conv .u64 (.t 29)),
 oN 31 .rem 28 30,
 oP 32 (.conv .u32 (.t 31)),
 mV 6 27,
 mV 7 32]) .ret)))),
 false, false⟩
def qdm : AC := (.seq (.seq (.region false [mV 11 1,
 oP 12 (.bin .num .lss (.t 11) (.c (.int .u64 4294967296))),
 mV 13 12,
 oF 14 13 0,
 oF 15 13 4,
 gT 16 13 (.conv .u64 (.t 15)),
 gT 17 13 (.bin .num .mul (.t 14) (.t 16)),
 oF 18 13 1,
 gT 19 13 (.bin .num .shl (.t 18) (.c (.int .u64 32))),
 oF 20 13 2,
 gT 21 13 (.conv .u64 (.t 20)),
 gT 22 13 (.bin .num .or (.t 19) (.t 21)),
 gT 23 13 (.bin .num .gtr (.t 17) (.t 22)),
 oY 24 13 23]) (.cond (.t 24) .skip (.exit 0))) (.block 1 (.seq (.region false [mV 25 0,
 oP 26 (.bin .num .sub (.t 25) (.c (.int .u64 1))),
 mV 0 26]) (.region false [mV 27 1,
 mV 28 3,
 oP 29 (.conv .u64 (.t 28)),
 oN 30 .add 27 29,
 mV 1 30]))))
@[simp] def qjb : AFn := ⟨[(.tmp 10)],
 (.seq (.region false [oP 10 (.mv (.c (.int .u64 0)))]) (.seq (.block 0 (.loop qdm)) (.seq (.region false [mV 31 0,
 mV 10 31]) .ret))),
 false, false⟩
end Go.Abs
namespace Go.Abs
end Go.Abs
namespace Go.Abs
end Go.Abs
namespace Go.Abs
def qch : AC := (.seq (.region false [oN 33 .lss 32 31]) (.seq (.cond (.t 33) .skip (.exit 0)) (.seq (.block 1 (.seq (.region false [oV 34 3 30 32,
 oI 35 3 34,
 oM 7,
 oK 3 7 35 false]) (.seq (.region true [oI 36 7 5,
 oI 37 3 7,
 oA1 38 414 37,
 oB2 39 413 36 38,
 oW 40 39]) (.cond (.t 40) (.seq (.region false [oZ 4 false]) .ret) .skip)))) (.region false [oO 41 .add 32 1,
 mV 32 41]))))
@[simp] def qdj : AFn := ⟨[(.tmp 4)],
 (.seq (.region false [oU 2 7 0,
 oZ 4 false]) (.seq (.seq (.region false [oA0 8 408,
 oW 9 8]) (.cond (.t 9) (.seq (.region false [oZ 4 false]) .ret) .skip)) (.seq (.seq (.region false [oI 10 7 2,
 mV 11 1,
 oA2 12 409 10 11,
 mV 13 12,
 oE 14 13 1,
 gF 15 13 (.bin .num .lss (.t 14) (.c (.int .i64 8))),
 oX 16 13 15,
 mV 17 16,
 oE 18 17 1,
 gF 19 17 (.bin .num .gtr (.t 18) (.c (.int .i64 64))),
 oX 20 17 19,
 mV 21 20,
 oG 22 21 true 7 2,
 gF 23 21 (.call (.f 410) [(.t 22), (.c (.int .i64 (-200))), (.c (.int .i64 200))]),
 gF 24 21 (.un .not (.t 23)),
 oX 25 21 24]) (.cond (.t 25) (.seq (.region false [oZ 4 true]) .ret) .skip)) (.seq (.region false [oI 26 7 2,
 mV 27 1,
 oA2 28 411 26 27,
 oL 5,
 oK 7 5 28 false]) (.seq (.seq (.region false [oI 29 7 2,
 oA1 30 412 29,
 oT 31 30,
 oP 32 (.mv (.c (.int .i64 0)))]) (.block 0 (.loop qch))) (.seq (.region false [oI 42 7 5,
 oA1 43 77 42,
 mV 44 43,
 gT 45 44 (.faddr 6 (.t 5)),
 oH 46 44 false 1 45,
 gT 47 44 (.un .not (.t 46)),
 oY 48 44 47,
 mV 4 48]) .ret)))))),
 false, false⟩
@[simp] def qci : AFn := ⟨[(.tmp 4)],
 (.seq (.region false [oU 2 7 0,
 oZ 4 false]) (.seq (.seq (.region false [oA0 6 408,
 oW 7 6]) (.cond (.t 7) (.seq (.region false [oZ 4 false]) .ret) .skip)) (.seq (.seq (.region false [oI 8 7 2,
 mV 9 1,
 oA2 10 415 8 9,
 oW 11 10]) (.cond (.t 11) (.seq (.region false [oZ 4 true]) .ret) .skip)) (.seq (.region false [oI 12 7 2,
 mV 13 1,
 oA2 14 416 12 13,
 mV 15 1,
 oA2 16 411 14 15,
 oL 5,
 oK 7 5 16 false]) (.seq (.seq (.region false [oI 17 7 2,
 oI 18 7 5,
 oA2 19 83 17 18,
 oW 20 19]) (.cond (.t 20) (.seq (.region false [oZ 4 false]) .ret) .skip)) (.seq (.region true [oI 21 7 2,
 oS 22 (.call (.f 410) [(.t 21), (.c (.int .i64 (-64))), (.c (.int .i64 64))]),
 oW 23 22,
 mV 24 23,
 oG 25 24 true 7 2,
 oG 26 24 true 7 2,
 oE 27 24 1,
 oC2 28 24 411 26 27,
 oE 29 24 1,
 oC2 30 24 416 28 29,
 ⟨some 31, .call (.f 83) [(.t 25), (.t 30)], some (24, false), true⟩,
 oX 32 24 31,
 mV 4 32]) .ret)))))),
 false, false⟩
@[simp] def qdi : AFn := ⟨[(.tmp 6)],
 (.seq (.region false [oU 3 7 0,
 oU 4 7 1,
 oZ 6 false]) (.seq (.seq (.region false [oA0 10 408,
 oW 11 10]) (.cond (.t 11) (.seq (.region false [oZ 6 false]) .ret) .skip)) (.seq (.seq (.region false [oI 12 7 3,
 mV 13 2,
 oA2 14 415 12 13,
 oW 15 14,
 mV 16 15,
 oG 17 16 true 7 4,
 oE 18 16 2,
 oC2 19 16 415 17 18,
 gF 20 16 (.un .not (.t 19)),
 oX 21 16 20]) (.cond (.t 21) (.seq (.region false [oZ 6 true]) .ret) .skip)) (.seq (.region false [oP 7 (.mv (.f 417))]) (.seq (.region true [oI 22 7 3,
 mV 23 2,
 oA2 24 416 22 23,
 oI 25 7 4,
 mV 26 2,
 oA2 27 416 25 26,
 mV 28 2,
 oA3 29 140 24 27 28,
 oL 8,
 oK 7 8 29 true]) (.seq (.region false [oI 30 7 3,
 oI 31 7 4,
 mV 32 2,
 oA3 33 138 30 31 32,
 mV 34 2,
 oA2 35 416 33 34,
 oL 9,
 oK 7 9 35 false]) (.seq (.seq (.region false [mV 36 7,
 oI 37 7 8,
 oI 38 7 9,
 oP 39 (.call (.t 36) [(.t 37), (.t 38)]),
 oW 40 39]) (.cond (.t 40) (.seq (.region false [oZ 6 false]) .ret) .skip)) (.seq (.seq (.region false [oI 41 7 3,
 oP 42 (.call (.f 410) [(.t 41), (.c (.int .i64 (-64))), (.c (.int .i64 64))]),
 oW 43 42,
 mV 44 43,
 oG 45 44 true 7 4,
 gF 46 44 (.call (.f 410) [(.t 45), (.c (.int .i64 (-64))), (.c (.int .i64 64))]),
 gF 47 44 (.un .not (.t 46)),
 oX 48 44 47]) (.cond (.t 48) (.seq (.region false [oZ 6 true]) .ret) .skip)) (.seq (.region true [mV 49 7,
 oI 50 7 3,
 oI 51 7 4,
 mV 52 2,
 oA3 53 140 50 51 52,
 mV 54 2,
 oA2 55 411 53 54,
 oI 56 7 3,
 mV 57 2,
 oA2 58 411 56 57,
 oI 59 7 4,
 mV 60 2,
 oB2 61 411 59 60,
 mV 62 2,
 oB3 63 138 58 61 62,
 oS 64 (.call (.t 49) [(.t 55), (.t 63)]),
 mV 6 64]) .ret))))))))),
 false, false⟩
def qbu : AC := (.seq (.region false [oN 29 .lss 28 27]) (.seq (.cond (.t 29) .skip (.exit 0)) (.seq (.block 1 (.seq (.region false [oV 30 3 26 28,
 oI 31 3 30,
 oM 9,
 oK 3 9 31 false]) (.seq (.region true [oI 32 7 5,
 oI 33 3 9,
 oA1 34 420 33,
 oB2 35 413 32 34,
 oW 36 35,
 mV 37 36,
 oG 38 37 true 7 6,
 oG 39 37 true 3 9,
 oC1 40 37 421 39,
 ⟨some 41, .call (.f 413) [(.t 38), (.t 40)], some (37, false), true⟩,
 gF 42 37 (.un .not (.t 41)),
 oX 43 37 42,
 mV 44 43,
 oG 45 44 true 7 7,
 oG 46 44 true 3 9,
 oC1 47 44 422 46,
 ⟨some 48, .call (.f 413) [(.t 45), (.t 47)], some (44, false), true⟩,
 gF 49 44 (.un .not (.t 48)),
 oX 50 44 49]) (.cond (.t 50) (.seq (.region false [oZ 4 false]) .ret) .skip)))) (.region false [oO 51 .add 28 1,
 mV 28 51]))))
@[simp] def qcb : AFn := ⟨[(.tmp 4)],
 (.seq (.region false [oU 2 7 0,
 oZ 4 false]) (.seq (.seq (.region false [oA0 10 408,
 oW 11 10]) (.cond (.t 11) (.seq (.region false [oZ 4 false]) .ret) .skip)) (.seq (.seq (.region false [oI 12 7 2,
 mV 13 1,
 oA2 14 415 12 13,
 oW 15 14]) (.cond (.t 15) (.seq (.region false [oZ 4 true]) .ret) .skip)) (.seq (.region true [oI 16 7 2,
 mV 17 1,
 oA2 18 416 16 17,
 oI 19 7 2,
 mV 20 1,
 oA2 21 418 19 20,
 oI 22 7 2,
 mV 23 1,
 oA2 24 419 22 23,
 oL 5,
 oL 6,
 oL 7,
 oK 7 5 18 true,
 oK 7 6 21 true,
 oK 7 7 24 true]) (.seq (.seq (.region false [oI 25 7 2,
 oA1 26 412 25,
 oT 27 26,
 oP 28 (.mv (.c (.int .i64 0)))]) (.block 0 (.loop qbu))) (.seq (.region false [oI 52 7 5,
 oA1 53 77 52,
 mV 54 53,
 oH 55 54 true 7 6,
 oD1 56 54 77 55,
 oY 57 54 56,
 mV 58 57,
 oH 59 58 true 7 7,
 oD1 60 58 77 59,
 oY 61 58 60,
 mV 62 61,
 gT 63 62 (.faddr 6 (.t 5)),
 oH 64 62 false 1 63,
 gT 65 62 (.un .not (.t 64)),
 oY 66 62 65,
 mV 67 66,
 gT 68 67 (.faddr 6 (.t 6)),
 oH 69 67 false 1 68,
 gT 70 67 (.un .not (.t 69)),
 oY 71 67 70,
 mV 72 71,
 gT 73 72 (.faddr 6 (.t 7)),
 oH 74 72 false 1 73,
 gT 75 72 (.un .not (.t 74)),
 oY 76 72 75,
 mV 4 76]) .ret)))))),
 false, false⟩
def qaz : AC := (.seq (.region false [oN 48 .lss 47 46]) (.seq (.cond (.t 48) .skip (.exit 0)) (.seq (.block 1 (.seq (.region false [oV 49 7 45 47,
 oI 50 7 49,
 oL 8,
 oK 7 8 50 false]) (.seq (.region false [oI 51 7 8,
 oI 52 7 5,
 oA2 53 60 51 52,
 oW 54 53]) (.cond (.t 54) (.seq (.region false [oZ 4 false]) .ret) .skip)))) (.region false [oO 55 .add 47 1,
 mV 47 55]))))
@[simp] def qcu : AFn := ⟨[(.tmp 4)],
 (.seq (.region false [oU 2 7 0,
 oZ 4 false]) (.seq (.seq (.region false [oA0 9 408,
 oW 10 9]) (.cond (.t 10) (.seq (.region false [oZ 4 false]) .ret) .skip)) (.seq (.seq (.region false [oI 11 7 2,
 mV 12 1,
 oA2 13 409 11 12]) (.cond (.t 13) (.seq (.region false [oZ 4 true]) .ret) .skip)) (.seq (.region false [oA0 14 109,
 oL 5,
 oK 7 5 14 false]) (.seq (.region false [mV 15 1,
 oA1 16 195 15,
 oW 17 16,
 mV 6 17]) (.seq (.seq (.region false [mV 18 6,
 mV 19 1,
 oA1 20 423 19,
 oP 21 (.field false 6 1 (.t 20)),
 oP 22 (.bin .bool .neq (.t 18) (.t 21))]) (.cond (.t 22) (.seq (.region false [oZ 4 false]) .ret) .skip)) (.seq (.seq (.region false [mV 23 6,
 mV 24 23,
 oG 25 24 true 7 2,
 oC1 26 24 70 25,
 gF 27 24 (.un .not (.t 26)),
 oX 28 24 27,
 mV 29 28,
 gF 30 29 (.faddr 6 (.t 2)),
 oG 31 29 false 1 30,
 oX 32 29 31]) (.cond (.t 32) (.seq (.seq (.region true [oI 33 7 2,
 mV 34 1,
 oA2 35 416 33 34,
 oI 36 7 2,
 mV 37 1,
 oA2 38 411 36 37,
 oI 39 7 2,
 mV 40 1,
 oA2 41 418 39 40,
 oI 42 7 2,
 mV 43 1,
 oB2 44 419 42 43,
 oS 45 (.bslice 7 4 (.agg [(.bool false), .nil, (.int .i64 0), (.bool false), .nil, (.int .i64 0), (.bool false)]) [(0, (.t 35)), (1, (.t 38)), (2, (.t 41)), (3, (.t 44))]),
 oT 46 45,
 oP 47 (.mv (.c (.int .i64 0)))]) (.block 0 (.loop qaz))) (.seq (.region false [oZ 4 true]) .ret)) .skip)) (.seq (.region true [oI 56 7 2,
 oB1 57 174 56,
 oO 58 .gtr 57 0,
 mV 59 58,
 oG 60 59 true 7 2,
 oE 61 59 1,
 oC2 62 59 411 60 61,
 oG 63 59 true 7 5,
 ⟨some 64, .call (.f 60) [(.t 62), (.t 63)], some (59, false), true⟩,
 oX 65 59 64,
 mV 4 65]) .ret)))))))),
 false, false⟩
@[simp] def qdk : AFn := ⟨[(.tmp 4)],
 (.seq (.region false [oU 2 7 0,
 oU 3 1 1,
 oZ 4 false]) (.seq (.seq (.region false [oA0 6 408,
 oW 7 6]) (.cond (.t 7) (.seq (.region false [oZ 4 false]) .ret) .skip)) (.seq (.seq (.region false [oI 8 7 2,
 oJ 9 3,
 oA2 10 415 8 9,
 oW 11 10]) (.cond (.t 11) (.seq (.region false [oZ 4 true]) .ret) .skip)) (.seq (.region false [oP 12 (.mkfn 424 [(.t 2), (.t 3)]),
 mV 5 12]) (.seq (.seq (.region false [mV 13 5,
 oP 14 (.call (.t 13) [(.f 416)]),
 oW 15 14,
 mV 16 15,
 oE 17 16 5,
 gF 18 16 (.call (.t 17) [(.f 418)]),
 gF 19 16 (.un .not (.t 18)),
 oX 20 16 19,
 mV 21 20,
 oG 22 21 true 7 2,
 oG 23 21 false 1 3,
 oC2 24 21 419 22 23,
 gF 25 21 (.field true 0 3 (.t 24)),
 gF 26 21 (.call (.f 74) [(.c (.int .i64 1))]),
 oC2 27 21 18 25 26,
 gF 28 21 (.bin .num .lss (.t 27) (.c (.int .i64 0))),
 oX 29 21 28]) (.cond (.t 29) (.seq (.region false [oZ 4 false]) .ret) .skip)) (.seq (.region false [oI 30 7 2,
 oP 31 (.call (.f 410) [(.t 30), (.c (.int .i64 (-64))), (.c (.int .i64 64))]),
 oW 32 31,
 mV 33 32,
 oE 34 33 5,
 gF 35 33 (.call (.t 34) [(.f 411)]),
 oX 36 33 35,
 mV 4 36]) .ret)))))),
 false, false⟩
@[simp] def qc8 : AFn := ⟨[(.tmp 2)],
 (.seq (.region false [oZ 2 false]) (.seq (.seq (.region false [oA0 6 408,
 oW 7 6]) (.cond (.t 7) (.seq (.region false [oZ 2 false]) .ret) .skip)) (.seq (.seq (.region false [mV 8 0,
 oO 9 .lss 8 8,
 mV 10 9,
 oE 11 10 0,
 gF 12 10 (.bin .num .gtr (.t 11) (.c (.int .i64 64))),
 oX 13 10 12]) (.cond (.t 13) (.seq (.region false [oZ 2 true]) .ret) .skip)) (.seq (.region false [oP 14 (.call (.f 426) [(.c (.int .i64 0))]),
 oP 15 (.call (.f 426) [(.c (.int .i64 1))]),
 oL 3,
 oL 4,
 oK 7 3 14 false,
 oK 7 4 15 false]) (.seq (.region false [mV 16 0,
 oA1 17 423 16,
 oL 5,
 oK 7 5 17 false]) (.seq (.seq (.region true [oI 18 7 5,
 oA0 19 427,
 oB2 20 413 18 19,
 oW 21 20,
 mV 22 21,
 oG 23 22 true 7 5,
 oE 24 22 0,
 gF 25 22 (.call (.f 74) [(.c (.int .i64 1))]),
 ⟨some 26, .call (.f 428) [(.t 23), (.t 24), (.t 25)], some (22, false), true⟩,
 gF 27 22 (.un .not (.t 26)),
 oX 28 22 27]) (.cond (.t 28) (.seq (.region false [oZ 2 false]) .ret) .skip)) (.seq (.region true [oI 29 7 3,
 mV 30 0,
 oA2 31 416 29 30,
 oI 32 7 4,
 oB2 33 60 31 32,
 mV 34 33,
 oH 35 34 true 7 3,
 oF 36 34 0,
 oD2 37 34 419 35 36,
 oH 38 34 true 7 4,
 ⟨some 39, .call (.f 60) [(.t 37), (.t 38)], some (34, true), true⟩,
 oY 40 34 39,
 mV 41 40,
 oH 42 41 true 7 4,
 oF 43 41 0,
 oD2 44 41 411 42 43,
 oH 45 41 true 7 3,
 ⟨some 46, .call (.f 60) [(.t 44), (.t 45)], some (41, true), true⟩,
 oY 47 41 46,
 mV 48 47,
 oH 49 48 true 7 3,
 oF 50 48 0,
 oD2 51 48 418 49 50,
 oH 52 48 true 7 3,
 ⟨some 53, .call (.f 60) [(.t 51), (.t 52)], some (48, true), true⟩,
 oY 54 48 53,
 mV 2 54]) .ret))))))),
 false, false⟩
@[simp] def qby : AFn := ⟨[(.tmp 4)],
 (.seq (.region false [oU 2 7 0,
 oZ 4 false]) (.seq (.seq (.region false [oA0 9 408,
 oW 10 9]) (.cond (.t 10) (.seq (.region false [oZ 4 false]) .ret) .skip)) (.seq (.seq (.region false [oI 11 7 2,
 mV 12 1,
 oA2 13 415 11 12,
 oW 14 13]) (.cond (.t 14) (.seq (.region false [oZ 4 true]) .ret) .skip)) (.seq (.region true [oI 15 7 2,
 mV 16 1,
 oA2 17 418 15 16,
 oI 18 7 2,
 mV 19 1,
 oA2 20 419 18 19,
 oL 5,
 oL 6,
 oK 7 5 17 true,
 oK 7 6 20 true]) (.seq (.seq (.region true [oI 21 7 6,
 mV 22 1,
 oA2 23 141 21 22,
 oI 24 7 5,
 mV 25 1,
 oB2 26 141 24 25,
 mV 27 1,
 oB3 28 139 23 26 27,
 oS 29 (.call (.f 74) [(.c (.int .i64 1))]),
 oB2 30 133 28 29,
 oW 31 30]) (.cond (.t 31) (.seq (.region false [oZ 4 false]) .ret) .skip)) (.seq (.region true [oI 33 7 5,
 oI 34 7 6,
 mV 35 1,
 oA3 36 138 33 34 35,
 oI 37 7 2,
 mV 38 1,
 oA2 39 416 37 38,
 oA2 40 90 36 39,
 mV 32 40,
 oR 41 0 32,
 oR 42 1 32,
 oL 7,
 oK 7 7 41 true,
 mV 8 42]) (.seq (.region false [mV 43 8,
 mV 4 43]) .ret))))))),
 false, false⟩
@[simp] def qj2 : AFn := ⟨[(.tmp 0)],
 (.seq (.region false [oZ 0 false]) (.seq (.region false [oP 3 (.call (.f 426) [(.c (.int .i64 1))]),
 oL 1,
 oK 7 1 3 false]) (.seq (.region false [oI 4 7 1,
 oP 5 (.call (.f 416) [(.t 4), (.c (.int .i64 24))]),
 oL 2,
 oK 7 2 5 false]) (.seq (.region true [oI 6 7 2,
 oP 7 (.call (.f 74) [(.c (.int .i64 1))]),
 oS 8 (.call (.f 428) [(.t 6), (.c (.int .i64 22)), (.t 7)]),
 mV 9 8,
 oH 10 9 true 7 2,
 gT 11 9 (.call (.f 74) [(.c (.int .i64 1))]),
 oD1 12 9 420 11,
 ⟨some 13, .call (.f 413) [(.t 10), (.t 12)], some (9, true), true⟩,
 oY 14 9 13,
 mV 15 14,
 ⟨some 16, .call (.f 74) [(.c (.int .i64 1))], some (15, true), true⟩,
 gT 17 15 (.build [(.bool false), .nil, (.int .i64 0), (.bool false), .nil, (.int .i64 0), (.bool false)] [(3, 3, (.t 16))]),
 ⟨some 18, .call (.f 411) [(.t 17), (.c (.int .i64 24))], some (15, true), true⟩,
 gT 19 15 (.field false 6 1 (.t 18)),
 oY 20 15 19,
 mV 0 20]) .ret)))),
 false, false⟩
@[simp] def qj1 : AFn := ⟨[(.tmp 4)],
 (.seq (.region false [oU 2 7 0,
 oZ 4 false]) (.seq (.region false [oQ 5 0 2,
 oQ 6 1 5,
 oJ 7 6,
 oT 8 7,
 oO 9 .gtr 8 20,
 mV 10 9,
 gF 11 10 (.faddr 3 (.t 2)),
 gF 12 10 (.faddr 1 (.t 11)),
 oG 13 10 false 1 12,
 gF 14 10 (.len (.t 13)),
 gF 15 10 (.bin .num .gtr (.t 14) (.c (.int .i64 20))),
 oX 16 10 15,
 mV 17 16,
 oE 18 17 1,
 gF 19 17 (.bin .num .gtr (.t 18) (.c (.int .i64 64))),
 oE 20 17 19,
 oF 21 20 1,
 gT 22 20 (.bin .num .leq (.t 21) (.c (.int .i64 512))),
 gF 23 17 (.pick (.t 20) (.t 22) (.c (.bool false))),
 oX 24 17 23,
 mV 4 24]) .ret)),
 false, false⟩
@[simp] def qhs : AFn := ⟨[(.tmp 6)],
 (.seq (.region false [oU 3 7 0,
 oZ 6 false]) (.seq (.region false [oP 12 (.call (.f 74) [(.c (.int .i64 1))]),
 mV 13 1,
 oA2 14 182 12 13,
 mV 11 14,
 oR 15 0 11,
 oR 16 1 11,
 oM 7,
 oK 3 7 15 false,
 mV 8 16]) (.seq (.region false [oP 18 (.call (.f 74) [(.c (.int .i64 1))]),
 mV 19 2,
 oA2 20 182 18 19,
 mV 17 20,
 oR 21 0 17,
 oR 22 1 17,
 oM 9,
 oK 3 9 21 false,
 mV 10 22]) (.seq (.region false [oI 23 7 3,
 oA1 24 70 23,
 mV 25 24,
 gT 26 25 (.faddr 6 (.t 3)),
 oH 27 25 false 1 26,
 gT 28 25 (.un .not (.t 27)),
 oY 29 25 28,
 mV 30 29,
 gT 31 30 (.faddr 0 (.t 3)),
 oH 32 30 true 3 31,
 oH 33 30 true 3 7,
 oD2 34 30 18 32 33,
 gT 35 30 (.bin .num .geq (.t 34) (.c (.int .i64 0))),
 oY 36 30 35,
 mV 37 36,
 gT 38 37 (.faddr 3 (.t 3)),
 oH 39 37 true 3 38,
 oH 40 37 true 3 9,
 oD2 41 37 18 39 40,
 gT 42 37 (.bin .num .leq (.t 41) (.c (.int .i64 0))),
 oY 43 37 42,
 mV 6 43]) .ret)))),
 false, false⟩
@[simp] def qlr : AFn := ⟨[(.cell 4 true 7)],
 (.seq (.region false [oU 2 7 0,
 oL 4]) (.seq (.seq (.region false [oI 5 7 2,
 mV 6 1,
 oA2 7 429 5 6,
 oW 8 7,
 mV 9 8,
 gF 10 9 (.faddr 0 (.t 2)),
 oG 11 9 true 3 10,
 oC1 12 9 79 11,
 gF 13 9 (.bin .num .leq (.t 12) (.c (.int .i64 0))),
 oX 14 9 13]) (.cond (.t 14) (.seq (.region false [oA0 15 107,
 oK 7 4 15 false]) .ret) .skip)) (.seq (.region true [oQ 16 0 2,
 oI 17 3 16,
 mV 18 1,
 oA2 19 431 17 18,
 oQ 20 3 2,
 oI 21 3 20,
 mV 22 1,
 oB2 23 431 21 22,
 oB2 24 430 19 23,
 oK 7 4 24 true]) .ret))),
 false, false⟩
@[simp] def qgn : AFn := ⟨[(.tmp 2)],
 (.seq (.region false [oU 1 7 0,
 oP 2 (.mv (.c .nil))]) (.seq (.region true [oQ 3 0 1,
 oI 4 3 3,
 oQ 5 3 1,
 oI 6 3 5,
 oI 7 7 1,
 oP 8 (.call (.f 163) [(.t 7), (.c (.int .i64 64))]),
 oS 9 (.bslice 3 3 (.agg [(.bool false), .nil, (.int .i64 0)]) [(0, (.t 4)), (1, (.t 6)), (2, (.t 8))]),
 mV 2 9]) .ret)),
 false, false⟩
@[simp] def qji : AFn := ⟨[(.tmp 4)],
 (.seq (.region false [oU 2 7 0,
 oU 3 7 1,
 oZ 4 false]) (.seq (.region false [oI 8 7 2,
 oI 9 7 3,
 oA2 10 71 8 9,
 mV 7 10,
 oR 11 0 7,
 oR 12 1 7,
 oL 5,
 oK 7 5 11 false,
 mV 6 12]) (.seq (.region false [mV 13 6,
 mV 4 13]) .ret))),
 false, false⟩
@[simp] def qng : AFn := ⟨[(.cell 2 true 7)],
 (.seq (.region false [oU 1 3 0,
 oL 2]) (.seq (.region false [oI 6 3 1,
 oA1 7 55 6,
 mV 3 7]) (.seq (.region false [oI 8 3 1,
 oA1 9 153 8,
 mV 10 3,
 oP 11 (.bin .num .sub (.c (.int .i64 0)) (.t 10)),
 oA2 12 159 9 11,
 oL 4,
 oK 7 4 12 false]) (.seq (.region true [oI 13 7 4,
 oP 14 (.call (.f 426) [(.c (.int .i64 (-1)))]),
 oA2 15 433 13 14,
 oI 16 7 4,
 oP 17 (.call (.f 426) [(.c (.int .i64 1))]),
 oA2 18 433 16 17,
 oA2 19 432 15 18,
 oL 5,
 oK 7 5 19 true]) (.seq (.region false [oI 20 7 5,
 oA1 21 434 20,
 mV 22 3,
 oA1 23 426 22,
 oA0 24 427,
 oA2 25 435 23 24,
 oA2 26 433 21 25,
 oK 7 2 26 false]) .ret))))),
 false, false⟩
@[simp] def qjz : AFn := ⟨[(.tmp 4)],
 (.seq (.region false [oU 2 7 0,
 oZ 4 false]) (.seq (.region false [mV 5 1,
 oO 6 .geq 5 8,
 mV 7 6,
 oF 8 7 1,
 gT 9 7 (.bin .num .leq (.t 8) (.c (.int .i64 64))),
 oY 10 7 9,
 mV 11 10,
 gT 12 11 (.faddr 0 (.t 2)),
 gT 13 11 (.faddr 1 (.t 12)),
 oH 14 11 false 1 13,
 gT 15 11 (.len (.t 14)),
 gT 16 11 (.bin .num .leq (.t 15) (.c (.int .i64 20))),
 oY 17 11 16,
 mV 18 17,
 gT 19 18 (.faddr 3 (.t 2)),
 gT 20 18 (.faddr 1 (.t 19)),
 oH 21 18 false 1 20,
 gT 22 18 (.len (.t 21)),
 gT 23 18 (.bin .num .leq (.t 22) (.c (.int .i64 20))),
 oY 24 18 23,
 mV 25 24,
 oH 26 25 true 7 2,
 gT 27 25 (.call (.f 436) [(.t 26), (.c (.int .i64 (-64))), (.c (.int .i64 64))]),
 oY 28 25 27,
 mV 4 28]) .ret)),
 false, false⟩
@[simp] def qls : AFn := ⟨[(.cell 4 true 7)],
 (.seq (.region false [oU 2 7 0,
 oL 4]) (.seq (.seq (.region false [oI 5 7 2,
 mV 6 1,
 oA2 7 429 5 6,
 oW 8 7,
 mV 9 8,
 gF 10 9 (.faddr 0 (.t 2)),
 oG 11 9 true 3 10,
 oC1 12 9 437 11,
 gF 13 9 (.un .not (.t 12)),
 oX 14 9 13,
 mV 15 14,
 gF 16 15 (.faddr 3 (.t 2)),
 oG 17 15 true 3 16,
 oC1 18 15 437 17,
 gF 19 15 (.un .not (.t 18)),
 oX 20 15 19]) (.cond (.t 20) (.seq (.region false [oA0 21 107,
 oK 7 4 21 false]) .ret) .skip)) (.seq (.region true [oQ 22 0 2,
 oI 23 3 22,
 mV 24 1,
 oA2 25 438 23 24,
 oQ 26 3 2,
 oI 27 3 26,
 mV 28 1,
 oB2 29 438 27 28,
 oB2 30 430 25 29,
 oK 7 4 30 true]) .ret))),
 false, false⟩
@[simp] def qct : AFn := ⟨[(.tmp 4)],
 (.seq (.region false [oU 2 7 0,
 oU 3 7 1,
 oZ 4 false]) (.seq (.region false [oI 8 7 2,
 oI 9 7 3,
 oA2 10 90 8 9,
 mV 7 10,
 oR 11 0 7,
 oR 12 1 7,
 oL 5,
 oK 7 5 11 false,
 mV 6 12]) (.seq (.region false [mV 13 6,
 mV 4 13]) .ret))),
 false, false⟩
@[simp] def qj5 : AFn := ⟨[(.cell 4 true 7)],
 (.seq (.region false [oU 2 7 0,
 oU 3 1 1,
 oL 4]) (.seq (.seq (.region false [oI 6 7 2,
 oJ 7 3,
 oA2 8 429 6 7,
 oW 9 8,
 mV 10 9,
 gF 11 10 (.faddr 0 (.t 2)),
 oG 12 10 true 3 11,
 oC1 13 10 437 12,
 gF 14 10 (.un .not (.t 13)),
 oX 15 10 14,
 mV 16 15,
 gF 17 16 (.faddr 3 (.t 2)),
 oG 18 16 true 3 17,
 oC1 19 16 437 18,
 gF 20 16 (.un .not (.t 19)),
 oX 21 16 20]) (.cond (.t 21) (.seq (.region false [oA0 22 107,
 oK 7 4 22 false]) .ret) .skip)) (.seq (.region false [oP 23 (.mkfn 439 [(.t 3)]),
 mV 5 23]) (.seq (.region true [mV 24 5,
 oQ 25 0 2,
 oI 26 3 25,
 oP 27 (.call (.t 24) [(.t 26)]),
 mV 28 5,
 oQ 29 3 2,
 oI 30 3 29,
 oS 31 (.call (.t 28) [(.t 30)]),
 oB2 32 430 27 31,
 oK 7 4 32 true]) .ret)))),
 false, false⟩
@[simp] def qj7 : AFn := ⟨[(.cell 4 true 7)],
 (.seq (.region false [oU 2 7 0,
 oL 4]) (.seq (.seq (.region false [oI 8 7 2,
 mV 9 1,
 oA2 10 429 8 9,
 oW 11 10,
 mV 12 11,
 gF 13 12 (.faddr 0 (.t 2)),
 oG 14 12 true 3 13,
 oC1 15 12 437 14,
 gF 16 12 (.un .not (.t 15)),
 oX 17 12 16,
 mV 18 17,
 gF 19 18 (.faddr 3 (.t 2)),
 oG 20 18 true 3 19,
 oC1 21 18 437 20,
 gF 22 18 (.un .not (.t 21)),
 oX 23 18 22]) (.cond (.t 23) (.seq (.region false [oA0 24 107,
 oK 7 4 24 false]) .ret) .skip)) (.seq (.region false [oI 25 7 2,
 oA1 26 156 25,
 oL 5,
 oK 7 5 26 false]) (.seq (.region true [oQ 27 0 5,
 oI 28 3 27,
 mV 29 1,
 oP 30 (.call (.f 440) [(.t 28), (.t 29), (.f 138)]),
 oQ 31 3 5,
 oI 32 3 31,
 mV 33 1,
 oP 34 (.call (.f 440) [(.t 32), (.t 33), (.f 138)]),
 oA2 35 430 30 34,
 oL 6,
 oK 7 6 35 true]) (.seq (.seq (.region false [oP 36 (.call (.f 210) [(.c (.int .i64 1))]),
 oM 7,
 oK 3 7 36 false]) (.seq (.region false [oQ 37 6 6,
 oJ 38 37,
 oW 39 38,
 mV 40 39,
 gT 41 40 (.faddr 0 (.t 6)),
 oH 42 40 true 3 41,
 oH 43 40 true 3 7,
 oD2 44 40 52 42 43,
 gT 45 40 (.bin .num .lss (.t 44) (.c (.int .i64 0))),
 oY 46 40 45]) (.cond (.t 46) (.region false [oI 47 3 7,
 oQ 48 0 6,
 oK 3 48 47 false]) .skip))) (.seq (.region false [oI 49 7 6,
 oK 7 4 49 false]) .ret)))))),
 false, false⟩
def qhv : AC := (.seq (.seq (.region false [mV 25 7,
 oO 26 .leq 25 20]) (.cond (.t 26) .skip (.exit 0))) (.seq (.block 1 (.seq (.region false [oI 29 7 6,
 oI 30 7 4,
 oA2 31 435 29 30,
 mV 32 7,
 oA1 33 426 32,
 oA2 34 432 31 33,
 oK 7 6 34 false]) (.region false [oI 35 7 5,
 oI 36 7 6,
 oA2 37 433 35 36,
 oK 7 5 37 false]))) (.region false [mV 27 7,
 oO 28 .add 27 1,
 mV 7 28])))
def qhu : AC := (.seq (.seq (.region false [mV 48 8,
 mV 49 3,
 oN 50 .lss 48 49]) (.cond (.t 50) .skip (.exit 2))) (.seq (.block 3 (.region false [oI 53 7 5,
 oI 54 7 5,
 oA2 55 435 53 54,
 oK 7 5 55 false])) (.region false [mV 51 8,
 oO 52 .add 51 1,
 mV 8 52])))
@[simp] def qnh : AFn := ⟨[(.cell 2 true 7)],
 (.seq (.region false [oU 1 3 0,
 oL 2]) (.seq (.seq (.region false [oQ 9 1 1,
 oJ 10 9,
 oT 11 10,
 oO 12 .eql 11 0]) (.cond (.t 12) (.seq (.region false [oP 13 (.call (.f 426) [(.c (.int .i64 1))]),
 oK 7 2 13 false]) .ret) .skip)) (.seq (.region false [oI 14 3 1,
 oA1 15 55 14,
 oO 16 .add 15 16,
 oP 17 (.max (.c (.int .i64 0)) (.t 16)),
 mV 3 17]) (.seq (.region false [oI 18 3 1,
 oA1 19 153 18,
 mV 20 3,
 oP 21 (.bin .num .sub (.c (.int .i64 0)) (.t 20)),
 oA2 22 159 19 21,
 oL 4,
 oK 7 4 22 false]) (.seq (.region false [oP 23 (.call (.f 426) [(.c (.int .i64 1))]),
 oP 24 (.call (.f 426) [(.c (.int .i64 1))]),
 oL 5,
 oL 6,
 oK 7 5 23 false,
 oK 7 6 24 false]) (.seq (.seq (.region false [oP 7 (.mv (.c (.int .i64 1)))]) (.block 0 (.loop qhv))) (.seq (.region true [oI 38 7 5,
 oI 39 7 6,
 oI 40 7 4,
 oA2 41 435 39 40,
 oP 42 (.call (.f 426) [(.c (.int .i64 21))]),
 oA2 43 432 41 42,
 oP 44 (.call (.f 426) [(.c (.int .i64 2))]),
 oA2 45 435 43 44,
 oA1 46 441 45,
 oB2 47 433 38 46,
 oK 7 5 47 true]) (.seq (.seq (.region false [oP 8 (.mv (.c (.int .i64 0)))]) (.block 2 (.loop qhu))) (.seq (.region false [oI 56 7 5,
 oK 7 2 56 false]) .ret))))))))),
 false, false⟩
@[simp] def qk8 : AFn := ⟨[(.cell 2 true 7)],
 (.seq (.region false [oU 1 3 0,
 oL 2]) (.seq (.region true [oI 3 3 1,
 oA1 4 420 3,
 oI 5 3 1,
 oB1 6 57 5,
 oB1 7 420 6,
 oS 8 (.call (.f 146) [(.t 4), (.t 7), (.c (.int .i64 320))]),
 oS 9 (.call (.f 159) [(.t 8), (.c (.int .i64 (-1)))]),
 oK 7 2 9 true]) .ret)),
 false, false⟩
@[simp] def qla : AFn := ⟨[(.cell 2 true 7)],
 (.seq (.region false [oU 1 3 0,
 oL 2]) (.seq (.region true [oI 3 3 1,
 oA1 4 420 3,
 oI 5 3 1,
 oB1 6 57 5,
 oB1 7 420 6,
 oB2 8 433 4 7,
 oS 9 (.call (.f 159) [(.t 8), (.c (.int .i64 (-1)))]),
 oK 7 2 9 true]) .ret)),
 false, false⟩
@[simp] def qj6 : AFn := ⟨[(.cell 2 true 7)],
 (.seq (.region false [oL 2]) (.seq (.seq (.region false [mV 4 0,
 oO 5 .lss 4 8,
 mV 6 5,
 oE 7 6 0,
 gF 8 6 (.bin .num .gtr (.t 7) (.c (.int .i64 512))),
 oX 9 6 8]) (.cond (.t 9) (.seq (.region false [oA0 10 107,
 oK 7 2 10 false]) .ret) .skip)) (.seq (.region false [mV 11 0,
 oP 12 (.call (.f 442) [(.t 11), (.c (.int .i64 16))]),
 oP 3 (.new 1 (.agg [(.int .i64 0)])),
 oK 1 3 12 false]) (.seq (.region true [oI 13 1 3,
 oI 14 1 3,
 oP 15 (.call (.f 445) [(.c (.int .i64 1))]),
 oP 16 (.call (.f 445) [(.c (.int .i64 3))]),
 oA3 17 444 14 15 16,
 oB2 18 443 13 17,
 mV 19 0,
 oB2 20 149 18 19,
 oK 7 2 20 true]) .ret)))),
 false, false⟩
@[simp] def qcv : AFn := ⟨[(.tmp 4)],
 (.seq (.region false [oZ 4 false]) (.seq (.region true [mV 8 0,
 oI 9 7 1,
 oJ 10 2,
 oP 11 (.call (.t 8) [(.t 9), (.t 10)]),
 mV 12 0,
 oQ 13 0 1,
 oI 14 3 13,
 oA1 15 425 14,
 oJ 16 2,
 oP 17 (.call (.t 12) [(.t 15), (.t 16)]),
 mV 18 0,
 oQ 19 3 1,
 oI 20 3 19,
 oA1 21 425 20,
 oJ 22 2,
 oP 23 (.call (.t 18) [(.t 21), (.t 22)]),
 oL 5,
 oL 6,
 oL 7,
 oK 7 5 11 true,
 oK 7 6 17 true,
 oK 7 7 23 true]) (.seq (.region false [oQ 24 0 5,
 oI 25 3 24,
 oQ 26 0 6,
 oI 27 3 26,
 oA2 28 23 25 27,
 mV 29 28,
 gT 30 29 (.faddr 3 (.t 5)),
 oH 31 29 true 3 30,
 gT 32 29 (.faddr 3 (.t 7)),
 oH 33 29 true 3 32,
 oD2 34 29 23 31 33,
 oY 35 29 34,
 mV 36 35,
 gT 37 36 (.faddr 6 (.t 5)),
 oH 38 36 false 1 37,
 gT 39 36 (.un .not (.t 38)),
 oY 40 36 39,
 mV 41 40,
 gT 42 41 (.faddr 6 (.t 6)),
 oH 43 41 false 1 42,
 gT 44 41 (.un .not (.t 43)),
 oY 45 41 44,
 mV 46 45,
 gT 47 46 (.faddr 6 (.t 7)),
 oH 48 46 false 1 47,
 gT 49 46 (.un .not (.t 48)),
 oY 50 46 49,
 mV 4 50]) .ret))),
 false, false⟩
@[simp] def qj0 : AFn := ⟨[(.cell 2 true 7)],
 (.seq (.region false [oU 1 3 0,
 oL 2]) (.seq (.region false [oI 3 3 1,
 oA1 4 153 3,
 oK 7 2 4 false]) .ret)),
 false, false⟩
@[simp] def qnf : AFn := ⟨[(.cell 2 true 7)],
 (.seq (.region false [oL 2]) (.seq (.region false [mV 3 0,
 oA1 4 74 3,
 oA1 5 153 4,
 oK 7 2 5 false]) .ret)),
 false, false⟩
@[simp] def qk9 : AFn := ⟨[(.cell 0 true 7)],
 (.seq (.region false [oL 0]) (.seq (.region false [oP 1 (.call (.f 426) [(.c (.int .i64 1))]),
 oP 2 (.call (.f 426) [(.c (.int .i64 3))]),
 oA2 3 432 1 2,
 oA1 4 434 3,
 oK 7 0 4 false]) .ret)),
 false, false⟩
@[simp] def qht : AFn := ⟨[(.tmp 6)],
 (.seq (.region false [oU 3 7 0,
 oU 5 3 2,
 oZ 6 false]) (.seq (.seq (.region false [oQ 10 6 3,
 oJ 11 10,
 mV 12 11,
 gF 13 12 (.faddr 0 (.t 3)),
 oG 14 12 true 3 13,
 oC1 15 12 12 14,
 gF 16 12 (.un .not (.t 15)),
 oX 17 12 16,
 mV 18 17,
 gF 19 18 (.faddr 3 (.t 3)),
 oG 20 18 true 3 19,
 oC1 21 18 12 20,
 gF 22 18 (.un .not (.t 21)),
 oX 23 18 22]) (.cond (.t 23) (.seq (.region false [oZ 6 false]) .ret) .skip)) (.seq (.region true [oQ 24 3 3,
 oI 25 3 24,
 oQ 26 0 3,
 oI 27 3 26,
 oA1 28 57 27,
 oA2 29 56 25 28,
 oM 7,
 oK 3 7 29 true]) (.seq (.region false [oI 31 3 5,
 mV 32 1,
 oP 33 (.bin .num .sub (.c (.int .i64 8)) (.t 32)),
 oA2 34 182 31 33,
 mV 30 34,
 oR 35 0 30,
 oR 36 1 30,
 oM 8,
 oK 3 8 35 false,
 mV 9 36]) (.seq (.region false [mV 37 9,
 oO 38 .eql 37 0,
 mV 39 38,
 oH 40 39 true 3 7,
 oH 41 39 true 3 8,
 oD2 42 39 18 40 41,
 gT 43 39 (.bin .num .leq (.t 42) (.c (.int .i64 0))),
 oY 44 39 43,
 mV 6 44]) .ret))))),
 false, false⟩
@[simp] def qj3 : AFn := ⟨[(.tmp 4)],
 (.seq (.region false [oU 2 7 0,
 oZ 4 false]) (.seq (.region false [oQ 5 6 2,
 oJ 6 5,
 oW 7 6,
 mV 8 7,
 oH 9 8 true 7 2,
 oD1 10 8 77 9,
 oY 11 8 10,
 mV 12 11,
 oF 13 12 1,
 gT 14 12 (.bin .num .geq (.t 13) (.c (.int .i64 8))),
 oY 15 12 14,
 mV 16 15,
 oF 17 16 1,
 gT 18 16 (.bin .num .leq (.t 17) (.c (.int .i64 512))),
 oY 19 16 18,
 mV 4 19]) .ret)),
 false, false⟩
@[simp] def qj4 : AFn := ⟨[(.cell 4 true 7)],
 (.seq (.region false [oU 2 7 0,
 oU 3 7 1,
 oL 4]) (.seq (.seq (.region false [oQ 5 6 2,
 oJ 6 5,
 mV 7 6,
 gF 8 7 (.faddr 6 (.t 3)),
 oG 9 7 false 1 8,
 oX 10 7 9]) (.cond (.t 10) (.seq (.region false [oA0 11 107,
 oK 7 4 11 false]) .ret) .skip)) (.seq (.region false [oQ 12 0 2,
 oI 13 3 12,
 oQ 14 3 3,
 oI 15 3 14,
 oP 16 (.build [(.bool false), .nil, (.int .i64 0), (.bool false), .nil, (.int .i64 0), (.bool false)] [(0, 3, (.t 13)), (3, 3, (.t 15))]),
 oK 7 4 16 false]) .ret))),
 false, false⟩
@[simp] def qen : AFn := ⟨[(.cell 4 true 7)],
 (.seq (.region false [oU 2 3 0,
 oL 4]) (.seq (.seq (.region true [oI 9 3 2,
 oP 10 (.call (.f 210) [(.c (.int .i64 1))]),
 oB2 11 52 9 10,
 oO 12 .eql 11 0]) (.cond (.t 12) (.seq (.region false [oP 13 (.build [(.bool false), .nil, (.int .i64 0), (.bool false), .nil, (.int .i64 0), (.bool false)] []),
 oK 7 4 13 false]) .ret) .skip)) (.seq (.region false [mV 14 1,
 oP 15 (.call (.f 442) [(.t 14), (.c (.int .i64 40))]),
 oP 5 (.new 1 (.agg [(.int .i64 0)])),
 oK 1 5 15 false]) (.seq (.region false [oI 16 3 2,
 oA1 17 98 16,
 mV 6 17]) (.seq (.region true [oI 18 3 2,
 oA1 19 152 18,
 oQ 20 0 5,
 oJ 21 20,
 oA2 22 149 19 21,
 mV 23 6,
 oP 24 (.un .neg (.t 23)),
 oA2 25 158 22 24,
 oL 7,
 oK 7 7 25 true]) (.seq (.region true [oI 26 1 5,
 oI 27 1 5,
 oI 28 7 7,
 oP 29 (.call (.f 445) [(.c (.int .i64 (-1)))]),
 oA3 30 446 27 28 29,
 oI 31 1 5,
 oI 32 7 7,
 oP 33 (.call (.f 445) [(.c (.int .i64 1))]),
 oA3 34 446 31 32 33,
 oA3 35 444 26 30 34,
 oL 8,
 oK 7 8 35 true]) (.seq (.region true [oI 36 1 5,
 oI 37 1 5,
 oI 38 7 8,
 oA2 39 443 37 38,
 oI 40 1 5,
 mV 41 6,
 oA1 42 445 41,
 oQ 43 0 5,
 oJ 44 43,
 oA1 45 423 44,
 oA3 46 447 40 42 45,
 oB3 47 446 36 39 46,
 mV 48 1,
 oB2 49 149 47 48,
 oK 7 4 49 true]) .ret))))))),
 false, false⟩
@[simp] def qnd : AFn := ⟨[(.cell 4 true 7)],
 (.seq (.region false [oU 2 7 0,
 oU 3 7 1,
 oL 4]) (.seq (.region false [oI 5 7 2,
 oI 6 7 3,
 oP 7 (.call (.f 175) [(.t 5), (.t 6), (.c (.int .i64 320))]),
 oK 7 4 7 false]) .ret)),
 false, false⟩
@[simp] def qne : AFn := ⟨[(.cell 4 true 7)],
 (.seq (.region false [oU 2 7 0,
 oU 3 7 1,
 oL 4]) (.seq (.region false [oI 5 7 2,
 oI 6 7 3,
 oP 7 (.call (.f 145) [(.t 5), (.t 6), (.c (.int .i64 320))]),
 oK 7 4 7 false]) .ret)),
 false, false⟩
def qe4 : AC := (.seq (.seq (.region false [mV 12 6,
 oO 13 .leq 12 100]) (.cond (.t 13) .skip (.exit 0))) (.seq (.block 1 (.seq (.region true [oI 16 7 4,
 oI 17 7 5,
 mV 18 6,
 oP 19 (.bin .num .mul (.c (.int .i64 2)) (.t 18)),
 oO 20 .add 19 1,
 oA1 21 426 20,
 oA2 22 432 17 21,
 oB2 23 433 16 22,
 oK 7 4 23 true]) (.region false [oI 24 7 5,
 oI 25 7 3,
 oA2 26 435 24 25,
 oK 7 5 26 false]))) (.region false [mV 14 6,
 oO 15 .add 14 1,
 mV 6 15])))
@[simp] def qhp : AFn := ⟨[(.cell 2 true 7)],
 (.seq (.region false [oU 1 7 0,
 oL 2]) (.seq (.region false [oI 8 7 1,
 oP 9 (.call (.f 155) [(.t 8), (.c (.int .i64 320))]),
 oL 3,
 oK 7 3 9 false]) (.seq (.region true [oP 10 (.call (.f 426) [(.c (.int .i64 0))]),
 oP 11 (.sload true 7 1),
 oL 4,
 oL 5,
 ⟨none, .storeN 7 (.t 4) (.t 10) [1], none, true⟩,
 oK 7 5 11 true]) (.seq (.seq (.region false [oP 6 (.mv (.c (.int .i64 0)))]) (.block 0 (.loop qe4))) (.seq (.region true [oI 27 7 5,
 oP 28 (.call (.f 426) [(.c (.int .i64 9))]),
 oA2 29 435 27 28,
 oP 30 (.call (.f 426) [(.c (.int .i64 1624))]),
 oA2 31 432 29 30,
 oA1 32 441 31,
 oL 7,
 oK 7 7 32 true]) (.seq (.region true [oP 33 (.call (.f 426) [(.c (.int .i64 2))]),
 oI 34 7 4,
 oI 35 7 7,
 oB2 36 433 34 35,
 oB2 37 435 33 36,
 oK 7 2 37 true]) .ret)))))),
 false, false⟩
@[simp] def qnc : AFn := ⟨[(.cell 4 true 7)],
 (.seq (.region false [oU 2 7 0,
 oU 3 7 1,
 oL 4]) (.seq (.region false [oI 5 7 2,
 oI 6 7 3,
 oP 7 (.call (.f 154) [(.t 5), (.t 6), (.c (.int .i64 320))]),
 oK 7 4 7 false]) .ret)),
 false, false⟩
@[simp] def qhr : AFn := ⟨[(.tmp 6)],
 (.seq (.region false [oU 3 7 0,
 oZ 6 false]) (.seq (.region true [oI 7 7 3,
 oB1 8 70 7,
 mV 9 8,
 gT 10 9 (.faddr 6 (.t 3)),
 oH 11 9 false 1 10,
 gT 12 9 (.un .not (.t 11)),
 oY 13 9 12,
 mV 14 13,
 gT 15 14 (.faddr 0 (.t 3)),
 oH 16 14 true 3 15,
 oF 17 14 1,
 oD1 18 14 74 17,
 ⟨some 19, .call (.f 18) [(.t 16), (.t 18)], some (14, true), true⟩,
 gT 20 14 (.bin .num .geq (.t 19) (.c (.int .i64 0))),
 oY 21 14 20,
 mV 22 21,
 gT 23 22 (.faddr 3 (.t 3)),
 oH 24 22 true 3 23,
 oF 25 22 2,
 oD1 26 22 74 25,
 ⟨some 27, .call (.f 18) [(.t 24), (.t 26)], some (22, true), true⟩,
 gT 28 22 (.bin .num .leq (.t 27) (.c (.int .i64 0))),
 oY 29 22 28,
 mV 6 29]) .ret)),
 false, false⟩
@[simp] def qe6 : AFn := ⟨[(.tmp 2)],
 (.seq (.region false [oU 1 3 0,
 oZ 2 false]) (.seq (.region false [oI 3 3 1,
 oA1 4 205 3,
 oP 5 (.call (.f 210) [(.c (.int .i64 1000))]),
 oA2 6 52 4 5,
 oO 7 .leq 6 0,
 mV 2 7]) .ret)),
 false, false⟩
@[simp] def qh2 : AFn := ⟨[(.cell 4 true 7)],
 (.seq (.region false [oU 2 3 0,
 oL 4]) (.seq (.seq (.region false [oI 7 3 2,
 oA1 8 79 7,
 oO 9 .eql 8 0]) (.cond (.t 9) (.seq (.region false [oP 10 (.call (.f 445) [(.c (.int .i64 1))]),
 oK 7 4 10 false]) .ret) .skip)) (.seq (.region false [oI 11 3 2,
 oA1 12 98 11,
 oO 13 .add 12 1,
 oP 14 (.max (.t 13) (.c (.int .i64 0))),
 mV 5 14]) (.seq (.region false [mV 15 1,
 mV 16 5,
 oO 17 .add 16 24,
 oA2 18 442 15 17,
 oP 6 (.new 1 (.agg [(.int .i64 0)])),
 oK 1 6 18 false]) (.seq (.region true [oI 19 1 6,
 oI 20 3 2,
 oA1 21 152 20,
 oQ 22 0 6,
 oJ 23 22,
 oA2 24 149 21 23,
 mV 25 5,
 oB3 26 448 19 24 25,
 mV 27 1,
 oB2 28 149 26 27,
 oK 7 4 28 true]) .ret))))),
 false, false⟩
@[simp] def qgp : AFn := ⟨[(.cell 3 true 7)],
 (.seq (.region false [oU 2 3 0,
 oL 3]) (.seq (.seq (.region false [oI 4 3 2,
 oA1 5 79 4,
 oO 6 .eql 5 0]) (.cond (.t 6) (.seq (.region false [oP 7 (.build [(.bool false), .nil, (.int .i64 0), (.bool false), .nil, (.int .i64 0), (.bool false)] []),
 oK 7 3 7 false]) .ret) .skip)) (.seq (.region false [oI 8 3 2,
 oJ 9 1,
 oP 10 (.call (.f 440) [(.t 8), (.t 9), (.f 139)]),
 oK 7 3 10 false]) .ret))),
 false, true⟩
@[simp] def qdz : AFn := ⟨[(.cell 6 true 7)],
 (.seq (.region false [oU 3 3 0,
 oL 6]) (.seq (.region false [mV 8 1,
 oP 9 (.call (.f 442) [(.t 8), (.c (.int .i64 16))]),
 oP 7 (.new 1 (.agg [(.int .i64 0)])),
 oK 1 7 9 false]) (.seq (.region true [mV 10 2,
 oI 11 3 3,
 oQ 12 0 7,
 oJ 13 12,
 oA2 14 438 11 13,
 oI 15 3 3,
 oA1 16 198 15,
 oQ 17 0 7,
 oJ 18 17,
 oA2 19 438 16 18,
 oQ 20 0 7,
 oJ 21 20,
 oS 22 (.call (.t 10) [(.t 14), (.t 19), (.t 21)]),
 oS 23 (.call (.f 158) [(.t 22), (.c (.int .i64 (-1)))]),
 mV 24 1,
 oB2 25 149 23 24,
 oK 7 6 25 true]) .ret))),
 false, false⟩
@[simp] def qhq : AFn := ⟨[(.cell 2 true 7)],
 (.seq (.region false [oU 1 7 0,
 oL 2]) (.seq (.seq (.region false [oQ 4 6 1,
 oJ 5 4]) (.cond (.t 5) (.seq (.region false [oI 6 7 1,
 oK 7 2 6 false]) .ret) .skip)) (.seq (.region false [oI 7 7 1,
 oA1 8 166 7,
 oM 3,
 oK 3 3 8 false]) (.seq (.region true [oI 9 3 3,
 oA1 10 57 9,
 oI 11 3 3,
 oP 12 (.build [(.bool false), .nil, (.int .i64 0), (.bool false), .nil, (.int .i64 0), (.bool false)] [(0, 3, (.t 10)), (3, 3, (.t 11))]),
 oK 7 2 12 true]) .ret)))),
 false, false⟩
@[simp] def qh3 : AFn := ⟨[(.cell 4 true 1)],
 (.seq (.region false [oP 4 (.new 1 (.agg [(.int .i64 0)]))]) (.seq (.region false [mV 5 0,
 mV 6 1,
 oN 7 .add 5 6,
 oP 8 (.min (.t 7) (.c (.int .i64 512))),
 oP 9 (.build [(.int .i64 0)] [(0, 1, (.t 8))]),
 oK 1 4 9 false]) .ret)),
 false, false⟩
def qfc : AC := (.seq (.seq (.region false [oI 15 1 2,
 oI 16 7 6,
 oA2 17 449 15 16,
 oW 18 17]) (.cond (.t 18) .skip (.exit 0))) (.seq (.block 1 (.seq (.region false [oI 21 1 2,
 oI 22 7 6,
 oI 23 7 5,
 oA3 24 447 21 22 23,
 oK 7 6 24 false]) (.region true [oI 25 1 2,
 oI 26 7 7,
 oI 27 1 2,
 oI 28 7 6,
 mV 29 8,
 oA1 30 445 29,
 oA3 31 444 27 28 30,
 oB3 32 446 25 26 31,
 oK 7 7 32 true]))) (.region false [mV 19 8,
 oO 20 .add 19 2,
 mV 8 20])))
@[simp] def qd1 : AFn := ⟨[(.cell 4 true 7)],
 (.seq (.region false [oU 2 1 0,
 oU 3 7 1,
 oL 4]) (.seq (.region false [oI 9 7 3,
 oQ 10 0 2,
 oJ 11 10,
 oA2 12 141 9 11,
 oL 5,
 oK 7 5 12 false]) (.seq (.region true [oI 13 7 3,
 oP 14 (.sload true 7 3),
 oL 6,
 oL 7,
 ⟨none, .storeN 7 (.t 6) (.t 13) [3], none, true⟩,
 oK 7 7 14 true]) (.seq (.seq (.region false [oP 8 (.mv (.c (.int .i64 3)))]) (.block 0 (.loop qfc))) (.seq (.region true [oI 33 1 2,
 oI 34 7 7,
 oI 35 7 6,
 oA1 36 450 35,
 oB3 37 446 33 34 36,
 oS 38 (.call (.f 158) [(.t 37), (.c (.int .i64 1))]),
 oK 7 4 38 true]) .ret))))),
 false, false⟩
@[simp] def qd3 : AFn := ⟨[(.cell 6 true 7)],
 (.seq (.region false [oU 3 1 0,
 oU 4 7 1,
 oU 5 7 2,
 oL 6]) (.seq (.region false [oI 7 7 4,
 oI 8 7 5,
 oQ 9 0 3,
 oJ 10 9,
 oA3 11 142 7 8 10,
 oK 7 6 11 false]) .ret)),
 false, false⟩
@[simp] def qh1 : AFn := ⟨[(.cell 2 true 7)],
 (.seq (.region false [oL 2]) (.seq (.region false [mV 3 0,
 oA1 4 210 3,
 oA1 5 152 4,
 oK 7 2 5 false]) .ret)),
 false, false⟩
@[simp] def qd4 : AFn := ⟨[(.cell 6 true 7)],
 (.seq (.region false [oU 3 1 0,
 oU 4 7 1,
 oU 5 7 2,
 oL 6]) (.seq (.region false [oI 7 7 4,
 oI 8 7 5,
 oQ 9 0 3,
 oJ 10 9,
 oA3 11 138 7 8 10,
 oK 7 6 11 false]) .ret)),
 false, false⟩
@[simp] def qd0 : AFn := ⟨[(.cell 6 true 7)],
 (.seq (.region false [oU 3 1 0,
 oU 4 7 1,
 oU 5 7 2,
 oL 6]) (.seq (.region false [oI 7 7 4,
 oI 8 7 5,
 oQ 9 0 3,
 oJ 10 9,
 oA3 11 140 7 8 10,
 oK 7 6 11 false]) .ret)),
 false, false⟩
@[simp] def qcw : AFn := ⟨[(.cell 6 true 7)],
 (.seq (.region false [oU 3 1 0,
 oU 4 7 1,
 oL 6]) (.seq (.seq (.region false [mV 7 2,
 oO 8 .eql 7 0]) (.cond (.t 8) (.seq (.region false [oI 9 1 3,
 oI 10 7 4,
 oA2 11 451 9 10,
 oK 7 6 11 false]) .ret) .skip)) (.seq (.region true [oI 12 1 3,
 oI 13 7 4,
 oP 14 (.call (.f 158) [(.t 13), (.c (.int .i64 (-1)))]),
 mV 15 2,
 oO 16 .sub 15 1,
 oA3 17 448 12 14 16,
 oQ 18 0 3,
 oJ 19 18,
 oB2 20 141 17 19,
 oK 7 6 20 true]) .ret))),
 false, false⟩
@[simp] def qda : AFn := ⟨[(.tmp 4)],
 (.seq (.region false [oU 2 1 0,
 oU 3 7 1,
 oZ 4 false]) (.seq (.region false [oI 8 7 3,
 oA1 9 164 8,
 mV 7 9,
 oR 10 0 7,
 oR 11 1 7,
 oM 5,
 oK 3 5 10 false,
 mV 6 11]) (.seq (.region true [mV 12 6,
 oW 13 12,
 mV 14 13,
 oG 15 14 true 3 5,
 ⟨some 16, .call (.f 79) [(.t 15)], some (14, false), true⟩,
 gF 17 14 (.bin .num .eql (.t 16) (.c (.int .i64 0))),
 oX 18 14 17,
 mV 19 18,
 oG 20 19 true 3 5,
 oC1 21 19 98 20,
 gF 22 19 (.faddr 0 (.t 2)),
 oG 23 19 false 1 22,
 gF 24 19 (.un .neg (.t 23)),
 gF 25 19 (.bin .num .leq (.t 21) (.t 24)),
 oX 26 19 25,
 mV 4 26]) .ret))),
 false, false⟩
@[simp] def qgo : AFn := ⟨[(.cell 2 true 7)],
 (.seq (.region false [oU 1 7 0,
 oL 2]) (.seq (.region false [oI 6 7 1,
 oA1 7 164 6,
 mV 5 7,
 oR 8 0 5,
 oR 9 1 5,
 oM 3,
 oK 3 3 8 false,
 mV 4 9]) (.seq (.seq (.region false [mV 10 4,
 oW 11 10]) (.cond (.t 11) (.seq (.region false [oA0 12 107,
 oK 7 2 12 false]) .ret) .skip)) (.seq (.region true [oI 13 3 3,
 oA1 14 198 13,
 oI 15 3 3,
 oP 16 (.build [(.bool false), .nil, (.int .i64 0), (.bool false), .nil, (.int .i64 0), (.bool false)] [(0, 3, (.t 14)), (3, 3, (.t 15))]),
 oK 7 2 16 true]) .ret)))),
 false, false⟩
def qfd : AC := (.seq (.block 1 (.seq (.region true [oI 12 1 2,
 oI 13 1 2,
 oI 14 7 5,
 oI 15 7 3,
 oA3 16 447 13 14 15,
 mV 17 7,
 oA1 18 445 17,
 oB3 19 444 12 16 18,
 oK 7 5 19 true]) (.seq (.region false [oI 20 1 2,
 oI 21 7 6,
 oI 22 7 5,
 oA3 23 446 20 21 22,
 oK 7 6 23 false]) (.seq (.region false [oI 24 1 2,
 oI 25 7 5,
 oA2 26 449 24 25]) (.cond (.t 26) (.exit 0) .skip))))) (.region false [mV 10 7,
 oO 11 .add 10 1,
 mV 7 11]))
@[simp] def qd2 : AFn := ⟨[(.cell 4 true 7)],
 (.seq (.region false [oU 2 1 0,
 oU 3 7 1,
 oL 4]) (.scope (.seq (.region false [oP 8 (.call (.f 445) [(.c (.int .i64 1))]),
 oP 9 (.call (.f 445) [(.c (.int .i64 1))]),
 oL 5,
 oL 6,
 oK 7 5 8 false,
 oK 7 6 9 false]) (.seq .skip (.seq (.seq (.region false [oP 7 (.mv (.c (.int .i64 1)))]) (.block 0 (.loop qfd))) (.seq (.region true [oI 27 1 2,
 oI 28 7 6,
 oI 29 7 5,
 oA1 30 450 29,
 oB3 31 446 27 28 30,
 oK 7 4 31 true]) .ret)))))),
 false, false⟩
end Go.Abs
namespace Go.Abs
end Go.Abs
namespace Go.Abs
abbrev qv7 : Nat := 12
abbrev q1q : Nat := 18
abbrev qv9 : Nat := 23
abbrev qkt : Nat := 49
abbrev qx9 : Nat := 51
abbrev q3z : Nat := 52
abbrev qx6 : Nat := 54
abbrev q1m : Nat := 55
abbrev q1n : Nat := 56
abbrev q1o : Nat := 57
abbrev qoz : Nat := 60
abbrev qsm : Nat := 63
abbrev qvy : Nat := 70
abbrev qx2 : Nat := 71
abbrev q1p : Nat := 74
abbrev qtm : Nat := 77
abbrev qt1 : Nat := 78
abbrev q1w : Nat := 79
abbrev qt2 : Nat := 80
abbrev qsl : Nat := 83
abbrev qx5 : Nat := 84
abbrev q3u : Nat := 85
abbrev qx4 : Nat := 86
abbrev qv6 : Nat := 87
abbrev qvu : Nat := 90
abbrev qxw : Nat := 91
abbrev qxx : Nat := 92
abbrev qvv : Nat := 93
abbrev qrq : Nat := 96
abbrev q1v : Nat := 97
abbrev q3w : Nat := 98
abbrev qrp : Nat := 99
abbrev qt0 : Nat := 100
abbrev qdh : Nat := 101
abbrev qv3 : Nat := 102
abbrev qv5 : Nat := 103
abbrev qvp : Nat := 104
abbrev qvr : Nat := 105
abbrev qtk : Nat := 106
abbrev qtl : Nat := 107
abbrev qvw : Nat := 108
abbrev qvx : Nat := 109
abbrev qqb : Nat := 110
abbrev qqa : Nat := 111
abbrev qro : Nat := 112
abbrev ql9 : Nat := 113
abbrev qxn : Nat := 114
abbrev qkq : Nat := 115
abbrev q0x : Nat := 116
abbrev qhb : Nat := 117
abbrev qth : Nat := 118
abbrev qp3 : Nat := 119
abbrev qka : Nat := 120
abbrev qxs : Nat := 133
abbrev qks : Nat := 138
abbrev qkr : Nat := 139
abbrev qxp : Nat := 140
abbrev qsk : Nat := 141
abbrev qxt : Nat := 142
abbrev q1g : Nat := 145
abbrev q08 : Nat := 146
abbrev qxo : Nat := 147
abbrev q09 : Nat := 148
abbrev qto : Nat := 149
abbrev qtp : Nat := 152
abbrev qv0 : Nat := 153
abbrev q1a : Nat := 154
abbrev qtu : Nat := 155
abbrev qxu : Nat := 156
abbrev q1h : Nat := 157
abbrev qtn : Nat := 158
abbrev qvz : Nat := 159
abbrev q1c : Nat := 163
abbrev qxr : Nat := 164
abbrev qxq : Nat := 165
abbrev q1d : Nat := 166
abbrev q1b : Nat := 167
abbrev q1e : Nat := 169
abbrev qvt : Nat := 173
abbrev qx0 : Nat := 174
abbrev q1f : Nat := 175
abbrev qv8 : Nat := 182
abbrev qso : Nat := 184
abbrev qsn : Nat := 185
abbrev qp4 : Nat := 186
abbrev qvm : Nat := 187
abbrev q0u : Nat := 188
abbrev qvq : Nat := 189
abbrev qvs : Nat := 190
abbrev qow : Nat := 191
abbrev qrm : Nat := 192
abbrev qox : Nat := 193
abbrev qrn : Nat := 194
abbrev qx1 : Nat := 195
abbrev q1l : Nat := 196
abbrev qxy : Nat := 197
abbrev q3x : Nat := 198
abbrev q3t : Nat := 199
abbrev q9q : Nat := 200
abbrev qxz : Nat := 202
abbrev q1i : Nat := 203
abbrev qya : Nat := 204
abbrev q30 : Nat := 205
abbrev q1j : Nat := 206
abbrev q3y : Nat := 210
abbrev qru : Nat := 214
abbrev qv4 : Nat := 215
abbrev q5w : Nat := 216
abbrev q5u : Nat := 217
abbrev q5v : Nat := 218
abbrev qv1 : Nat := 219
abbrev qv2 : Nat := 220
abbrev qdv : Nat := 221
abbrev q0s : Nat := 222
abbrev qsr : Nat := 223
abbrev qt3 : Nat := 224
abbrev qrw : Nat := 225
abbrev qx8 : Nat := 226
abbrev qtv : Nat := 227
abbrev q1t : Nat := 228
abbrev q1k : Nat := 229
abbrev qrv : Nat := 232
abbrev q0t : Nat := 235
abbrev qvj : Nat := 236
abbrev qxl : Nat := 237
abbrev q02 : Nat := 238
abbrev q1y : Nat := 239
abbrev qtj : Nat := 240
abbrev q5t : Nat := 241
abbrev qx3 : Nat := 242
abbrev q9p : Nat := 243
abbrev qtz : Nat := 244
abbrev q3v : Nat := 245
abbrev q01 : Nat := 246
abbrev qer : Nat := 247
abbrev qx7 : Nat := 248
abbrev qs9 : Nat := 249
abbrev q1s : Nat := 250
abbrev q1u : Nat := 251
abbrev qrt : Nat := 252
abbrev qvl : Nat := 254
abbrev qvk : Nat := 255
abbrev q5s : Nat := 256
abbrev q03 : Nat := 257
abbrev q00 : Nat := 258
abbrev q0y : Nat := 259
abbrev qti : Nat := 260
abbrev qi0 : Nat := 261
abbrev q0w : Nat := 262
abbrev q1r : Nat := 263
abbrev q0z : Nat := 264
abbrev q1x : Nat := 265
abbrev q0v : Nat := 266
abbrev qvn : Nat := 267
abbrev qkb : Nat := 268
abbrev qvo : Nat := 269
abbrev qxm : Nat := 270
abbrev qsj : Nat := 271
abbrev qsh : Nat := 272
abbrev qsi : Nat := 273
abbrev qoy : Nat := 274
abbrev qoj : Nat := 400
abbrev qku : Nat := 401
abbrev qoi : Nat := 402
abbrev qkc : Nat := 403
abbrev qmb : Nat := 404
abbrev qok : Nat := 405
abbrev qmv : Nat := 406
abbrev qii : Nat := 407
abbrev qwd : Nat := 408
abbrev qwc : Nat := 409
abbrev qtt : Nat := 410
abbrev qgx : Nat := 411
abbrev qsp : Nat := 412
abbrev qdw : Nat := 413
abbrev qrr : Nat := 414
abbrev qwa : Nat := 415
abbrev qgy : Nat := 416
abbrev qma : Nat := 417
abbrev qfo : Nat := 418
abbrev qwh : Nat := 419
abbrev qrs : Nat := 420
abbrev qqc : Nat := 421
abbrev qqd : Nat := 422
abbrev qwg : Nat := 423
abbrev qbq : Nat := 424
abbrev qwb : Nat := 425
abbrev q07 : Nat := 426
abbrev qxv : Nat := 427
abbrev qof : Nat := 428
abbrev qwe : Nat := 429
abbrev qwf : Nat := 430
abbrev qp5 : Nat := 431
abbrev q05 : Nat := 432
abbrev q06 : Nat := 433
abbrev qtq : Nat := 434
abbrev q04 : Nat := 435
abbrev qts : Nat := 436
abbrev qqo : Nat := 437
abbrev qtx : Nat := 438
abbrev qf9 : Nat := 439
abbrev qo0 : Nat := 440
abbrev qtr : Nat := 441
abbrev qty : Nat := 442
abbrev qo2 : Nat := 443
abbrev qo4 : Nat := 444
abbrev qtw : Nat := 445
abbrev qo5 : Nat := 446
abbrev qo1 : Nat := 447
abbrev qmc : Nat := 448
abbrev qmw : Nat := 449
abbrev qsq : Nat := 450
abbrev qo3 : Nat := 451
def fnList : List (Nat × AFn) :=
 [(12, qjw),
  (18, qnz),
  (23, qjy),
  (49, qlm),
  (51, qlt),
  (52, qpe),
  (54, qln),
  (55, qnv),
  (56, qnw),
  (57, qnx),
  (60, qjp),
  (63, qgi),
  (70, qjm),
  (71, qlh),
  (74, qny),
  (77, qhl),
  (78, qh6),
  (79, qn6),
  (80, qh7),
  (83, qgg),
  (84, qll),
  (85, qo8),
  (86, qlk),
  (87, qjv),
  (90, qjh),
  (91, qlb),
  (92, qlc),
  (93, qjj),
  (96, qfu),
  (97, qn5),
  (98, qpb),
  (99, qil),
  (100, qh5),
  (101, qlj),
  (102, qjs),
  (103, qju),
  (104, qjc),
  (105, qje),
  (106, qhj),
  (107, qhk),
  (108, qjk),
  (109, qjl),
  (110, qg0),
  (111, qeu),
  (112, qm9),
  (113, qed),
  (114, qkx),
  (115, qky),
  (116, qik),
  (117, qbt),
  (118, qhg),
  (119, qel),
  (120, qb9),
  (133, qk4),
  (138, qk6),
  (139, qkz),
  (140, qk1),
  (141, qgf),
  (142, qk5),
  (145, qnq),
  (146, qni),
  (147, qk0),
  (148, qnj),
  (149, qhn),
  (152, qho),
  (153, qjo),
  (154, qnk),
  (155, qhw),
  (156, qk7),
  (157, qnr),
  (158, qhm),
  (159, qjn),
  (163, qnm),
  (164, qk3),
  (165, qk2),
  (166, qnn),
  (167, qnl),
  (169, qno),
  (173, qjg),
  (174, qlf),
  (175, qnp),
  (182, qjx),
  (184, qgl),
  (185, qgk),
  (186, qem),
  (187, qi7),
  (188, qm2),
  (189, qjd),
  (190, qjf),
  (191, qi5),
  (192, qm0),
  (193, qi6),
  (194, qm1),
  (195, qlg),
  (196, qnu),
  (197, qld),
  (198, qpc),
  (199, qo7),
  (200, qsx),
  (202, qle),
  (203, qns),
  (204, qlu),
  (205, qpf),
  (206, qnt),
  (210, qpd),
  (214, qf0),
  (215, qjt),
  (216, c_round_add),
  (217, qqy),
  (218, qqz),
  (219, qjq),
  (220, qjr),
  (221, qdy),
  (222, qmy),
  (223, qgq),
  (224, qh8),
  (225, qf1),
  (226, qlq),
  (227, qh0),
  (228, qn2),
  (229, c_fpref03_Cut),
  (232, qn3),
  (235, qmz),
  (236, c_round_sum),
  (237, qkw),
  (238, qna),
  (239, qn8),
  (240, qhi),
  (241, qqx),
  (242, qli),
  (243, qsw),
  (244, qh4),
  (245, qpa),
  (246, qm8),
  (247, qlp),
  (248, qlo),
  (249, qo9),
  (250, qn1),
  (251, qn4),
  (252, qfv),
  (254, c_round_cut),
  (255, qi4),
  (256, qqw),
  (257, qnb),
  (258, qm7),
  (259, qm5),
  (260, qhh),
  (261, qb5),
  (262, qm4),
  (263, qn0),
  (264, qm6),
  (265, qn7),
  (266, qm3),
  (267, qi8),
  (268, qca),
  (269, qi9),
  (270, qgz),
  (271, qge),
  (272, qgc),
  (273, qgd),
  (274, qjb),
  (400, qdj),
  (401, qci),
  (402, qdi),
  (403, qcb),
  (404, qcu),
  (405, qdk),
  (406, qc8),
  (407, qby),
  (408, qj2),
  (409, qj1),
  (410, qhs),
  (411, qlr),
  (412, qgn),
  (413, qji),
  (414, qng),
  (415, qjz),
  (416, qls),
  (417, qct),
  (418, qj5),
  (419, qj7),
  (420, qnh),
  (421, qk8),
  (422, qla),
  (423, qj6),
  (424, qcv),
  (425, qj0),
  (426, qnf),
  (427, qk9),
  (428, qht),
  (429, qj3),
  (430, qj4),
  (431, qen),
  (432, qnd),
  (433, qne),
  (434, qhp),
  (435, qnc),
  (436, qhr),
  (437, qe6),
  (438, qh2),
  (439, qgp),
  (440, qdz),
  (441, qhq),
  (442, qh3),
  (443, qd1),
  (444, qd3),
  (445, qh1),
  (446, qd4),
  (447, qd0),
  (448, qcw),
  (449, qda),
  (450, qgo),
  (451, qd2)]
end Go.Abs
namespace Go.Abs
section
variable {S : AProg}
def WC (S : AProg) (n0 : Nat) (c : AC) (E : Env) (H : Heap) (Q : AX → Env → Heap → Prop) : Prop :=
 ∃ x E1 H1, Ev S (.code n0 c E H) (.cd x E1 H1) ∧ Q x E1 H1
def WO (S : AProg) (n0 : Nat) (d : Bool) (l : List AOper) (E : Env) (H : Heap) (Q : Env → Heap → Prop) : Prop :=
 ∃ E1 H1, Ev S (.ops n0 d l E H) (.cd .normal E1 H1) ∧ Q E1 H1
def CT (S : AProg) (g : Nat) (args : List V) (H : Heap) (Q : V → Heap → Prop) : Prop :=
 ∃ v H1, Ev S (.call g args H) (.ret v H1) ∧ Q v H1
def CQ (S : AProg) (g : Nat) (args : List V) (v : V) : Prop := ∀ H, Ev S (.call g args H) (.ret v H)
variable {n0 : Nat} {E : Env} {H : Heap} {Q : AX → Env → Heap → Prop} {R : Env → Heap → Prop} {d : Bool}
theorem WC.mono {c : AC} {Q' : AX → Env → Heap → Prop} (h : WC S n0 c E H Q) (hq : ∀ x E H, Q x E H → Q' x E H) : WC S n0 c E H Q' :=
 let ⟨x, E1, H1, e, q⟩ := h; ⟨x, E1, H1, e, hq _ _ _ q⟩
theorem WO.mono {l : List AOper} {R' : Env → Heap → Prop} (h : WO S n0 d l E H R) (hq : ∀ E H, R E H → R' E H) : WO S n0 d l E H R' :=
 let ⟨E1, H1, e, q⟩ := h; ⟨E1, H1, e, hq _ _ q⟩
theorem CT.mono {g : Nat} {args : List V} {Q Q' : V → Heap → Prop} (h : CT S g args H Q) (hq : ∀ v H, Q v H → Q' v H) : CT S g args H Q' :=
 let ⟨v, H1, e, q⟩ := h; ⟨v, H1, e, hq _ _ q⟩
theorem qaku (h : Q .normal E H) : WC S n0 .skip E H Q := ⟨_, _, _, .skip, h⟩
theorem qakw {id : Nat} (h : Q (.exit id) E H) : WC S n0 (.exit id) E H Q := ⟨_, _, _, .exit, h⟩
theorem qand (h : Q .ret E H) : WC S n0 .ret E H Q := ⟨_, _, _, .ret, h⟩
def AX.thn (K : Env → Heap → Prop) (Q : AX → Env → Heap → Prop) : AX → Env → Heap → Prop
 | .normal, E, H => K E H
 | x, E, H => Q x E H
theorem qc0 {a b : AC} (h : WC S n0 a E H (AX.thn (fun E H => WC S n0 b E H Q) Q)) : WC S n0 (.seq a b) E H Q := by
 obtain ⟨x, E1, H1, e, q⟩ := h
 cases x with
 | normal => obtain ⟨y, E2, H2, e2, q2⟩ := q; exact ⟨y, E2, H2, .seqN e e2, q2⟩
 | exit id => exact ⟨_, _, _, .seqX e (by simp), q⟩
 | ret => exact ⟨_, _, _, .seqX e (by simp), q⟩
theorem qaem {c : X} {a b : AC} {t : Bool} (hc : getX E c = .bool t) (h1 : t = true → WC S n0 a E H Q) (h2 : t = false → WC S n0 b E H Q) : WC S n0 (.cond c a b) E H Q := by
 cases t with
 | true => obtain ⟨x, E1, H1, e, q⟩ := h1 rfl; exact ⟨x, E1, H1, .cond hc (by simpa using e), q⟩
 | false => obtain ⟨x, E1, H1, e, q⟩ := h2 rfl; exact ⟨x, E1, H1, .cond hc (by simpa using e), q⟩
theorem qakt {c : X} {a b : AC} (hc : getX E c = .bool true) (h : WC S n0 a E H Q) : WC S n0 (.cond c a b) E H Q := qaem hc (fun _ => h) (by simp)
theorem qag3 {c : X} {a b : AC} (hc : getX E c = .bool false) (h : WC S n0 b E H Q) : WC S n0 (.cond c a b) E H Q := qaem hc (by simp) (fun _ => h)
theorem qag4 {id : Nat} {c : AC} (h : WC S n0 c E H (fun x E H => Q (x.outOf id) E H)) : WC S n0 (.block id c) E H Q := by
 obtain ⟨x, E1, H1, e, q⟩ := h
 exact ⟨_, _, _, .block e, q⟩
theorem qag2 {c : AC} (h : WC S n0 c E H Q) : WC S n0 (.scope c) E H Q := by
 obtain ⟨x, E1, H1, e, q⟩ := h
 exact ⟨_, _, _, .scope e, q⟩
theorem qael {l : List AOper} (h : WO S n0 d l E H (fun E H => Q .normal E H)) : WC S n0 (.region d l) E H Q := by
 obtain ⟨E1, H1, e, q⟩ := h
 exact ⟨_, _, _, .region e, q⟩
theorem qakv {c : AC} (I : Nat → Env → Heap → Prop) (k : Nat) (h0 : I k E H)
   (round : ∀ k E H, I k E H → WC S n0 c E H (AX.thn (fun E1 H1 => ∃ j, j < k ∧ I j E1 H1) Q)) : WC S n0 (.loop c) E H Q := by
 induction k using Nat.strongRecOn generalizing E H with
 | _ k ih =>
   obtain ⟨x, E1, H1, e, q⟩ := round k E H h0
   cases x with
   | normal =>
     obtain ⟨j, hj, hI⟩ := q
     obtain ⟨y, E2, H2, e2, q2⟩ := ih j hj hI
     exact ⟨y, E2, H2, .loopN e e2, q2⟩
   | exit id => exact ⟨_, _, _, .loopX e (by simp), q⟩
   | ret => exact ⟨_, _, _, .loopX e (by simp), q⟩
theorem qam7 (h : R E H) : WO S n0 d [] E H R := ⟨_, _, .opNil, h⟩
def qaeh (S : AProg) (n0 : Nat) (d : Bool) (dst : Option Nat) (x : X) (xs : List X) (gu : Option (Nat × Bool)) (sy : Bool) (l : List AOper) (E : Env) (H : Heap) (R : Env → Heap → Prop) : Prop :=
 WO S n0 d (⟨dst, .call x xs, gu, sy⟩ :: l) E H R
def stepP (S : AProg) (n0 : Nat) (d : Bool) (dst : Option Nat) (op : AOp) (gu : Option (Nat × Bool)) (sy : Bool) (l : List AOper) (E : Env) (H : Heap) (R : Env → Heap → Prop) : Prop :=
 match gd ⟨dst, op, gu, sy⟩ E with
 | some false => WO S n0 d l (put E dst .undef) H R
 | some true =>
   match op with
   | .call x xs => qaeh S n0 d dst x xs none sy l E H R
   | op =>
     match stp n0 op E H with
     | some (v, H1) => ((d && !sy) = true → H <+: H1) ∧ WO S n0 d l (put E dst v) H1 R
     | none => False
 | none => False
theorem qako {dst : Option Nat} {op : AOp} {gu : Option (Nat × Bool)} {sy : Bool} {l : List AOper} (h : stepP S n0 d dst op gu sy l E H R) : WO S n0 d (⟨dst, op, gu, sy⟩ :: l) E H R := by
 unfold stepP at h
 split at h
 · rename_i hg
   obtain ⟨E1, H1, e, q⟩ := h
   exact ⟨_, _, .opSkip hg e, q⟩
 · rename_i hg
   split at h
   · obtain ⟨E1, H1, e, q⟩ := h
     refine ⟨E1, H1, ?_, q⟩
     cases e with
     | opSkip hg' _ => simp [gd] at hg'
     | opDo _ hs _ _ => cases hs
     | opCall _ ho hx hp e1 hpre e2 => exact .opCall hg ho hx hp e1 hpre e2
   · split at h
     · rename_i v H1 hs
       obtain ⟨hp, E1, H2, e, q⟩ := h
       exact ⟨_, _, .opDo hg hs (fun hd hsy => hp (by simp [hd]; simpa using hsy)) e, q⟩
     · exact h.elim
 · exact h.elim
theorem qam8 {dst : Option Nat} {op : AOp} {gu : Option (Nat × Bool)} {sy : Bool} {l : List AOper} : WO S n0 d (⟨dst, op, gu, sy⟩ :: l) E H R ↔ stepP S n0 d dst op gu sy l E H R := by
 refine ⟨fun h => ?_, qako⟩
 obtain ⟨E1, H1, e, q⟩ := h
 unfold stepP
 cases e with
 | opSkip hg e1 => rw [hg]; exact ⟨_, _, e1, q⟩
 | opDo hg hs hp e1 =>
   rw [hg]
   cases op <;> first
     | (cases hs; done)
     | (simp only [] at hs ⊢; rw [hs]; exact ⟨fun h => by simp at h; exact hp h.1 h.2, _, _, e1, q⟩)
 | opCall hg ho hx hp e1 hpre e2 =>
   simp only [] at ho
   subst ho
   rw [hg]
   exact ⟨_, _, .opCall rfl rfl hx hp e1 hpre e2, q⟩
theorem q94 : WO S n0 d [] E H R ↔ R E H := by
 refine ⟨fun h => ?_, qam7⟩
 obtain ⟨E1, H1, e, q⟩ := h
 cases e; exact q
theorem qxb {dst : Option Nat} {sy : Bool} {l : List AOper} {x : X} {args caps vs : List V} {xs : List X} {g : Nat} {H1 : Heap} (hx : getX E x = .fn g caps)
   (ha : xs.map (getX E) ++ caps = args) (hp : prep S g H args = some (vs, H1))
   (h : CT S g vs H1 (fun v H2 => ((d && !sy) = true → H <+: H2) ∧ WO S n0 d l (put E dst v) H2 R)) : qaeh S n0 d dst x xs none sy l E H R := by
 obtain ⟨v, H2, e, hpre, E1, H3, e1, q⟩ := h
 subst ha
 exact ⟨_, _, .opCall rfl rfl hx hp e (fun hd hsy => hpre (by simp [hd]; simpa using hsy)) e1, q⟩
theorem CQ.ct {g : Nat} {args : List V} {v : V} {Q : V → Heap → Prop} (h : CQ S g args v) (hq : Q v H) : CT S g args H Q := ⟨_, _, h H, hq⟩
theorem CQ_of {g : Nat} {f : AFn} {args : List V} {v : V} (hf : S.fn g = some f)
   (h : ∀ H, WC S H.length f.body (E0 args) H (fun x E1 H1 => (x = .normal ∨ x = .ret) ∧ ∃ v0, resV E1 H1 f.results = some v0 ∧ fin f.own H.length H1 v0 = some (v, H))) : CQ S g args v := by
 intro H
 obtain ⟨x, E1, H1, e, hx, v0, hr, hfin⟩ := h H
 exact .call hf e hx hr hfin
theorem CT_of {g : Nat} {f : AFn} {args : List V} {Q : V → Heap → Prop} (hf : S.fn g = some f)
   (h : WC S H.length f.body (E0 args) H (fun x E1 H1 => (x = .normal ∨ x = .ret) ∧ ∃ v0 v H2, resV E1 H1 f.results = some v0 ∧ fin f.own H.length H1 v0 = some (v, H2) ∧ Q v H2)) : CT S g args H Q := by
 obtain ⟨x, E1, H1, e, hx, v0, v, H2, hr, hfin, hq⟩ := h
 exact ⟨_, _, .call hf e hx hr hfin, hq⟩
theorem qanl {g : Nat} {pre post : List V} {v : V} (h1 : CQ S g (pre ++ .nil :: post) v) (h2 : CQ S g (pre ++ .emp :: post) v) : CQ S g (pre ++ .sl [] :: post) v := fun H => .emp (h1 H) (h2 H)
end
theorem qaai (E : Env) (d : Nat) (v : V) (i : Nat) : upd E d v i = if i = d then v else E i := rfl
theorem wrap_i64 {n : Int} (h1 : -9223372036854775808 ≤ n) (h2 : n < 9223372036854775808) : IntKind.wrap .i64 n = n := by
 simp [IntKind.wrap, IntKind.bits, IntKind.signed]; split <;> omega
theorem qaey {n : Int} (h1 : 0 ≤ n) (h2 : n < 4294967296) : IntKind.wrap .u32 n = n := by
 simp only [IntKind.wrap, IntKind.bits, IntKind.signed]; simp; omega
theorem qa2 {n : Int} (h1 : 0 ≤ n) (h2 : n < 18446744073709551616) : IntKind.wrap .u64 n = n := by
 simp only [IntKind.wrap, IntKind.bits, IntKind.signed]; simp; omega
end Go.Abs
namespace Go.Abs
def prog : AProg := ⟨look fnList, fun _ _ => none⟩
end Go.Abs
namespace Go.Abs
def qeo (z bytes : Nat) (x y : V) (H : Heap) : Option (V × Heap) :=
   (elems H y).bind fun ys =>
     if qdu z ys = true then
       match x with
       | .nil =>
         if ys = [] then some (.nil, H)
         else if qbv ys.length bytes = true then some (.ref H.length z 0 ys.length, H ++ [some ⟨z, ys, true, true⟩]) else none
       | .ref b z' off len =>
         match H[b]? with
         | some (some k) =>
           if k.arr = true ∧ k.wr = true ∧ k.z = z ∧ z' = z ∧ off + len ≤ k.el.length ∧ qbv (len + ys.length) bytes = true then
             if ys = [] then some (.ref b z' off len, H)
             else some (.ref H.length z 0 (len + ys.length), H.set b none ++ [some ⟨z, (k.el.drop off).take len ++ ys, true, true⟩])
           else none
         | _ => none
       | _ => none
     else none
theorem q89 {n0 z bytes : Nat} {x y : X} {E : Env} {H : Heap} : stp n0 (.append z bytes x y) E H = qeo z bytes (getX E x) (getX E y) H := rfl
theorem qalu {n0 : Nat} {E : Env} {H : Heap} {x : X} : stp n0 (.mv x) E H = (some (getX E x, H)) := rfl
theorem qae7 {n0 : Nat} {E : Env} {H : Heap} {c a b : X} : stp n0 (.pick c a b) E H =
   match getX E c with
   | .bool t => some (if t then getX E a else getX E b, H)
   | _ => none := rfl
theorem qaiz {n0 : Nat} {E : Env} {H : Heap} {z : Nat} {x : X} : stp n0 (.box z x) E H =
   if (getX E x).cells.length = z ∧ (getX E x).isTup = false then some (.ptr H.length 0 0, H ++ [some ⟨z, [getX E x], false, true⟩]) else none := rfl
theorem qaiv {n0 : Nat} {E : Env} {H : Heap} {z : Nat} {v : V} : stp n0 (.new z v) E H = (if v.cells.length = z ∧ v.pure = true then some (.ptr H.length 0 0, H ++ [some ⟨z, [v], false, true⟩]) else none) := rfl
theorem qaa2 {n0 : Nat} {E : Env} {H : Heap} {zero : List V} {parts : List (Nat × Nat × X)} : stp n0 (.build zero parts) E H =
   if zero.all V.cellPure = true then (fillC zero (parts.map fun p => (p.1, p.2.1, getX E p.2.2))).map fun cs => (.agg cs, H) else none := rfl
theorem q88 {n0 : Nat} {E : Env} {H : Heap} {z len : Nat} {zero : V} {parts : List (Nat × X)} : stp n0 (.bslice z len zero parts) E H =
   if zero.cells.length = z ∧ zero.pure = true then
     (qg9 H (parts.map fun p => getX E p.2)).bind fun (vs, H1) =>
       (fillE z (List.replicate len zero) ((parts.map (·.1)).zip vs)).map fun el => (.ref H1.length z 0 len, H1 ++ [some ⟨z, el, true, true⟩])
   else none := rfl
theorem qafa {n0 : Nat} {E : Env} {H : Heap} {ag : Bool} {z : Nat} {x : X} : stp n0 (.load ag z x) E H =
   match getX E x with
   | .eptr cs => (wrapC ag z cs).map fun v => (v, H)
   | .ptr b i off =>
     match H[b]? with
     | some (some k) =>
       match k.el[i]? with
       | some e => (wrapC ag z (e.cells.drop off)).map fun v => (v, H)
       | none => none
     | _ => none
   | _ => none := rfl
theorem qaav {n0 : Nat} {E : Env} {H : Heap} {z : Nat} {a x : X} : stp n0 (.store z a x) E H = (qml n0 z (getX E a) (getX E x) H) := rfl
theorem qaaw {n0 : Nat} {E : Env} {H : Heap} {ag : Bool} {z t : Nat} : stp n0 (.sload ag z t) E H =
   match E t with
   | .eptr cs => (wrapC ag z cs).map fun v => (v, H)
   | .ptr b i off =>
     match H[b]? with
     | some (some k) =>
       match k.el[i]? with
       | some e => (wrapC ag z (e.cells.drop off)).bind fun v => if v.cells.all (V.lowB H.length) = true ∧ v.isTup = false then some (v, H) else none
       | none => none
     | _ => none
   | _ => none := rfl
theorem q86 {n0 : Nat} {E : Env} {H : Heap} {z : Nat} {a x : X} {av : List Nat} : stp n0 (.storeN z a x av) E H = (if (getX E x).pure = true ∧ (av.all fun t => apart (E t) (getX E a)) = true then qml n0 z (getX E a) (getX E x) H else none) := rfl
theorem qai0 {n0 : Nat} {E : Env} {H : Heap} {bk : BK} {op : BinOp} {x y : X} : stp n0 (.bin bk op x y) E H = ((binV bk op (getX E x) (getX E y)).map fun v => (v, H)) := rfl
theorem qalt {n0 : Nat} {E : Env} {H : Heap} {op : UnOp} {x : X} : stp n0 (.un op x) E H = ((unV op (getX E x)).map fun v => (v, H)) := rfl
theorem qafd {n0 : Nat} {E : Env} {H : Heap} {k : IntKind} {x : X} : stp n0 (.conv k x) E H =
   match getX E x with
   | .int _ n => some (.int k (k.wrap n), H)
   | _ => none := rfl
theorem qae8 {n0 : Nat} {E : Env} {H : Heap} {g : Nat} {caps : List X} : stp n0 (.mkfn g caps) E H = (if (caps.map (getX E)).all V.isCell = true then some (.fn g (caps.map (getX E)), H) else none) := rfl
theorem q42 {n0 : Nat} {E : Env} {H : Heap} {z bytes : Nat} {zero : V} {l c : X} : stp n0 (.mkslice z bytes zero l c) E H =
   match natOf (getX E l), natOf (getX E c) with
   | some l, some c =>
     if l ≤ c ∧ c * bytes ≤ 281474976710656 ∧ c ≤ 9223372036854775807 ∧ zero.cells.length = z ∧ zero.pure = true then
       some (.ref H.length z 0 l, H ++ [some ⟨z, List.replicate c zero, true, true⟩])
     else none
   | _, _ => none := rfl
theorem q44 {n0 z bytes : Nat} {zero : V} {x n : X} {E : Env} {H : Heap} : stp n0 (.appendZ z bytes zero x n) E H =
   match getX E x, natOf (getX E n) with
   | .nil, some m =>
     if 0 < m ∧ m * bytes ≤ 140737488355328 ∧ m ≤ 9223372036854775807 ∧ zero.cells.length = z ∧ zero.pure = true then some (.ref H.length z 0 m, H ++ [some ⟨z, List.replicate m zero, true, true⟩]) else none
   | _, _ => none := rfl
theorem qaax {n0 : Nat} {E : Env} {H : Heap} {z : Nat} {x : X} {lo hi mx : Option X} : stp n0 (.slice z x lo hi mx) E H =
   match getX E x with
   | .nil =>
     match qbw E 0 lo, qbw E 0 hi, qbw E 0 mx with
     | some 0, some 0, some 0 => some (.nil, H)
     | _, _, _ => none
   | .sl l =>
     match qbw E 0 lo, qbw E l.length hi, qbw E l.length mx with
     | some lo, some hi, some mx =>
       if lo ≤ hi ∧ hi ≤ mx ∧ mx ≤ l.length ∧ (lo = 0 ∨ qdu z ((l.take hi).drop lo) = true) then some (.sl ((l.take hi).drop lo), H) else none
     | _, _, _ => none
   | .ref b z' off len =>
     match qbw E 0 lo, qbw E len hi, mx with
     | some lo, some hi, none => if lo ≤ hi ∧ hi ≤ len ∧ z' = z then some (.ref b z' (off + lo) (hi - lo), H) else none
     | _, _, _ => none
   | _ => none := rfl
theorem qaa1 {n0 : Nat} {E : Env} {H : Heap} {off : Nat} {x : X} : stp n0 (.faddr off x) E H =
   match getX E x with
   | .ptr b i o => some (.ptr b i (o + off), H)
   | .eptr cs => some (.eptr (cs.drop off), H)
   | _ => none := rfl
theorem qaa0 {n0 : Nat} {E : Env} {H : Heap} {ag : Bool} {off z : Nat} {x : X} : stp n0 (.field ag off z x) E H =
   match getX E x with
   | .agg cs => (wrapC ag z (cs.drop off)).map fun v => (v, H)
   | _ => none := rfl
theorem qaaz {n0 : Nat} {E : Env} {H : Heap} {z : Nat} {x i : X} : stp n0 (.iaddr z x i) E H =
   match getX E x, natOf (getX E i) with
   | .sl l, some i =>
     match l[i]? with
     | some e => if e.cells.length = z then some (.eptr e.cells, H) else none
     | none => none
   | .ref b z' off len, some i => if i < len ∧ z' = z then some (.ptr b (off + i) 0, H) else none
   | _, _ => none := rfl
theorem q9a {n0 : Nat} {E : Env} {H : Heap} {n z : Nat} {x i : X} : stp n0 (.aiaddr n z x i) E H =
   match getX E x, natOf (getX E i) with
   | .ptr b j off, some i => if i < n then some (.ptr b j (off + i * z), H) else none
   | .eptr cs, some i => if i < n then some (.eptr (cs.drop (i * z)), H) else none
   | _, _ => none := rfl
theorem qaay {n0 : Nat} {E : Env} {H : Heap} {ag : Bool} {n z : Nat} {x i : X} : stp n0 (.index ag n z x i) E H =
   match getX E x, natOf (getX E i) with
   | .agg cs, some i => if i < n then (wrapC ag z (cs.drop (i * z))).map fun v => (v, H) else none
   | _, _ => none := rfl
theorem q87 {n0 : Nat} {E : Env} {H : Heap} {x i : X} : stp n0 (.sindex x i) E H =
   match getX E x, natOf (getX E i) with
   | .str s, some i =>
     match s[i]? with
     | some b => some (.int .u8 b.toNat, H)
     | none => none
   | _, _ => none := rfl
theorem q43 {n0 : Nat} {E : Env} {H : Heap} {i : Nat} {x : X} : stp n0 (.extract i x) E H =
   match getX E x with
   | .tup vs => (vs[i]?).map fun v => (v, H)
   | _ => none := rfl
theorem qaiy {n0 : Nat} {E : Env} {H : Heap} {x : X} : stp n0 (.len x) E H =
   match getX E x with
   | .sl l => some (.int .i64 l.length, H)
   | .nil => some (.int .i64 0, H)
   | .emp => some (.int .i64 0, H)
   | .ref _ _ _ len => some (.int .i64 len, H)
   | _ => none := rfl
theorem qafb {n0 : Nat} {E : Env} {H : Heap} {n : Nat} {x : X} : stp n0 (.lenc n x) E H = (some (.int .i64 n, H)) := rfl
theorem qafe {n0 : Nat} {E : Env} {H : Heap} {x : X} : stp n0 (.capn x) E H =
   match getX E x with
   | .nil => some (.int .i64 0, H)
   | _ => none := rfl
theorem qafc {n0 : Nat} {E : Env} {H : Heap} {z : Nat} {x y : X} : stp n0 (.copy z x y) E H =
   match getX E x with
   | .ref b z' off len =>
     (elems H (getX E y)).bind fun ys =>
       match H[b]? with
       | some (some k) =>
         if k.arr = true ∧ k.wr = true ∧ k.z = z ∧ z' = z ∧ qdu z ys = true ∧ off + len ≤ k.el.length then
           some (.int .i64 (Nat.min ys.length len), H.set b (some { k with el := qei k.el off (ys.take len) }))
         else none
       | _ => none
   | _ => none := rfl
theorem qaiw {n0 : Nat} {E : Env} {H : Heap} {x y : X} : stp n0 (.min x y) E H =
   match getX E x, getX E y with
   | .int k a, .int k' b => if k = k' then some (.int k (if b < a then b else a), H) else none
   | _, _ => none := rfl
theorem qaix {n0 : Nat} {E : Env} {H : Heap} {x y : X} : stp n0 (.max x y) E H =
   match getX E x, getX E y with
   | .int k a, .int k' b => if k = k' then some (.int k (if a < b then b else a), H) else none
   | _, _ => none := rfl
theorem qae9 {n0 : Nat} {E : Env} {H : Heap} {x y z : X} : stp n0 (.max3 x y z) E H =
   match getX E x, getX E y, getX E z with
   | .int k a, .int k' b, .int k'' c => if k = k' ∧ k = k'' then some (.int k (if (if a < b then b else a) < c then c else if a < b then b else a), H) else none
   | _, _, _ => none := rfl
attribute [simp] qae9 q89 qalu qae7 qaiz qaiv qaa2 q88 qafa qaav qaaw q86 qai0 qalt qafd qae8 q42 q44 qaax qaa1 qaa0 qaaz q9a qaay q87 q43 qaiy qafb qafe qafc qaiw qaix
end Go.Abs
namespace Go.Abs
inductive Fr where
 | seq (b : AC)
 | blk (id : Nat)
section
variable {S : AProg} {n0 : Nat} {Q : AX → Env → Heap → Prop}
def WP (S : AProg) (n0 : Nat) (Q : AX → Env → Heap → Prop) : List Fr → AX → Env → Heap → Prop
 | [], x, E, H => Q x E H
 | .seq b :: K, .normal, E, H => WC S n0 b E H (fun x E H => WP S n0 Q K x E H)
 | .seq _ :: K, x, E, H => WP S n0 Q K x E H
 | .blk id :: K, x, E, H => WP S n0 Q K (x.outOf id) E H
def WK (S : AProg) (n0 : Nat) (c : AC) (K : List Fr) (E : Env) (H : Heap) (Q : AX → Env → Heap → Prop) : Prop := WC S n0 c E H (fun x E H => WP S n0 Q K x E H)
def WL (S : AProg) (n0 : Nat) (d : Bool) (l : List AOper) (K : List Fr) (E : Env) (H : Heap) (Q : AX → Env → Heap → Prop) : Prop := WO S n0 d l E H (fun E H => WP S n0 Q K .normal E H)
theorem qod {c : AC} {E : Env} {H : Heap} (h : WK S n0 c [] E H Q) : WC S n0 c E H Q := h
theorem qam6 {x : AX} {E : Env} {H : Heap} : WP S n0 Q [] x E H ↔ Q x E H := Iff.rfl
theorem qam5 {b : AC} {K : List Fr} {E : Env} {H : Heap} : WP S n0 Q (.seq b :: K) .normal E H ↔ WK S n0 b K E H Q := Iff.rfl
theorem q57 {b : AC} {K : List Fr} {id : Nat} {E : Env} {H : Heap} : WP S n0 Q (.seq b :: K) (.exit id) E H ↔ WP S n0 Q K (.exit id) E H := Iff.rfl
theorem q93 {b : AC} {K : List Fr} {E : Env} {H : Heap} : WP S n0 Q (.seq b :: K) .ret E H ↔ WP S n0 Q K .ret E H := Iff.rfl
theorem WP_blk {id : Nat} {K : List Fr} {x : AX} {E : Env} {H : Heap} : WP S n0 Q (.blk id :: K) x E H ↔ WP S n0 Q K (x.outOf id) E H := by cases x <;> exact Iff.rfl
theorem qbp {c : AC} {E : Env} {H : Heap} {Q' : AX → Env → Heap → Prop} (h : WC S n0 c E H Q) (hq : ∀ x E H, Q x E H → Q' x E H) : WC S n0 c E H Q' := by
 obtain ⟨x, E1, H1, e, q⟩ := h
 exact ⟨x, E1, H1, e, hq _ _ _ q⟩
theorem q96 {a b : AC} {K : List Fr} {E : Env} {H : Heap} : WK S n0 (.seq a b) K E H Q ↔ WK S n0 a (.seq b :: K) E H Q := by
 constructor
 · rintro ⟨x, E1, H1, e, q⟩
   cases e with
   | seqN e1 e2 => exact ⟨.normal, _, _, e1, _, _, _, e2, q⟩
   | seqX e1 hx =>
     refine ⟨x, E1, H1, e1, ?_⟩
     cases x with
     | normal => exact absurd rfl hx
     | exit id => exact q
     | ret => exact q
 · intro h
   refine qc0 (qbp h fun x E1 H1 q => ?_)
   cases x with
   | normal => exact q
   | exit id => exact q
   | ret => exact q
theorem qoc {x : X} {a b : AC} {K : List Fr} {E : Env} {H : Heap} : WK S n0 (.cond x a b) K E H Q ↔ match getX E x with | .bool true => WK S n0 a K E H Q | .bool false => WK S n0 b K E H Q | _ => False := by
 constructor
 · rintro ⟨y, E1, H1, e, q⟩
   cases e with
   | @cond _ _ _ _ _ _ t _ hc e1 =>
     rw [hc]
     cases t with
     | true => exact ⟨_, _, _, by simpa using e1, q⟩
     | false => exact ⟨_, _, _, by simpa using e1, q⟩
 · intro h
   split at h
   · rename_i hc; exact qakt hc h
   · rename_i hc; exact qag3 hc h
   · exact h.elim
theorem q4w {id : Nat} {c : AC} {K : List Fr} {E : Env} {H : Heap} : WK S n0 (.block id c) K E H Q ↔ WK S n0 c (.blk id :: K) E H Q := by
 constructor
 · rintro ⟨y, E1, H1, e, q⟩
   cases e with
   | block e1 => exact ⟨_, _, _, e1, WP_blk.2 q⟩
 · intro h
   exact qag4 (qbp h fun x E1 H1 q => WP_blk.1 q)
theorem q4v {c : AC} {K : List Fr} {E : Env} {H : Heap} : WK S n0 (.scope c) K E H Q ↔ WK S n0 c K E H Q := by
 constructor
 · rintro ⟨y, E1, H1, e, q⟩
   cases e with
   | scope e1 => exact ⟨_, _, _, e1, q⟩
 · intro h
   exact qag2 h
theorem q2f {d : Bool} {l : List AOper} {K : List Fr} {E : Env} {H : Heap} : WK S n0 (.region d l) K E H Q ↔ WL S n0 d l K E H Q := by
 constructor
 · rintro ⟨y, E1, H1, e, q⟩
   cases e with
   | region e1 => exact ⟨_, _, e1, q⟩
 · intro h; exact qael h
theorem q58 {K : List Fr} {E : Env} {H : Heap} : WK S n0 .skip K E H Q ↔ WP S n0 Q K .normal E H := ⟨by rintro ⟨y, E1, H1, e, q⟩; cases e; exact q, qaku⟩
theorem q59 {id : Nat} {K : List Fr} {E : Env} {H : Heap} : WK S n0 (.exit id) K E H Q ↔ WP S n0 Q K (.exit id) E H := ⟨by rintro ⟨y, E1, H1, e, q⟩; cases e; exact q, qakw⟩
theorem q97 {K : List Fr} {E : Env} {H : Heap} : WK S n0 .ret K E H Q ↔ WP S n0 Q K .ret E H := ⟨by rintro ⟨y, E1, H1, e, q⟩; cases e; exact q, qand⟩
theorem q95 {d : Bool} {K : List Fr} {E : Env} {H : Heap} : WL S n0 d [] K E H Q ↔ WP S n0 Q K .normal E H := q94
def qxc (S : AProg) (n0 : Nat) (d : Bool) (dst : Option Nat) (x : X) (xs : List X) (sy : Bool) (l : List AOper) (K : List Fr) (E : Env) (H : Heap) (Q : AX → Env → Heap → Prop) : Prop :=
 qaeh S n0 d dst x xs none sy l E H (fun E H => WP S n0 Q K .normal E H)
def stepL (S : AProg) (n0 : Nat) (d : Bool) (dst : Option Nat) (op : AOp) (gu : Option (Nat × Bool)) (sy : Bool) (l : List AOper) (K : List Fr) (E : Env) (H : Heap) (Q : AX → Env → Heap → Prop) : Prop :=
 match gd ⟨dst, op, gu, sy⟩ E with
 | some false => WL S n0 d l K (put E dst .undef) H Q
 | some true =>
   match op with
   | .call x xs => qxc S n0 d dst x xs sy l K E H Q
   | op =>
     match stp n0 op E H with
     | some (v, H1) => ((d && !sy) = true → H <+: H1) ∧ WL S n0 d l K (put E dst v) H1 Q
     | none => False
 | none => False
theorem qj9 {d : Bool} {dst : Option Nat} {op : AOp} {gu : Option (Nat × Bool)} {sy : Bool} {l : List AOper} {K : List Fr} {E : Env} {H : Heap} : WL S n0 d (⟨dst, op, gu, sy⟩ :: l) K E H Q ↔ stepL S n0 d dst op gu sy l K E H Q := qam8
theorem qaa {d : Bool} {dst : Option Nat} {sy : Bool} {l : List AOper} {K : List Fr} {E : Env} {H : Heap} {x : X} {args caps vs : List V} {xs : List X} {g : Nat} {v : V} (hx : getX E x = .fn g caps)
   (ha : xs.map (getX E) ++ caps = args) (hp : prep S g H args = some (vs, H)) (h : CQ S g vs v) (k : WL S n0 d l K (put E dst v) H Q) : qxc S n0 d dst x xs sy l K E H Q :=
 qxb hx ha hp (h.ct ⟨fun _ => List.prefix_refl H, k⟩)
theorem qup {d : Bool} {dst : Option Nat} {sy : Bool} {l : List AOper} {K : List Fr} {E : Env} {H H1 : Heap} {x : X} {args caps vs : List V} {xs : List X} {g : Nat} (hx : getX E x = .fn g caps)
   (ha : xs.map (getX E) ++ caps = args) (hp : prep S g H args = some (vs, H1)) (h : CT S g vs H1 (fun v H2 => ((d && !sy) = true → H <+: H2) ∧ WL S n0 d l K (put E dst v) H2 Q)) : qxc S n0 d dst x xs sy l K E H Q :=
 qxb hx ha hp h
theorem qcz {c : AC} {K : List Fr} {E : Env} {H : Heap} (I : Nat → Env → Heap → Prop) (k : Nat) (h0 : I k E H)
   (round : ∀ k E H, I k E H → WC S n0 c E H (AX.thn (fun E1 H1 => ∃ j, j < k ∧ I j E1 H1) (fun x E H => WP S n0 Q K x E H))) : WK S n0 (.loop c) K E H Q := qakv I k h0 round
theorem qas {c : AC} {E : Env} {H : Heap} {J : Env → Heap → Prop} {R : AX → Env → Heap → Prop} (h : WK S n0 c [] E H (AX.thn J R)) : WC S n0 c E H (AX.thn J R) := h
theorem q83 {J : Env → Heap → Prop} {R : AX → Env → Heap → Prop} {E : Env} {H : Heap} : AX.thn J R .normal E H ↔ J E H := Iff.rfl
theorem qae4 {J : Env → Heap → Prop} {R : AX → Env → Heap → Prop} {id : Nat} {E : Env} {H : Heap} : AX.thn J R (.exit id) E H ↔ R (.exit id) E H := Iff.rfl
theorem qaiq {J : Env → Heap → Prop} {R : AX → Env → Heap → Prop} {E : Env} {H : Heap} : AX.thn J R .ret E H ↔ R .ret E H := Iff.rfl
theorem qag {g : Nat} {f : AFn} {args : List V} {v : V} (hf : S.fn g = some f)
   (h : ∀ H, WK S H.length f.body [] (E0 args) H (fun x E1 H1 => (x = .normal ∨ x = .ret) ∧ ∃ v0, resV E1 H1 f.results = some v0 ∧ fin f.own H.length H1 v0 = some (v, H))) : CQ S g args v := CQ_of hf h
end
theorem qamo {n : Nat} {H : Heap} {l : List V} : fin false n H (.sl l) = some (.sl l, H.take n) := rfl
theorem qaj6 {n : Nat} {H : Heap} {k : IntKind} {i : Int} : fin false n H (.int k i) = some (.int k i, H.take n) := rfl
theorem qage {n : Nat} {H : Heap} {b : Bool} : fin false n H (.bool b) = some (.bool b, H.take n) := rfl
@[simp] theorem qald {cs : List V} : (V.agg cs).cells = cs := rfl
@[simp] theorem qaio {b : Bool} : (V.bool b).cells = [.bool b] := rfl
@[simp] theorem qalc {k : IntKind} {n : Int} : (V.int k n).cells = [.int k n] := rfl
@[simp] theorem qaln {l : List V} : (V.sl l).cells = [.sl l] := rfl
@[simp] theorem qalb : V.nil.cells = [.nil] := rfl
@[simp] theorem qak9 {b z off len : Nat} : (V.ref b z off len).cells = [.ref b z off len] := rfl
@[simp] theorem qala {b i off : Nat} : (V.ptr b i off).cells = [.ptr b i off] := rfl
@[simp] theorem qalo {g : Nat} {cs : List V} : (V.fn g cs).cells = [.fn g cs] := rfl
@[simp] theorem qanq {cs : List V} : (V.agg cs).isTup = false := rfl
@[simp] theorem qalm {b : Bool} : (V.bool b).isTup = false := rfl
@[simp] theorem qanp {k : IntKind} {n : Int} : (V.int k n).isTup = false := rfl
@[simp] theorem qanz {l : List V} : (V.sl l).isTup = false := rfl
@[simp] theorem qano : V.nil.isTup = false := rfl
@[simp] theorem qanm {b z off len : Nat} : (V.ref b z off len).isTup = false := rfl
@[simp] theorem qann {b i off : Nat} : (V.ptr b i off).isTup = false := rfl
@[simp] theorem qan0 {g : Nat} {cs : List V} : (V.fn g cs).isTup = false := rfl
attribute [simp] qamo qaj6 qage qam6 qam5 q57 q93 WP_blk q96 q4w q4v q2f q58 q59 q97 q95 q83 qae4 qaiq
attribute [simp] getX put qaai E0 AX.outOf binV binI unV natOf qbw qml wrapC V.isNil resV resVs resV1
end Go.Abs
namespace Go.Abs
section
variable {S : AProg} {n0 : Nat} {Q : AX → Env → Heap → Prop}
def WKc (S : AProg) (n0 : Nat) (v : V) (a b : AC) (K : List Fr) (E : Env) (H : Heap) (Q : AX → Env → Heap → Prop) : Prop :=
 match v with
 | .bool true => WK S n0 a K E H Q
 | .bool false => WK S n0 b K E H Q
 | _ => False
theorem qag1 {t : Bool} {a b : AC} {K : List Fr} {E : Env} {H : Heap} : WKc S n0 (.bool t) a b K E H Q ↔ (t = true → WK S n0 a K E H Q) ∧ (t = false → WK S n0 b K E H Q) := by cases t <;> simp [WKc]
theorem qag0 {a b : AC} {K : List Fr} {E : Env} {H : Heap} : WKc S n0 (.bool true) a b K E H Q ↔ WK S n0 a K E H Q := Iff.rfl
theorem qaej {a b : AC} {K : List Fr} {E : Env} {H : Heap} : WKc S n0 (.bool false) a b K E H Q ↔ WK S n0 b K E H Q := Iff.rfl
theorem qaek {x : X} {a b : AC} {K : List Fr} {E : Env} {H : Heap} : WK S n0 (.cond x a b) K E H Q ↔ WKc S n0 (getX E x) a b K E H Q := by
 rw [qoc]; unfold WKc; split <;> simp_all
def stepN (S : AProg) (n0 : Nat) (d : Bool) (dst : Option Nat) (op : AOp) (sy : Bool) (l : List AOper) (K : List Fr) (E : Env) (H : Heap) (Q : AX → Env → Heap → Prop) : Prop :=
 match op with
 | .call x xs => qxc S n0 d dst x xs sy l K E H Q
 | op =>
   match stp n0 op E H with
   | some (v, H1) => ((d && !sy) = true → H <+: H1) ∧ WL S n0 d l K (put E dst v) H1 Q
   | none => False
theorem qakr {d : Bool} {dst : Option Nat} {op : AOp} {sy : Bool} {l : List AOper} {K : List Fr} {E : Env} {H : Heap} :
   WL S n0 d (⟨dst, op, none, sy⟩ :: l) K E H Q ↔ stepN S n0 d dst op sy l K E H Q := qj9
theorem qae0 {E : Env} {t : Nat} {v : V} (h : E t = v) : upd E t v = E := by
 funext i; unfold upd; split
 · rename_i e; rw [e, h]
 · rfl
def WLg (S : AProg) (n0 : Nat) (v : V) (t : Nat) (want d : Bool) (dst : Option Nat) (op : AOp) (sy : Bool) (l : List AOper) (K : List Fr) (E : Env) (H : Heap) (Q : AX → Env → Heap → Prop) : Prop :=
 match v with
 | .bool b => if b = want then stepN S n0 d dst op sy l K (upd E t (.bool b)) H Q else WL S n0 d l K (put (upd E t (.bool b)) dst .undef) H Q
 | .tup _ => WL S n0 d l K (put E dst .undef) H Q
 | _ => False
theorem qakq {d : Bool} {dst : Option Nat} {op : AOp} {sy : Bool} {l : List AOper} {K : List Fr} {E : Env} {H : Heap} {t : Nat} {want : Bool} :
   WL S n0 d (⟨dst, op, some (t, want), sy⟩ :: l) K E H Q ↔ WLg S n0 (E t) t want d dst op sy l K E H Q := by
 rw [qj9]
 unfold stepL WLg gd
 simp only
 cases hv : E t with
 | bool b => cases b <;> cases want <;> (simp only [qae0 hv]; exact Iff.rfl)
 | tup vs => exact Iff.rfl
 | _ => exact Iff.rfl
variable {t : Nat} {d : Bool} {dst : Option Nat} {op : AOp} {sy : Bool} {l : List AOper} {K : List Fr} {E : Env} {H : Heap}
theorem WLg_t {b : Bool} : WLg S n0 (.bool b) t true d dst op sy l K E H Q ↔ (b = true → stepN S n0 d dst op sy l K (upd E t (.bool true)) H Q) ∧ (b = false → WL S n0 d l K (put (upd E t (.bool false)) dst .undef) H Q) := by
 cases b <;> simp [WLg]
theorem WLg_f {b : Bool} : WLg S n0 (.bool b) t false d dst op sy l K E H Q ↔ (b = true → WL S n0 d l K (put (upd E t (.bool true)) dst .undef) H Q) ∧ (b = false → stepN S n0 d dst op sy l K (upd E t (.bool false)) H Q) := by
 cases b <;> simp [WLg]
theorem qam9 : WLg S n0 (.bool true) t true d dst op sy l K E H Q ↔ stepN S n0 d dst op sy l K (upd E t (.bool true)) H Q := Iff.rfl
theorem qanb : WLg S n0 (.bool false) t true d dst op sy l K E H Q ↔ WL S n0 d l K (put (upd E t (.bool false)) dst .undef) H Q := Iff.rfl
theorem qana : WLg S n0 (.bool true) t false d dst op sy l K E H Q ↔ WL S n0 d l K (put (upd E t (.bool true)) dst .undef) H Q := Iff.rfl
theorem qanc : WLg S n0 (.bool false) t false d dst op sy l K E H Q ↔ stepN S n0 d dst op sy l K (upd E t (.bool false)) H Q := Iff.rfl
theorem qakp {want : Bool} {vs : List V} : WLg S n0 (.tup vs) t want d dst op sy l K E H Q ↔ WL S n0 d l K (put E dst .undef) H Q := Iff.rfl
theorem qaei {want : Bool} : WLg S n0 .undef t want d dst op sy l K E H Q ↔ WL S n0 d l K (put E dst .undef) H Q := Iff.rfl
end
theorem WK_up {S : AProg} {n0 : Nat} {Q : AX → Env → Heap → Prop} {c : AC} {K : List Fr} {E : Env} {H : Heap} (I : Nat → Env → Heap → Prop) (n : Nat) (h0 : I 0 E H)
   (round : ∀ i E H, i ≤ n → I i E H → WK S n0 c [] E H (AX.thn (fun E1 H1 => i < n ∧ I (i + 1) E1 H1) (fun x E H => WP S n0 Q K x E H))) : WK S n0 (.loop c) K E H Q := by
 refine qcz (fun k E H => ∃ i, i + k = n ∧ I i E H) n ⟨0, by omega, h0⟩ ?_
 rintro k E H ⟨i, hi, h⟩
 refine qbp (round i E H (by omega) h) ?_
 intro x E1 H1 hx
 cases x with
 | normal => exact ⟨k - 1, by have := hx.1; omega, i + 1, by have := hx.1; omega, hx.2⟩
 | exit id => exact hx
 | ret => exact hx
theorem q72 {α : Type} (H l : List α) (k : Nat) : (H ++ l)[H.length + k]? = l[k]? := by
 rw [List.getElem?_append_right (by omega)]; congr 1; omega
theorem qac1 {α : Type} (H l : List α) : (H ++ l)[H.length]? = l[0]? := q72 H l 0
theorem qabj {α : Type} (H l : List α) (k : Nat) (v : α) : (H ++ l).set (H.length + k) v = H ++ l.set k v := by
 rw [List.set_append_right _ _ (by omega)]; congr 2; omega
theorem qafi {α : Type} (H l : List α) (v : α) : (H ++ l).set H.length v = H ++ l.set 0 v := qabj H l 0 v
attribute [simp low] qag1 WLg_t WLg_f
attribute [simp] qaek qag0 qaej stepN qakr qakq qam9 qanb qana qanc qakp qaei q72 qac1 qabj qafi
end Go.Abs
namespace Go.Abs
def natV : List Nat → Nat
 | [] => 0
 | x :: l => x + 4294967296 * natV l
def Li (l : List Nat) : Prop := ∀ x ∈ l, x < 4294967296
theorem Li.cons {x : Nat} {l : List Nat} (h : Li (x :: l)) : x < 4294967296 ∧ Li l := ⟨h x (by simp), fun y hy => h y (by simp [hy])⟩
theorem Li.take {l : List Nat} (h : Li l) (n : Nat) : Li (l.take n) := fun x hx => h x (List.mem_of_mem_take hx)
theorem Li.drop {l : List Nat} (h : Li l) (n : Nat) : Li (l.drop n) := fun x hx => h x (List.mem_of_mem_drop hx)
theorem Li.append {l m : List Nat} (h : Li l) (k : Li m) : Li (l ++ m) := fun x hx => (List.mem_append.1 hx).elim (h x) (k x)
theorem qb3 : ∀ (l m : List Nat), natV (l ++ m) = natV l + 4294967296 ^ l.length * natV m
 | [], m => by simp [natV]
 | x :: l, m => by
   simp only [List.cons_append, natV, qb3 l m, List.length_cons, Nat.pow_succ]
   rw [Nat.mul_add, ← Nat.mul_assoc, Nat.mul_comm 4294967296 (4294967296 ^ l.length)]
   omega
theorem qaq : ∀ {l : List Nat}, Li l → natV l < 4294967296 ^ l.length
 | [], _ => by simp [natV]
 | x :: l, h => by
   have h1 := qaq h.cons.2
   have h2 := h.cons.1
   simp only [natV, List.length_cons, Nat.pow_succ]
   omega
theorem qf7 (n : Nat) : natV (List.replicate n 0) = 0 := by
 induction n with
 | zero => rfl
 | succ n ih => simp [List.replicate_succ, natV, ih]
def trimN (l : List Nat) : Nat → Nat
 | 0 => 0
 | n + 1 => if l[n]? = some 0 then trimN l n else n + 1
def trimL (l : List Nat) : List Nat := l.take (trimN l l.length)
theorem q6p (l : List Nat) : ∀ n, trimN l n ≤ n
 | 0 => Nat.le_refl _
 | n + 1 => by unfold trimN; split; exact Nat.le_succ_of_le (q6p l n); exact Nat.le_refl _
theorem qy2 (l : List Nat) : ∀ n, n ≤ l.length → natV (l.take (trimN l n)) = natV (l.take n)
 | 0, _ => by simp [trimN]
 | n + 1, h => by
   unfold trimN
   split
   · rename_i h0
     rw [qy2 l n (by omega), List.take_add_one, h0, qb3]
     simp [natV]
   · rfl
theorem ql4 (l : List Nat) : natV (trimL l) = natV l := by rw [trimL, qy2 l _ (Nat.le_refl _), List.take_length]
theorem Li.trimL {l : List Nat} (h : Li l) : Li (trimL l) := h.take _
def Trim (l : List Nat) : Prop := ∀ x, l.getLast? = some x → x ≠ 0
theorem q2n (l : List Nat) : ∀ n, n ≤ l.length → ∀ m, trimN l n = m + 1 → l[m]? ≠ some 0
 | 0, _, m, h => by simp [trimN] at h
 | n + 1, hn, m, h => by
   unfold trimN at h
   split at h
   · exact q2n l n (by omega) m h
   · rename_i h0
     have : n = m := by omega
     subst this
     exact h0
theorem qpn (l : List Nat) : Trim (trimL l) := by
 intro x hx
 unfold trimL at hx
 have hle := q6p l l.length
 rw [List.getLast?_eq_getElem?, List.length_take, Nat.min_eq_left hle] at hx
 cases hq : trimN l l.length with
 | zero => rw [hq] at hx; simp at hx
 | succ m =>
   rw [hq] at hx
   have h1 := q2n l l.length (Nat.le_refl _) m hq
   have h2 : (l.take (m + 1))[m + 1 - 1]? = l[m]? := by rw [List.getElem?_take]; simp
   rw [h2] at hx
   intro h0
   subst h0
   exact h1 hx
theorem qz1 {l : List Nat} (h : Trim l) : trimL l = l := by
 unfold trimL
 cases hl : l.length with
 | zero => rw [List.eq_nil_of_length_eq_zero hl]; rfl
 | succ n =>
   have h1 : l[n]? ≠ some 0 := by
     intro h0
     exact h 0 (by rw [List.getLast?_eq_getElem?, hl]; exact h0) rfl
   unfold trimN
   rw [if_neg h1, ← hl, List.take_length]
theorem qaca {l : List Nat} (h : Trim l) (hn : l ≠ []) : 4294967296 ^ (l.length - 1) ≤ natV l := by
 obtain ⟨x, hx⟩ : ∃ x, l.getLast? = some x := by
   cases hq : l.getLast? with
   | none => exact absurd (List.getLast?_eq_none_iff.1 hq) hn
   | some x => exact ⟨x, rfl⟩
 have hx0 := h x hx
 have : l = l.dropLast ++ [x] := by
   have := List.dropLast_concat_getLast hn
   rw [List.getLast?_eq_some_getLast hn] at hx
   injection hx with hx
   rw [hx] at this
   exact this.symm
 rw [this, qb3]
 simp only [natV, List.length_append, List.length_dropLast, List.length_singleton, Nat.mul_zero, Nat.add_zero]
 have e : l.length - 1 + 1 - 1 = l.length - 1 := by omega
 rw [e]
 have : 4294967296 ^ (l.length - 1) * 1 ≤ 4294967296 ^ (l.length - 1) * x := Nat.mul_le_mul_left _ (by omega)
 omega
theorem qeq {a b : List Nat} (ha : Li a) (hb : Trim b) (h : a.length < b.length) : natV a < natV b := by
 have h1 := qaq ha
 have h2 := qaca hb (fun e => by rw [e] at h; simp at h)
 have h3 : 4294967296 ^ a.length ≤ 4294967296 ^ (b.length - 1) := Nat.pow_le_pow_right (by omega) (by omega)
 omega
theorem qgt {a b : List Nat} (ha : Li a) {k : Nat} (hka : k < a.length) (hkb : k < b.length) (hd : a.drop (k + 1) = b.drop (k + 1)) (h : a[k] < b[k]) : natV a < natV b := by
 have ea : a = a.take k ++ (a[k] :: a.drop (k + 1)) := by rw [← List.drop_eq_getElem_cons hka, List.take_append_drop]
 have eb : b = b.take k ++ (b[k] :: b.drop (k + 1)) := by rw [← List.drop_eq_getElem_cons hkb, List.take_append_drop]
 have h1 := qaq (ha.take k)
 rw [ea, eb, qb3, qb3]
 simp only [List.length_take, Nat.min_eq_left (Nat.le_of_lt hka), Nat.min_eq_left (Nat.le_of_lt hkb), natV] at h1 ⊢
 rw [hd]
 have h2 : 4294967296 ^ k * (a[k] + 4294967296 * natV (b.drop (k + 1))) + 4294967296 ^ k ≤ 4294967296 ^ k * (b[k] + 4294967296 * natV (b.drop (k + 1))) := by
   rw [← Nat.mul_succ]
   exact Nat.mul_le_mul_left _ (by omega)
 omega
def cmpN (x y : Nat) : Int := if x < y then -1 else if y < x then 1 else 0
end Go.Abs
namespace Go.Abs
attribute [local simp] qoc qj9 stepL gd
def u32 (x : Nat) : V := .int .u32 (x : Int)
def lim (l : List Nat) : V := .sl (l.map u32)
def i64 (n : Int) : V := .int .i64 n
@[simp] theorem qamy {x : Nat} : (u32 x).cells = [u32 x] := rfl
@[simp] theorem qam0 {l : List Nat} : (lim l).cells = [lim l] := rfl
@[simp] theorem qam2 {n : Int} : (i64 n).cells = [i64 n] := rfl
@[simp] theorem qamb {x : Nat} : (u32 x).isTup = false := rfl
@[simp] theorem qamd {l : List Nat} : (lim l).isTup = false := rfl
@[simp] theorem qamf {n : Int} : (i64 n).isTup = false := rfl
theorem qwl : prog.fn qqa = some qeu := by rfl
set_option maxHeartbeats 1000000 in
theorem qcl (l : List Nat) (hl : l.length ≤ 9223372036854775807) : CQ prog qqa [lim l] (lim (trimL l)) := by
 refine qag qwl fun H => ?_
 simp [qeu, lim]
 refine qcz (fun k E H' => H' = H ∧ E 0 = lim l ∧ k ≤ l.length ∧ E 3 = .int .i64 k ∧ trimN l k = trimN l l.length) l.length ?_ ?_
 · simp [lim]
 · rintro n E H' ⟨rfl, h0, hn, h3, ht⟩
   refine qas ?_
   simp only [lim] at h0
   rcases n with _ | n
   · simp [qeb, h0, h3, trimL, ← ht, trimN]
   · have e1 : IntKind.i64.wrap (n : Int) = n := by rw [wrap_i64] <;> omega
     have hlt : n < l.length := by omega
     have p1 : (0 : Int) ≤ (n : Int) + 1 := by omega
     by_cases hx : l[n] = 0
     · simp [qeb, h0, h3, e1, hlt, hx, u32]
       refine ⟨n, by omega, rfl, by omega, rfl, ?_⟩
       rw [← ht, trimN, if_pos (by rw [List.getElem?_eq_getElem hlt, hx])]
     · simp [qeb, h0, h3, e1, hlt, hx, u32, p1, hn]
       rw [trimL, ← ht, trimN, if_neg (by rw [List.getElem?_eq_getElem hlt]; simpa using hx), List.map_take]
@[simp] theorem qaml (H : Heap) (l : List Nat) (vs : List V) : frzVs H (lim l :: vs) = (frzVs H vs).bind fun p => some (lim l :: p.1, p.2) := rfl
@[simp] theorem qamm (H : Heap) (k : IntKind) (n : Int) (vs : List V) : frzVs H (.int k n :: vs) = (frzVs H vs).bind fun p => some (.int k n :: p.1, p.2) := rfl
@[simp] theorem qall (H : Heap) (b : Bool) (vs : List V) : frzVs H (.bool b :: vs) = (frzVs H vs).bind fun p => some (.bool b :: p.1, p.2) := rfl
@[simp] theorem qamk (H : Heap) : frzVs H [] = some ([], H) := rfl
theorem qyb : prog.fn qrp = some qil := by rfl
theorem qu6 (H : Heap) (l : List Nat) : prep prog 111 H [lim l] = some ([lim l], H) := rfl
set_option maxHeartbeats 1000000 in
theorem qxk (a b : List Nat) (ha : a.length ≤ 9223372036854775807) (hb : b.length ≤ 9223372036854775807) (la : Li a) (lb : Li b) : CQ prog qrp [lim a, lim b] (i64 (cmpN (natV a) (natV b))) := by
 refine qag qyb fun H => ?_
 simp
 refine qaa rfl rfl (qu6 H a) (qcl a ha) ?_
 simp
 refine qaa rfl rfl (qu6 H b) (qcl b hb) ?_
 rw [← ql4 a, ← ql4 b]
 have ta := qpn a
 have tb := qpn b
 have la' := la.trimL
 have lb' := lb.trimL
 have hla : (trimL a).length ≤ 9223372036854775807 := by unfold trimL; simp; omega
 generalize trimL a = x at *
 generalize trimL b = y at *
 by_cases hlt : x.length < y.length
 · have h1 : ¬ ((x.length : Int) = (y.length : Int)) := by omega
   have h2 := qeq la' tb hlt
   simp [lim, hlt, h1, cmpN, h2, i64]
 · by_cases hgt : y.length < x.length
   · have h1 : ¬ ((x.length : Int) = (y.length : Int)) := by omega
     have h2 := qeq lb' ta hgt
     have h3 : ¬ natV x < natV y := by omega
     simp [lim, hlt, h1, cmpN, h2, h3, i64]
   · have heq : x.length = y.length := by omega
     simp [lim, heq]
     refine qcz (fun k E H' => H' = H ∧ E 0 = lim x ∧ E 1 = lim y ∧ k ≤ x.length ∧ E 5 = .int .i64 ((k : Int) - 1) ∧ x.drop k = y.drop k) x.length ?_ ?_
     · have e1 : IntKind.i64.wrap ((y.length : Int) - 1) = (y.length : Int) - 1 := by rw [wrap_i64] <;> omega
       have e2 : y.drop x.length = [] := by rw [heq]; exact List.drop_length
       simp [lim, e1, heq]
     · rintro n E H' ⟨rfl, h0, h1, hn, h5, hd⟩
       refine qas ?_
       simp only [lim] at h0 h1
       rcases n with _ | n
       · have e1 : x = y := by simpa using hd
         have e2 : ¬ ((0 : Int) ≤ -1) := by omega
         simp [qdd, h5, e1, cmpN, i64]
       · have e1 : (n + 1 : Int) - 1 = n := by omega
         have hx : n < x.length := by omega
         have hy : n < y.length := by omega
         have p1 : ((0 : Int) ≤ n) := by omega
         by_cases hlt : x[n] < y[n]
         · have h2 := qgt la' hx hy hd hlt
           have h3 : ((x[n] : Int) < (y[n] : Int)) := by omega
           simp [qdd, h0, h1, h5, e1, p1, hx, hy, u32, hlt, cmpN, h2, i64]
         · by_cases hgt : y[n] < x[n]
           · have h2 := qgt lb' hy hx hd.symm hgt
             have h3 : ¬ natV x < natV y := by omega
             simp [qdd, h0, h1, h5, e1, p1, hx, hy, u32, hlt, hgt, cmpN, h2, h3, i64]
           · have e2 : IntKind.i64.wrap ((n : Int) - 1) = (n : Int) - 1 := by rw [wrap_i64] <;> omega
             simp [qdd, h0, h1, h5, e1, p1, hx, hy, u32, hlt, hgt, e2]
             refine ⟨n, by omega, rfl, rfl, by omega, rfl, ?_⟩
             rw [List.drop_eq_getElem_cons hx, List.drop_eq_getElem_cons hy, hd]
             congr 1
             omega
end Go.Abs
namespace Go.Abs
theorem qagd : prog.fn ql9 = some qed := by rfl
def bitL (n : Nat) : Nat := if n = 0 then 0 else Nat.log2 n + 1
theorem qais : ∀ i : Fin 256, str_0[i.val]? = some (UInt8.ofNat (bitL i.val)) := by decide +kernel
theorem q6t {i : Nat} (h : i < 256) : str_0[i]? = some (UInt8.ofNat (bitL i)) := qais ⟨i, h⟩
theorem qaed {i : Nat} (h : i < 256) : bitL i ≤ 8 := by
 have : ∀ i : Fin 256, bitL i.val ≤ 8 := by decide +kernel
 exact this ⟨i, h⟩
theorem qio {n k : Nat} (h : 2 ^ k ≤ n) : bitL n = bitL (n / 2 ^ k) + k := by
 have h0 : 0 < 2 ^ k := Nat.two_pow_pos k
 have h1 : n ≠ 0 := by omega
 have h2 : n / 2 ^ k ≠ 0 := by
   have := (Nat.le_div_iff_mul_le h0 (x := 1) (y := n)).2 (by omega)
   omega
 unfold bitL
 rw [if_neg h1, if_neg h2]
 have : Nat.log2 n = Nat.log2 (n / 2 ^ k) + k := by
   rw [Nat.log2_eq_iff h1]
   have h3 := (Nat.log2_eq_iff h2).1 rfl
   rw [Nat.pow_add, show Nat.log2 (n / 2 ^ k) + k + 1 = (Nat.log2 (n / 2 ^ k) + 1) + k by omega, Nat.pow_add]
   exact ⟨(Nat.le_div_iff_mul_le h0).1 h3.1, (Nat.div_lt_iff_lt_mul h0).1 h3.2⟩
 omega
theorem q56 {n b : Nat} (h0 : n ≠ 0) (h1 : 2 ^ b ≤ n) (h2 : n < 2 ^ (b + 1)) : bitL n = b + 1 := by
 unfold bitL
 rw [if_neg h0, (Nat.log2_eq_iff h0).2 ⟨h1, h2⟩]
theorem qbe {n : Nat} (h : n ≠ 0) : 2 ^ (bitL n - 1) ≤ n ∧ n < 2 ^ bitL n ∧ 0 < bitL n := by
 unfold bitL
 rw [if_neg h]
 have := (Nat.log2_eq_iff h).1 rfl
 exact ⟨this.1, this.2, by omega⟩
theorem pow32 (n : Nat) : 4294967296 ^ n = 2 ^ (32 * n) := by rw [Nat.pow_mul]
theorem q8i {l : List Nat} {t : Nat} (hl : Li l) (ht : t ≠ 0) : bitL (natV (l ++ [t])) = 32 * l.length + bitL t := by
 have h1 := qaq hl
 obtain ⟨h2, h3, h4⟩ := qbe ht
 rw [qb3]
 simp only [natV, Nat.mul_zero, Nat.add_zero]
 rw [pow32] at h1 ⊢
 have e1 : 2 ^ (32 * l.length) * t ≥ 2 ^ (32 * l.length) * 2 ^ (bitL t - 1) := Nat.mul_le_mul_left _ h2
 have e2 : 2 ^ (32 * l.length) * (t + 1) ≤ 2 ^ (32 * l.length) * 2 ^ bitL t := Nat.mul_le_mul_left _ h3
 rw [← Nat.pow_add] at e1 e2
 rw [Nat.mul_add, Nat.mul_one] at e2
 have hp := Nat.two_pow_pos (32 * l.length + (bitL t - 1))
 have := q56 (n := natV l + 2 ^ (32 * l.length) * t) (b := 32 * l.length + (bitL t - 1)) (by omega) (by omega) (by rw [show 32 * l.length + (bitL t - 1) + 1 = 32 * l.length + bitL t by omega]; omega)
 omega
theorem qs0 {t : Nat} (h : t < 4294967296) : bitL t ≤ 32 := by
 unfold bitL
 split
 · omega
 · rename_i h0
   have := (Nat.log2_lt h0 (k := 32)).2 (by omega)
   omega
end Go.Abs
namespace Go.Abs
attribute [local simp] qoc qj9 stepL gd qa6
theorem quh (x k : Nat) : Int.fdiv (x : Int) (k : Int) = ((x / k : Nat) : Int) := by
 rw [Int.fdiv_eq_ediv_of_nonneg _ (by omega)]; rfl
theorem q9s (x : Nat) : Int.fdiv (x : Int) 65536 = ((x / 65536 : Nat) : Int) := quh x 65536
theorem q78 (x : Nat) : Int.fdiv (x : Int) 256 = ((x / 256 : Nat) : Int) := quh x 256
theorem qain {n : Int} (h1 : 0 ≤ n) (h2 : n < 256) : IntKind.wrap .u8 n = n := by
 simp only [IntKind.wrap, IntKind.bits, IntKind.signed]; simp; omega
theorem qaf6 {y : Nat} (h : y < 256) : ((UInt8.ofNat (bitL y)).toNat : Int) = bitL y := by
 have := qaed h
 simp; omega
@[simp] theorem q2c : IntKind.u32.bits = 32 := rfl
@[simp] theorem q8h : IntKind.u64.bits = 64 := rfl
@[simp] theorem qany : IntKind.i64.bits = 64 := rfl
theorem w8 : IntKind.i64.wrap 8 = 8 := by decide
theorem w24 : IntKind.i64.wrap 24 = 24 := by decide
set_option maxHeartbeats 1000000 in
theorem q8x (x : Nat) (hx : x < 4294967296) : CQ prog ql9 [u32 x] (i64 (bitL x)) := by
 refine qag qagd fun H => ?_
 have fin' : ∀ (y k : Nat), y < 256 → k ≤ 24 → bitL x = bitL y + k → IntKind.i64.wrap ((k : Int) + IntKind.i64.wrap (((UInt8.ofNat (bitL y)).toNat : Nat) : Int)) = bitL x := by
   intro y k hy hk he
   have := qaed hy
   rw [qaf6 hy, wrap_i64 (n := (bitL y : Int)) (by omega) (by omega), wrap_i64 (by omega) (by omega), he]
   omega
 have u8' : ∀ y : Nat, y < 256 → IntKind.u8.wrap (y : Int) = y := fun y hy => qain (by omega) (by omega)
 by_cases h1 : x < 65536
 · have e1 : ¬ ((65536 : Int) ≤ x) := by omega
   by_cases h2 : x < 256
   · have e2 : ¬ ((256 : Int) ≤ x) := by omega
     have := fin' x 0 h2 (by omega) rfl
     simp [u32, e1, e2, u8' x h2, q6t h2, i64]
     simpa using this
   · have e2 : ((256 : Int) ≤ x) := by omega
     obtain ⟨y, hy⟩ : ∃ y, y = x / 256 := ⟨_, rfl⟩
     have f1 : Int.fdiv (x : Int) 256 = (y : Int) := by rw [hy]; exact q78 x
     have h3 : y < 256 := by omega
     have := fin' y 8 h3 (by omega) (by rw [hy]; exact qio (k := 8) (by omega))
     simp [u32, e1, e2, f1, w8, u8' _ h3, q6t h3, i64]
     simpa using this
 · have e1 : ((65536 : Int) ≤ x) := by omega
   obtain ⟨y, hy⟩ : ∃ y, y = x / 65536 := ⟨_, rfl⟩
   have f1 : Int.fdiv (x : Int) 65536 = (y : Int) := by rw [hy]; exact q9s x
   have he : bitL x = bitL y + 16 := by rw [hy]; exact qio (k := 16) (by omega)
   by_cases h2 : y < 256
   · have e2 : ¬ ((256 : Int) ≤ y) := by omega
     have := fin' y 16 h2 (by omega) he
     simp [u32, e1, e2, f1, u8' _ h2, q6t h2, i64]
     simpa using this
   · have e2 : ((256 : Int) ≤ y) := by omega
     obtain ⟨z, hz⟩ : ∃ z, z = y / 256 := ⟨_, rfl⟩
     have f2 : Int.fdiv (y : Int) 256 = (z : Int) := by rw [hz]; exact q78 y
     have h3 : z < 256 := by omega
     have he2 : bitL y = bitL z + 8 := by rw [hz]; exact qio (k := 8) (by omega)
     have := fin' z 24 h3 (by omega) (by rw [he, he2])
     simp [u32, e1, e2, f1, f2, w24, u8' _ h3, q6t h3, i64]
     simpa using this
end Go.Abs
namespace Go.Abs
attribute [local simp] qoc qj9 stepL gd
theorem qwm : prog.fn qqb = some qg0 := by rfl
@[simp] theorem qanr (g : Nat) (hg : (prog.fn g).elim true (fun f => !f.raw) = true) (H : Heap) (l : List Nat) : prep prog g H [lim l] = some ([lim l], H) := by
 unfold prep
 cases hq : prog.fn g with
 | none => rfl
 | some f => rw [hq] at hg; simp at hg; simp [hg]
theorem qyh (l : List Nat) : l = [] ∨ ∃ k t, l = k ++ [t] := by
 cases l with
 | nil => exact .inl rfl
 | cons x xs => exact .inr ⟨(x :: xs).dropLast, (x :: xs).getLast (by simp), (List.dropLast_concat_getLast (by simp)).symm⟩
set_option maxHeartbeats 1000000 in
theorem qs6 (a : List Nat) (ha : a.length ≤ 100000000) (la : Li a) : CQ prog qqb [lim a] (i64 (bitL (natV a))) := by
 refine qag qwm fun H => ?_
 simp
 refine qaa rfl rfl (qu6 H a) (qcl a (by omega)) ?_
 rw [← ql4 a]
 have ta := qpn a
 have la' := la.trimL
 have hla : (trimL a).length ≤ 100000000 := by unfold trimL; simp; omega
 generalize trimL a = x at *
 rcases qyh x with rfl | ⟨k, t, rfl⟩
 · simp [lim, natV, bitL, i64]
 · have hk : k.length ≤ 100000000 := by simp at hla; omega
   have ht : t ≠ 0 := ta t (by simp)
   have ht2 : t < 4294967296 := la' t (by simp)
   have lk : Li k := fun y hy => la' y (by simp [hy])
   have e1 : ¬ ((k.length : Int) + 1 = 0) := by omega
   have e2 : IntKind.i64.wrap (k.length : Int) = k.length := by rw [wrap_i64] <;> omega
   have e3 : IntKind.i64.wrap (32 * (k.length : Int)) = 32 * k.length := by rw [wrap_i64] <;> omega
   simp [lim, e1, e2, e3]
   refine qaa rfl rfl (vs := [u32 t]) rfl (q8x t ht2) ?_
   have e4 : IntKind.i64.wrap (32 * (k.length : Int) + bitL t) = bitL (natV (k ++ [t])) := by
     have := qs0 ht2
     rw [q8i lk ht, wrap_i64] <;> omega
   simp [i64, e4]
end Go.Abs
