/- Parts of the proof: FpCode2, FpCode3, FpCode4, FpCode5, FpCode6, FpCode7, FpCode8, FpFuns, FpRules, FpProg, FpStpEq, FpWK, FpWX, FpNum, FpNat, FpLen, FpLen2, FpBits. -/
import Derived.Test.YtnkijamajifgpaaGreatDoorFa
import Derived.Test.YtnkijamajifgpaaGreatDoorF0
namespace Go.Abs
@[simp] def qgw:AFn:=⟨[(.cell 2 true 7)],
 (.seq (.region false [oU 1 3 0,
 oL 2]) (.seq (.seq (.region false [oI 3 3 1,
 oA1 4 51 3,
 oW 5 4]) (.cond (.t 5) (.seq (.region false [oA0 6 107,
 oK 7 2 6 false]) .ret) .skip)) (.seq (.region false [oI 7 3 1,
 oI 8 3 1,
 oP 9 (.build [(.bool false),.nil,(.int .i64 0),(.bool false),.nil,(.int .i64 0),(.bool false)] [(0,3,(.t 7)),(3,3,(.t 8))]),
 oK 7 2 9 false]) .ret))),
 false,false⟩
@[simp] def qir:AFn:=⟨[(.cell 2 true 7)],
 (.seq (.region false [oU 1 3 0,
 oL 2]) (.seq (.region false [oI 3 3 1,
 oI 4 3 1,
 oP 5 (.build [(.bool false),.nil,(.int .i64 0),(.bool false),.nil,(.int .i64 0),(.bool false)] [(0,3,(.t 3)),(3,3,(.t 4))]),
 oK 7 2 5 false]) .ret)),
 false,false⟩
def qc8:AC:=(.seq (.seq (.region false [mV 31 9,
 oO 32 .lss 31 4]) (.cond (.t 32) .skip (.exit 0))) (.seq (.block 1 (.seq (.region true [mV 36 7,
 mV 37 9,
 oV 38 6 36 37,
 oP 39 (.aiaddr 2 3 (.t 38) (.c (.int .i64 0))),
 oI 40 3 39,
 mV 41 7,
 mV 42 9,
 oV 43 6 41 42,
 oP 44 (.aiaddr 2 3 (.t 43) (.c (.int .i64 1))),
 oI 45 3 44,
 mV 46 2,
 oP 47 (.call (.f 203) [(.t 40),(.t 45),(.t 46),(.c (.bool false))]),
 mV 35 47,
 oR 48 0 35,
 oR 49 1 35,
 oM 10,
 oK 3 10 48 true,
 mV 11 49]) (.seq (.region true [mV 51 7,
 mV 52 9,
 oV 53 6 51 52,
 oP 54 (.aiaddr 2 3 (.t 53) (.c (.int .i64 0))),
 oI 55 3 54,
 mV 56 7,
 mV 57 9,
 oV 58 6 56 57,
 oP 59 (.aiaddr 2 3 (.t 58) (.c (.int .i64 1))),
 oI 60 3 59,
 mV 61 2,
 oP 62 (.call (.f 203) [(.t 55),(.t 60),(.t 61),(.c (.bool true))]),
 mV 50 62,
 oR 63 0 50,
 oR 64 1 50,
 oM 12,
 oK 3 12 63 true,
 mV 13 64]) (.seq (.seq (.region false [mV 65 11,
 oO 66 .neq 65 0,
 mV 67 66,
 oE 68 67 13,
 gF 69 67 (.bin .num .neq (.t 68) (.c (.int .i64 0))),
 oX 70 67 69]) (.cond (.t 70) (.seq (.region false [oA0 71 109,
 oK 7 6 71 false]) .ret) .skip)) (.seq (.seq (.region false [mV 72 9,
 oO 73 .eql 72 0]) (.cond (.t 73) (.region false [oI 74 3 10,
 oI 75 3 12,
 oP 76 (.build [(.bool false),.nil,(.int .i64 0),(.bool false),.nil,(.int .i64 0),(.bool false)] [(0,3,(.t 74)),(3,3,(.t 75))]),
 oK 7 8 76 false]) .skip)) (.region true [oQ 77 0 8,
 oI 78 3 77,
 oI 79 3 10,
 oA2 80 93 78 79,
 oQ 81 3 8,
 oI 82 3 81,
 oI 83 3 12,
 oB2 84 92 82 83,
 oP 85 (.build [(.bool false),.nil,(.int .i64 0),(.bool false),.nil,(.int .i64 0),(.bool false)] [(0,3,(.t 80)),(3,3,(.t 84))]),
 oK 7 8 85 true])))))) (.region false [mV 33 9,
 oO 34 .add 33 1,
 mV 9 34])))
@[simp] def qly:AFn:=⟨[(.cell 6 true 7)],
 (.seq (.region false [oU 3 7 0,
 oU 4 7 1,
 oL 6]) (.seq (.seq (.region false [mV 14 2,
 oA1 15 195 14,
 oW 16 15,
 mV 17 16,
 oG 18 17 true 7 3,
 oC1 19 17 108 18,
 gF 20 17 (.un .not (.t 19)),
 oX 21 17 20,
 mV 22 21,
 oG 23 22 true 7 4,
 oC1 24 22 108 23,
 gF 25 22 (.un .not (.t 24)),
 oX 26 22 25]) (.cond (.t 26) (.seq (.region false [oA0 27 109,
 oK 7 6 27 false]) .ret) .skip)) (.seq (.region false [oI 28 7 3,
 oI 29 7 4,
 oA2 30 202 28 29,
 mV 7 30]) (.seq (.region false [oL 8]) (.seq (.seq (.region false [oP 9 (.mv (.c (.int .i64 0)))]) (.block 0 (.loop qc8))) (.seq (.region false [oI 86 7 8,
 oK 7 6 86 false]) .ret)))))),
 false,false⟩
@[simp] def qg2:AFn:=⟨[(.cell 4 true 7)],
 (.seq (.region false [oU 2 7 0,
 oL 4]) (.seq (.region false [oI 6 7 2,
 oA1 7 157 6,
 oL 5,
 oK 7 5 7 false]) (.seq (.region false [oI 8 7 5,
 oI 9 7 5,
 mV 10 1,
 oA3 11 154 8 9 10,
 oK 7 4 11 false]) .ret))),
 false,false⟩
@[simp] def ql3:AFn:=⟨[(.cell 2 true 7)],
 (.seq (.region false [oU 1 7 0,
 oL 2]) (.seq (.seq (.region false [oI 3 7 1,
 oA1 4 108 3,
 oW 5 4]) (.cond (.t 5) (.seq (.region false [oA0 6 109,
 oK 7 2 6 false]) .ret) .skip)) (.seq (.region true [oI 7 7 1,
 oA1 8 167 7,
 oI 9 7 1,
 oB1 10 166 9,
 oP 11 (.build [(.bool false),.nil,(.int .i64 0),(.bool false),.nil,(.int .i64 0),(.bool false)] [(0,3,(.t 8)),(3,3,(.t 10))]),
 oK 7 2 11 true]) .ret))),
 false,false⟩
@[simp] def qiq:AFn:=⟨[(.cell 4 true 7)],
 (.seq (.region false [oU 2 7 0,
 oL 4]) (.seq (.seq (.region false [oI 9 7 2,
 oA1 10 108 9,
 oW 11 10,
 mV 12 11,
 oE 13 12 1,
 gF 14 12 (.bin .num .lss (.t 13) (.c (.int .i64 (-32768)))),
 oX 15 12 14,
 mV 16 15,
 oE 17 16 1,
 gF 18 16 (.bin .num .gtr (.t 17) (.c (.int .i64 32768))),
 oX 19 16 18]) (.cond (.t 19) (.seq (.region false [oA0 20 109,
 oK 7 4 20 false]) .ret) .skip)) (.seq (.region false [oQ 22 0 2,
 oI 23 3 22,
 mV 24 1,
 oA2 25 182 23 24,
 mV 21 25,
 oR 26 0 21,
 oR 27 1 21,
 oM 5,
 oK 3 5 26 false,
 mV 6 27]) (.seq (.region false [oQ 29 3 2,
 oI 30 3 29,
 mV 31 1,
 oA2 32 182 30 31,
 mV 28 32,
 oR 33 0 28,
 oR 34 1 28,
 oM 7,
 oK 3 7 33 false,
 mV 8 34]) (.seq (.region false [oI 35 3 5,
 mV 36 6,
 oI 37 3 7,
 mV 38 8,
 oA4 39 197 35 36 37 38,
 oK 7 4 39 false]) .ret))))),
 false,false⟩
@[simp] def qgt:AFn:=⟨[(.cell 4 true 3),(.tmp 5)],
 (.seq (.region false [oU 2 7 0,
 oM 4,
 oZ 5 false]) (.seq (.seq (.region false [oI 8 7 2,
 oP 9 (.bslice 7 1 (.agg [(.bool false),.nil,(.int .i64 0),(.bool false),.nil,(.int .i64 0),(.bool false)]) [(0,(.t 8))]),
 oA1 10 106 9,
 oW 11 10,
 mV 12 11,
 oE 13 12 1,
 oC1 14 12 186 13,
 gF 15 12 (.un .not (.t 14)),
 oX 16 12 15]) (.cond (.t 16) (.seq (.region false [oP 17 (.build [(.bool false),.nil,(.int .i64 0)] []),
 oK 3 4 17 false,
 oZ 5 false]) .ret) .skip)) (.seq (.region true [oQ 19 3 2,
 oI 20 3 19,
 oQ 21 0 2,
 oI 22 3 21,
 oA1 23 198 22,
 mV 24 1,
 oA3 25 188 20 23 24,
 mV 18 25,
 oR 26 0 18,
 oR 27 1 18,
 oM 6,
 oK 3 6 26 true,
 mV 7 27]) (.seq (.region false [oI 28 3 6,
 mV 29 7,
 oO 30 .eql 29 0,
 oK 3 4 28 false,
 mV 5 30]) .ret)))),
 false,false⟩
@[simp] def ql0:AFn:=⟨[(.cell 2 true 3)],
 (.seq (.region false [oU 1 7 0,
 oM 2]) (.seq (.region true [oQ 3 0 1,
 oI 4 3 3,
 oA1 5 57 4,
 oQ 6 3 1,
 oI 7 3 6,
 oB2 8 92 5 7,
 oK 3 2 8 true]) .ret)),
 false,false⟩
@[simp] def qlz:AFn:=⟨[(.cell 2 true 3)],
 (.seq (.region false [oU 1 7 0,
 oM 2]) (.seq (.seq (.region false [oI 3 7 1,
 oA1 4 174 3,
 oO 5 .eql 4 0]) (.cond (.t 5) (.seq (.region false [oP 6 (.build [(.bool false),.nil,(.int .i64 0)] []),
 oK 3 2 6 false]) .ret) .skip)) (.seq (.region true [oQ 7 0 1,
 oI 8 3 7,
 oQ 9 3 1,
 oI 10 3 9,
 oA1 11 57 10,
 oB2 12 92 8 11,
 oK 3 2 12 true]) .ret))),
 false,false⟩
@[simp] def qif:AFn:=⟨[(.tmp 2)],
 (.seq (.region false [oU 1 7 0,
 oP 2 (.mv (.c (.int .i64 0)))]) (.seq (.block 0 (.seq (.region false [oI 4 7 1,
 oP 5 (.bslice 7 1 (.agg [(.bool false),.nil,(.int .i64 0),(.bool false),.nil,(.int .i64 0),(.bool false)]) [(0,(.t 4))]),
 oA1 6 106 5,
 oW 7 6,
 mV 3 7]) (.cond (.t 3) (.seq (.region false [oP 2 (.mv (.c (.int .i64 0)))]) .ret) (.seq (.region false [oQ 9 0 1,
 oI 10 3 9,
 oA1 11 79 10,
 oO 12 .gtr 11 0,
 mV 8 12]) (.cond (.t 8) (.seq (.region false [oP 2 (.mv (.c (.int .i64 1)))]) .ret) (.seq (.region false [oQ 14 3 1,
 oI 15 3 14,
 oA1 16 79 15,
 oO 17 .lss 16 0,
 mV 13 17]) (.cond (.t 13) (.seq (.region false [oP 2 (.mv (.c (.int .i64 (-1))))]) .ret) .skip))))))) (.seq (.region false [oP 2 (.mv (.c (.int .i64 0)))]) .ret))),
 false,false⟩
@[simp] def qj6:AFn:=⟨[(.tmp 2)],
 (.seq (.region false [oU 1 7 0,
 oP 2 (.mv (.c (.int .i64 0)))]) (.seq (.seq (.region false [oI 3 7 1,
 oA1 4 108 3,
 oW 5 4]) (.cond (.t 5) (.seq (.region false [oP 2 (.mv (.c (.int .i64 0)))]) .ret) .skip)) (.seq (.seq (.region false [oQ 6 0 1,
 oI 7 3 6,
 oA1 8 54 7,
 oO 9 .gtr 8 0]) (.cond (.t 9) (.seq (.region false [oP 2 (.mv (.c (.int .i64 1)))]) .ret) .skip)) (.seq (.seq (.region false [oQ 10 3 1,
 oI 11 3 10,
 oA1 12 54 11,
 oO 13 .lss 12 0]) (.cond (.t 13) (.seq (.region false [oP 2 (.mv (.c (.int .i64 (-1))))]) .ret) .skip)) (.seq (.region false [oP 2 (.mv (.c (.int .i64 0)))]) .ret))))),
 false,false⟩
def qc9:AC:=(.seq (.seq (.region false [mV 36 9,
 oO 37 .lss 36 4]) (.cond (.t 37) .skip (.exit 0))) (.seq (.block 1 (.seq (.region true [mV 41 7,
 mV 42 9,
 oV 43 6 41 42,
 oP 44 (.aiaddr 2 3 (.t 43) (.c (.int .i64 0))),
 oI 45 3 44,
 mV 46 7,
 mV 47 9,
 oV 48 6 46 47,
 oP 49 (.aiaddr 2 3 (.t 48) (.c (.int .i64 1))),
 oI 50 3 49,
 mV 51 2,
 oP 52 (.call (.f 206) [(.t 45),(.t 50),(.t 51),(.c (.bool false))]),
 mV 40 52,
 oR 53 0 40,
 oR 54 1 40,
 oM 10,
 oK 3 10 53 true,
 mV 11 54]) (.seq (.region true [mV 56 7,
 mV 57 9,
 oV 58 6 56 57,
 oP 59 (.aiaddr 2 3 (.t 58) (.c (.int .i64 0))),
 oI 60 3 59,
 mV 61 7,
 mV 62 9,
 oV 63 6 61 62,
 oP 64 (.aiaddr 2 3 (.t 63) (.c (.int .i64 1))),
 oI 65 3 64,
 mV 66 2,
 oP 67 (.call (.f 206) [(.t 60),(.t 65),(.t 66),(.c (.bool true))]),
 mV 55 67,
 oR 68 0 55,
 oR 69 1 55,
 oM 12,
 oK 3 12 68 true,
 mV 13 69]) (.seq (.seq (.region false [mV 70 11,
 oO 71 .neq 70 0,
 mV 72 71,
 oE 73 72 13,
 gF 74 72 (.bin .num .neq (.t 73) (.c (.int .i64 0))),
 oX 75 72 74]) (.cond (.t 75) (.seq (.region false [oA0 76 109,
 oK 7 6 76 false]) .ret) .skip)) (.seq (.seq (.region false [mV 77 9,
 oO 78 .eql 77 0]) (.cond (.t 78) (.region false [oI 79 3 10,
 oI 80 3 12,
 oP 81 (.build [(.bool false),.nil,(.int .i64 0),(.bool false),.nil,(.int .i64 0),(.bool false)] [(0,3,(.t 79)),(3,3,(.t 80))]),
 oK 7 8 81 false]) .skip)) (.region true [oQ 82 0 8,
 oI 83 3 82,
 oI 84 3 10,
 oA2 85 93 83 84,
 oQ 86 3 8,
 oI 87 3 86,
 oI 88 3 12,
 oB2 89 92 87 88,
 oP 90 (.build [(.bool false),.nil,(.int .i64 0),(.bool false),.nil,(.int .i64 0),(.bool false)] [(0,3,(.t 85)),(3,3,(.t 89))]),
 oK 7 8 90 true])))))) (.region false [mV 38 9,
 oO 39 .add 38 1,
 mV 9 39])))
@[simp] def ql1:AFn:=⟨[(.cell 6 true 7)],
 (.seq (.region false [oU 3 7 0,
 oU 4 7 1,
 oL 6]) (.seq (.seq (.region false [mV 14 2,
 oA1 15 195 14,
 oW 16 15,
 mV 17 16,
 oG 18 17 true 7 3,
 oC1 19 17 108 18,
 gF 20 17 (.un .not (.t 19)),
 oX 21 17 20,
 mV 22 21,
 oG 23 22 true 7 4,
 oC1 24 22 108 23,
 gF 25 22 (.un .not (.t 24)),
 oX 26 22 25,
 mV 27 26,
 oG 28 27 true 7 4,
 oC1 29 27 174 28,
 gF 30 27 (.bin .num .eql (.t 29) (.c (.int .i64 0))),
 oX 31 27 30]) (.cond (.t 31) (.seq (.region false [oA0 32 109,
 oK 7 6 32 false]) .ret) .skip)) (.seq (.region false [oI 33 7 3,
 oI 34 7 4,
 oA2 35 202 33 34,
 mV 7 35]) (.seq (.region false [oL 8]) (.seq (.seq (.region false [oP 9 (.mv (.c (.int .i64 0)))]) (.block 0 (.loop qc9))) (.seq (.region false [oI 91 7 8,
 oK 7 6 91 false]) .ret)))))),
 false,false⟩
@[simp] def qi0:AFn:=⟨[(.cell 4 true 3),(.tmp 5)],
 (.seq (.region false [oU 2 3 0,
 oM 4,
 oP 5 (.mv (.c (.int .i64 0)))]) (.seq (.seq (.region false [oI 6 3 2,
 oA1 7 12 6,
 oW 8 7,
 mV 9 8,
 oE 10 9 1,
 oC1 11 9 214 10,
 gF 12 9 (.un .not (.t 11)),
 oX 13 9 12]) (.cond (.t 13) (.seq (.region false [oP 14 (.build [(.bool false),.nil,(.int .i64 0)] []),
 oK 3 4 14 false,
 oP 5 (.mv (.c (.int .i64 1)))]) .ret) .skip)) (.seq (.region false [oQ 15 0 2,
 oJ 16 15,
 oQ 17 1 2,
 oJ 18 17,
 oQ 19 2 2,
 oJ 20 19,
 mV 21 1,
 oN 22 .add 20 21,
 oA3 23 85 16 18 22,
 oA1 24 184 23,
 oR 25 0 24,
 oR 26 1 24,
 oK 3 4 25 false,
 mV 5 26]) .ret))),
 false,false⟩
@[simp] def qf4:AFn:=⟨[(.cell 2 true 3),(.tmp 3)],
 (.seq (.region false [oU 1 3 0,
 oM 2,
 oP 3 (.mv (.c (.int .i64 0)))]) (.seq (.seq (.region false [oI 4 3 1,
 oA1 5 12 4,
 oW 6 5]) (.cond (.t 6) (.seq (.region false [oP 7 (.build [(.bool false),.nil,(.int .i64 0)] []),
 oK 3 2 7 false,
 oP 3 (.mv (.c (.int .i64 9)))]) .ret) .skip)) (.seq (.region false [oI 8 3 1,
 oK 3 2 8 false,
 oP 3 (.mv (.c (.int .i64 0)))]) .ret))),
 false,false⟩
@[simp] def qf3:AFn:=⟨[(.cell 4 true 3)],
 (.seq (.region false [oU 2 3 0,
 oU 3 3 1,
 oM 4]) (.seq (.region true [oQ 5 0 2,
 oJ 6 5,
 oQ 7 0 3,
 oJ 8 7,
 oP 9 (.bin .bool .neq (.t 6) (.t 8)),
 oQ 10 1 2,
 oJ 11 10,
 oQ 12 1 3,
 oJ 13 12,
 oA2 14 215 11 13,
 oQ 15 2 2,
 oJ 16 15,
 oQ 17 2 3,
 oJ 18 17,
 oN 19 .add 16 18,
 oB3 20 85 9 14 19,
 oK 3 4 20 true]) .ret)),
 false,false⟩
@[simp] def qd9:AFn:=⟨[(.tmp 2)],
 (.seq (.region false [oZ 2 false]) (.seq (.region false [mV 3 0,
 oO 4 .geq 3 8,
 mV 5 4,
 oF 6 5 0,
 gT 7 5 (.bin .num .leq (.t 6) (.c (.int .i64 512))),
 oY 8 5 7,
 mV 2 8]) .ret)),
 false,false⟩
@[simp] def qll:AFn:=⟨[(.cell 6 true 3),(.tmp 7)],
 (.seq (.region false [oU 3 3 0,
 oU 4 3 1,
 oM 6,
 oP 7 (.mv (.c (.int .i64 0)))]) (.seq (.region false [oI 8 3 3,
 oI 9 3 4,
 mV 10 2,
 oP 11 (.call (.f 216) [(.t 8),(.t 9),(.t 10),(.c (.bool true))]),
 oR 12 0 11,
 oR 13 1 11,
 oK 3 6 12 false,
 mV 7 13]) .ret)),
 false,false⟩
@[simp] def qj7:AFn:=⟨[(.tmp 2)],
 (.seq (.region false [oZ 2 false]) (.seq (.region false [mV 3 0,
 oO 4 .geq 3 8,
 mV 5 4,
 oF 6 5 0,
 gT 7 5 (.bin .num .leq (.t 6) (.c (.int .i64 512))),
 oY 8 5 7,
 mV 2 8]) .ret)),
 false,false⟩
@[simp] def ql6:AFn:=⟨[(.cell 8 true 3),(.tmp 9)],
 (.seq (.region false [oU 4 3 0,
 oU 5 3 1,
 oM 8,
 oP 9 (.mv (.c (.int .i64 0)))]) (.seq (.region false [oI 11 3 4,
 oI 12 3 5,
 mV 13 2,
 oA3 14 219 11 12 13,
 mV 10 14]) (.seq (.seq (.region false [mV 15 10,
 oO 16 .neq 15 0]) (.cond (.t 16) (.seq (.region false [oP 17 (.build [(.bool false),.nil,(.int .i64 0)] []),
 mV 18 10,
 oK 3 8 17 false,
 mV 9 18]) .ret) .skip)) (.seq (.region false [oI 19 3 4,
 oI 20 3 5,
 oA2 21 56 19 20,
 mV 22 2,
 mV 23 3,
 oA3 24 220 21 22 23,
 oR 25 0 24,
 oR 26 1 24,
 oK 3 8 25 false,
 mV 9 26]) .ret)))),
 false,false⟩
@[simp] def qj4:AFn:=⟨[(.cell 8 true 7)],
 (.seq (.region false [oU 4 3 0,
 oU 6 3 2,
 oL 8]) (.seq (.seq (.region false [mV 9 1,
 oO 10 .neq 9 0,
 mV 11 10,
 oE 12 11 3,
 gF 13 11 (.bin .num .neq (.t 12) (.c (.int .i64 0))),
 oX 14 11 13]) (.cond (.t 14) (.seq (.region false [oA0 15 109,
 oK 7 8 15 false]) .ret) .skip)) (.seq (.region false [oI 16 3 4,
 oI 17 3 6,
 oP 18 (.build [(.bool false),.nil,(.int .i64 0),(.bool false),.nil,(.int .i64 0),(.bool false)] [(0,3,(.t 16)),(3,3,(.t 17))]),
 oK 7 8 18 false]) .ret))),
 false,false⟩
@[simp] def qnm:AFn:=⟨[(.cell 2 true 3)],
 (.seq (.region false [oU 1 3 0,
 oM 2]) (.seq (.seq (.region false [oI 3 3 1,
 oA1 4 51 3,
 oW 5 4,
 mV 6 5,
 gF 7 6 (.faddr 1 (.t 1)),
 oG 8 6 false 1 7,
 gF 9 6 (.len (.t 8)),
 gF 10 6 (.bin .num .eql (.t 9) (.c (.int .i64 0))),
 oX 11 6 10]) (.cond (.t 11) (.seq (.region false [oP 12 (.build [(.bool false),.nil,(.int .i64 0)] []),
 oK 3 2 12 false]) .ret) .skip)) (.seq (.region true [oQ 13 0 1,
 oJ 14 13,
 oW 15 14,
 oQ 16 1 1,
 oJ 17 16,
 oA1 18 221 17,
 oQ 19 2 1,
 oJ 20 19,
 oP 21 (.build [(.bool false),.nil,(.int .i64 0)] [(0,1,(.t 15)),(1,1,(.t 18)),(2,1,(.t 20))]),
 oK 3 2 21 true]) .ret))),
 false,false⟩
@[simp] def qnh:AFn:=⟨[(.cell 4 true 3),(.tmp 5)],
 (.seq (.region false [oU 2 3 0,
 oM 4,
 oP 5 (.mv (.c (.int .i64 0)))]) (.seq (.region false [oI 6 3 2,
 mV 7 1,
 oP 8 (.call (.f 222) [(.t 6),(.t 7),(.c (.bool false))]),
 oR 9 0 8,
 oR 10 1 8,
 oK 3 4 9 false,
 mV 5 10]) .ret)),
 false,false⟩
@[simp] def qq6:AFn:=⟨[(.cell 4 true 3),(.tmp 5)],
 (.seq (.region false [oU 2 3 0,
 oM 4,
 oP 5 (.mv (.c (.int .i64 0)))]) (.seq (.region false [oI 6 3 2,
 mV 7 1,
 oP 8 (.call (.f 222) [(.t 6),(.t 7),(.c (.bool true))]),
 oR 9 0 8,
 oR 10 1 8,
 oK 3 4 9 false,
 mV 5 10]) .ret)),
 false,false⟩
@[simp] def qj5:AFn:=⟨[(.tmp 4)],
 (.seq (.region false [oU 2 7 0,
 oU 3 7 1,
 oP 4 (.mv (.c .nil))]) (.seq (.region false [oQ 5 0 2,
 oI 6 3 5,
 oQ 7 0 3,
 oI 8 3 7,
 oP 9 (.build [(.bool false),.nil,(.int .i64 0),(.bool false),.nil,(.int .i64 0)] [(0,3,(.t 6)),(3,3,(.t 8))]),
 oQ 10 0 2,
 oI 11 3 10,
 oQ 12 3 3,
 oI 13 3 12,
 oP 14 (.build [(.bool false),.nil,(.int .i64 0),(.bool false),.nil,(.int .i64 0)] [(0,3,(.t 11)),(3,3,(.t 13))]),
 oQ 15 3 2,
 oI 16 3 15,
 oQ 17 0 3,
 oI 18 3 17,
 oP 19 (.build [(.bool false),.nil,(.int .i64 0),(.bool false),.nil,(.int .i64 0)] [(0,3,(.t 16)),(3,3,(.t 18))]),
 oQ 20 3 2,
 oI 21 3 20,
 oQ 22 3 3,
 oI 23 3 22,
 oP 24 (.build [(.bool false),.nil,(.int .i64 0),(.bool false),.nil,(.int .i64 0)] [(0,3,(.t 21)),(3,3,(.t 23))]),
 oP 25 (.bslice 6 4 (.agg [(.bool false),.nil,(.int .i64 0),(.bool false),.nil,(.int .i64 0)]) [(0,(.t 9)),(1,(.t 14)),(2,(.t 19)),(3,(.t 24))]),
 mV 4 25]) .ret)),
 false,false⟩
@[simp] def ql4:AFn:=⟨[(.cell 8 true 3),(.tmp 9)],
 (.seq (.region false [oU 4 3 0,
 oU 5 3 1,
 oM 8,
 oP 9 (.mv (.c (.int .i64 0)))]) (.seq (.region false [oI 11 3 4,
 oI 12 3 5,
 mV 13 2,
 oA3 14 219 11 12 13,
 mV 10 14]) (.seq (.seq (.region false [mV 15 10,
 oO 16 .neq 15 0]) (.cond (.t 16) (.seq (.region false [oP 17 (.build [(.bool false),.nil,(.int .i64 0)] []),
 mV 18 10,
 oK 3 8 17 false,
 mV 9 18]) .ret) .skip)) (.seq (.region false [oI 19 3 4,
 oI 20 3 5,
 oA2 21 185 19 20,
 mV 22 2,
 mV 23 3,
 oA3 24 220 21 22 23,
 oR 25 0 24,
 oR 26 1 24,
 oK 3 8 25 false,
 mV 9 26]) .ret)))),
 false,false⟩
@[simp] def qnp:AFn:=⟨[(.cell 2 true 3)],
 (.seq (.region false [oU 1 3 0,
 oM 2]) (.seq (.seq (.region false [oI 3 3 1,
 oA1 4 51 3,
 oW 5 4,
 mV 6 5,
 gF 7 6 (.faddr 1 (.t 1)),
 oG 8 6 false 1 7,
 gF 9 6 (.len (.t 8)),
 gF 10 6 (.bin .num .eql (.t 9) (.c (.int .i64 0))),
 oX 11 6 10]) (.cond (.t 11) (.seq (.region false [oP 12 (.build [(.bool false),.nil,(.int .i64 0)] []),
 oK 3 2 12 false]) .ret) .skip)) (.seq (.region true [oQ 13 1 1,
 oJ 14 13,
 oA1 15 221 14,
 oQ 16 2 1,
 oJ 17 16,
 oP 18 (.build [(.bool false),.nil,(.int .i64 0)] [(1,1,(.t 15)),(2,1,(.t 17))]),
 oK 3 2 18 true]) .ret))),
 false,false⟩
@[simp] def ql5:AFn:=⟨[(.cell 8 true 3),(.tmp 9)],
 (.seq (.region false [oU 4 3 0,
 oU 5 3 1,
 oM 8,
 oP 9 (.mv (.c (.int .i64 0)))]) (.seq (.region false [oI 14 3 4,
 oI 15 3 5,
 mV 16 2,
 oA3 17 219 14 15 16,
 mV 10 17]) (.seq (.seq (.region false [mV 18 10,
 oO 19 .neq 18 0]) (.cond (.t 19) (.seq (.region false [oP 20 (.build [(.bool false),.nil,(.int .i64 0)] []),
 mV 21 10,
 oK 3 8 20 false,
 mV 9 21]) .ret) .skip)) (.seq (.seq (.region false [oQ 22 1 5,
 oJ 23 22,
 oT 24 23,
 oO 25 .eql 24 0]) (.cond (.t 25) (.seq (.region false [oP 26 (.build [(.bool false),.nil,(.int .i64 0)] []),
 oK 3 8 26 false,
 oP 9 (.mv (.c (.int .i64 10)))]) .ret) .skip)) (.seq (.seq (.region false [oQ 27 1 4,
 oJ 28 27,
 oT 29 28,
 oO 30 .eql 29 0]) (.cond (.t 30) (.seq (.region false [oP 31 (.build [(.bool false),.nil,(.int .i64 0)] []),
 oK 3 8 31 false,
 oP 9 (.mv (.c (.int .i64 0)))]) .ret) .skip)) (.seq (.region true [mV 32 2,
 oO 33 .add 32 2,
 oQ 34 1 5,
 oJ 35 34,
 oA1 36 226 35,
 oN 37 .add 33 36,
 oQ 38 1 4,
 oJ 39 38,
 oB1 40 226 39,
 oN 41 .sub 37 40,
 oP 42 (.max (.c (.int .i64 0)) (.t 41)),
 mV 11 42]) (.seq (.region true [oQ 44 1 4,
 oJ 45 44,
 mV 46 11,
 oA2 47 228 45 46,
 oQ 48 1 5,
 oJ 49 48,
 oB2 50 227 47 49,
 mV 43 50,
 oR 51 0 43,
 oR 52 1 43,
 mV 12 51,
 mV 13 52]) (.seq (.region true [oQ 53 0 4,
 oJ 54 53,
 oQ 55 0 5,
 oJ 56 55,
 oP 57 (.bin .bool .neq (.t 54) (.t 56)),
 mV 58 12,
 oQ 59 2 4,
 oJ 60 59,
 oQ 61 2 5,
 oJ 62 61,
 oN 63 .sub 60 62,
 mV 64 11,
 oN 65 .sub 63 64,
 mV 66 13,
 oA1 67 226 66,
 oO 68 .gtr 67 0,
 mV 69 2,
 mV 70 3,
 oB6 71 229 57 58 65 68 69 70,
 oR 72 0 71,
 oR 73 1 71,
 oK 3 8 72 true,
 mV 9 73]) .ret)))))))),
 false,false⟩
@[simp] def qnn:AFn:=⟨[(.cell 2 true 3)],
 (.seq (.region false [oM 2]) (.seq (.region false [mV 4 0,
 oP 5 (.conv .u64 (.t 4)),
 mV 3 5]) (.seq (.seq (.region false [mV 6 0,
 oO 7 .lss 6 0]) (.cond (.t 7) (.region false [mV 8 3,
 oP 9 (.un .neg (.t 8)),
 mV 3 9]) .skip)) (.seq (.region false [mV 10 0,
 oO 11 .lss 10 0,
 mV 12 3,
 oP 13 (.conv .u32 (.t 12)),
 mV 14 3,
 oP 15 (.bin .num .shr (.t 14) (.c (.int .u64 32))),
 oP 16 (.conv .u32 (.t 15)),
 oP 17 (.bslice 1 2 (.int .u32 0) [(0,(.t 13)),(1,(.t 16))]),
 oP 18 (.call (.f 225) [(.t 11),(.t 17),(.c (.int .i64 0))]),
 oK 3 2 18 false]) .ret)))),
 false,false⟩
@[simp] def qfj:AFn:=⟨[(.tmp 2)],
 (.seq (.region false [oZ 2 false]) (.seq (.region false [mV 3 0,
 oP 4 (.bin .num .geq (.t 3) (.c (.int .i64 (-32768)))),
 mV 5 4,
 oF 6 5 0,
 gT 7 5 (.bin .num .leq (.t 6) (.c (.int .i64 32768))),
 oY 8 5 7,
 mV 2 8]) .ret)),
 false,false⟩
def qfi:AC:=(.seq (.seq (.region false [mV 25 8,
 mV 26 1,
 oT 27 26,
 oN 28 .lss 25 27]) (.cond (.t 28) .skip (.exit 2))) (.seq (.block 3 (.seq (.region true [mV 31 0,
 mV 32 6,
 oV 33 1 31 32,
 oJ 34 33,
 oP 35 (.conv .u64 (.t 34)),
 mV 36 1,
 mV 37 8,
 oV 38 1 36 37,
 oJ 39 38,
 oP 40 (.conv .u64 (.t 39)),
 oN 41 .mul 35 40,
 mV 42 5,
 mV 43 6,
 mV 44 8,
 oN 45 .add 43 44,
 oV 46 1 42 45,
 oJ 47 46,
 oP 48 (.conv .u64 (.t 47)),
 oN 49 .add 41 48,
 mV 50 7,
 oN 51 .add 49 50,
 mV 9 51]) (.seq (.region false [mV 52 5,
 mV 53 6,
 mV 54 8,
 oN 55 .add 53 54,
 mV 56 9,
 oP 57 (.bin .num .and (.t 56) (.c (.int .u64 4294967295))),
 oP 58 (.conv .u32 (.t 57)),
 oV 59 1 52 55,
 oK 1 59 58 false]) (.region false [mV 60 9,
 oP 61 (.bin .num .shr (.t 60) (.c (.int .u64 32))),
 mV 7 61])))) (.region false [mV 29 8,
 oO 30 .add 29 1,
 mV 8 30])))
def qfh:AC:=(.seq (.seq (.region false [mV 66 7,
 oP 67 (.bin .num .gtr (.t 66) (.c (.int .u64 0)))]) (.cond (.t 67) .skip (.exit 4))) (.seq (.block 5 (.seq (.region false [mV 70 5,
 mV 71 10,
 oV 72 1 70 71,
 oJ 73 72,
 oP 74 (.conv .u64 (.t 73)),
 mV 75 7,
 oN 76 .add 74 75,
 mV 11 76]) (.seq (.region false [mV 77 5,
 mV 78 10,
 mV 79 11,
 oP 80 (.bin .num .and (.t 79) (.c (.int .u64 4294967295))),
 oP 81 (.conv .u32 (.t 80)),
 oV 82 1 77 78,
 oK 1 82 81 false]) (.region false [mV 83 11,
 oP 84 (.bin .num .shr (.t 83) (.c (.int .u64 32))),
 mV 7 84])))) (.region false [mV 68 10,
 oO 69 .add 68 1,
 mV 10 69])))
def qfg:AC:=(.seq (.seq (.region false [mV 19 6,
 mV 20 0,
 oT 21 20,
 oN 22 .lss 19 21]) (.cond (.t 22) .skip (.exit 0))) (.seq (.block 1 (.seq (.region false [oP 7 (.mv (.c (.int .u64 0)))]) (.seq (.seq (.region false [oP 8 (.mv (.c (.int .i64 0)))]) (.block 2 (.loop qfi))) (.seq (.region false [mV 62 6,
 mV 63 1,
 oT 64 63,
 oN 65 .add 62 64,
 mV 10 65]) (.block 4 (.loop qfh)))))) (.region false [mV 23 6,
 oO 24 .add 23 1,
 mV 6 24])))
@[simp] def qiw:AFn:=⟨[(.tmp 4)],
 (.seq (.region false [oP 4 (.mv (.c .nil))]) (.seq (.region false [mV 12 0,
 oT 13 12,
 mV 14 1,
 oT 15 14,
 oN 16 .add 13 15,
 oO 17 .add 16 1,
 oP 18 (.mkslice 1 4 (.int .u32 0) (.t 17) (.t 17)),
 mV 5 18]) (.seq (.seq (.region false [oP 6 (.mv (.c (.int .i64 0)))]) (.block 0 (.loop qfg))) (.seq (.region false [mV 85 5,
 oA1 86 101 85,
 mV 4 86]) .ret)))),
 false,false⟩
@[simp] def c_round_add:AFn:=⟨[(.cell 8 true 3),(.tmp 9)],
 (.seq (.region false [oU 4 3 0,
 oU 5 3 1,
 oM 8,
 oP 9 (.mv (.c (.int .i64 0)))]) (.seq (.seq (.region false [mV 13 2,
 oI 14 3 4,
 oI 15 3 5,
 oP 16 (.bslice 3 2 (.agg [(.bool false),.nil,(.int .i64 0)]) [(0,(.t 14)),(1,(.t 15))]),
 oA2 17 235 13 16,
 mV 10 17]) (.seq (.region false [mV 18 10,
 oO 19 .neq 18 0]) (.cond (.t 19) (.seq (.region false [oP 20 (.build [(.bool false),.nil,(.int .i64 0)] []),
 mV 21 10,
 oK 3 8 20 false,
 mV 9 21]) .ret) .skip))) (.seq (.block 0 (.seq (.region false [oQ 23 1 4,
 oJ 24 23,
 oT 25 24,
 oO 26 .eql 25 0,
 mV 22 26]) (.cond (.t 22) (.seq (.region false [oI 27 3 5,
 mV 28 2,
 mV 29 3,
 oA3 30 222 27 28 29,
 oR 31 0 30,
 oR 32 1 30,
 oK 3 8 31 false,
 mV 9 32]) .ret) (.seq (.region false [oQ 34 1 5,
 oJ 35 34,
 oT 36 35,
 oO 37 .eql 36 0,
 mV 33 37]) (.cond (.t 33) (.seq (.region false [oI 38 3 4,
 mV 39 2,
 mV 40 3,
 oA3 41 222 38 39 40,
 oR 42 0 41,
 oR 43 1 41,
 oK 3 8 42 false,
 mV 9 43]) .ret) .skip))))) (.seq (.seq (.region true [oI 44 3 4,
 oA1 45 98 44,
 oI 46 3 5,
 oB1 47 98 46,
 oN 48 .lss 45 47]) (.cond (.t 48) (.region false [oI 49 3 5,
 oI 50 3 4,
 oK 3 4 49 false,
 oK 3 5 50 false]) .skip)) (.seq (.region false [oI 52 3 4,
 oI 53 3 5,
 mV 54 2,
 oA3 55 236 52 53 54,
 mV 51 55,
 oR 56 0 51,
 oR 57 1 51,
 oP 11 (.new 3 (.agg [.nil,(.int .i64 0),(.bool false)])),
 oK 3 11 56 false,
 mV 12 57]) (.seq (.seq (.region false [oQ 58 0 11,
 oJ 59 58,
 oT 60 59,
 oO 61 .eql 60 0,
 mV 62 61,
 gT 63 62 (.faddr 2 (.t 11)),
 oH 64 62 false 1 63,
 gT 65 62 (.un .not (.t 64)),
 oY 66 62 65]) (.cond (.t 66) (.seq (.region false [oP 67 (.build [(.bool false),.nil,(.int .i64 0)] []),
 oK 3 8 67 false,
 oP 9 (.mv (.c (.int .i64 0)))]) .ret) .skip)) (.seq (.region false [oQ 68 0 4,
 oJ 69 68,
 mV 70 12,
 oP 71 (.bin .bool .neq (.t 69) (.t 70)),
 oI 72 3 11,
 mV 73 2,
 mV 74 3,
 oA4 75 237 71 72 73 74,
 oR 76 0 75,
 oR 77 1 75,
 oK 3 8 76 false,
 mV 9 77]) .ret))))))),
 false,false⟩
@[simp] def qit:AFn:=⟨[(.tmp 6)],
 (.seq (.region false [oU 3 3 0,
 oU 4 3 1,
 oP 6 (.mv (.c (.int .i64 0)))]) (.seq (.seq (.region false [oI 7 3 3,
 oA1 8 12 7,
 oW 9 8,
 mV 10 9,
 oG 11 10 true 3 4,
 oC1 12 10 12 11,
 gF 13 10 (.un .not (.t 12)),
 oX 14 10 13]) (.cond (.t 14) (.seq (.region false [oP 6 (.mv (.c (.int .i64 1)))]) .ret) .skip)) (.seq (.seq (.region false [mV 15 2,
 oA1 16 242 15,
 oW 17 16]) (.cond (.t 17) (.seq (.region false [oP 6 (.mv (.c (.int .i64 2)))]) .ret) .skip)) (.seq (.region false [oP 6 (.mv (.c (.int .i64 0)))]) .ret)))),
 false,false⟩
@[simp] def qiu:AFn:=⟨[(.cell 6 true 3),(.tmp 7)],
 (.seq (.region false [oU 3 3 0,
 oM 6,
 oP 7 (.mv (.c (.int .i64 0)))]) (.seq (.region false [oQ 8 0 3,
 oJ 9 8,
 oQ 10 1 3,
 oJ 11 10,
 oQ 12 2 3,
 oJ 13 12,
 mV 14 1,
 mV 15 2,
 oP 16 (.call (.f 229) [(.t 9),(.t 11),(.t 13),(.c (.bool false)),(.t 14),(.t 15)]),
 oR 17 0 16,
 oR 18 1 16,
 oK 3 6 17 false,
 mV 7 18]) .ret)),
 false,false⟩
@[simp] def qdn:AFn:=⟨[(.tmp 2)],
 (.seq (.region false [oP 2 (.mv (.c .nil))]) (.seq (.seq (.region false [mV 3 0,
 oP 4 (.bin .slice .eql (.t 3) (.c .nil))]) (.cond (.t 4) (.seq (.region false [oP 2 (.mv (.c .nil))]) .ret) .skip)) (.seq (.region false [oP 5 (.bslice 1 0 (.int .u32 0) []),
 mV 6 0,
 oP 7 (.append 1 4 (.t 5) (.t 6)),
 mV 2 7]) .ret))),
 false,false⟩
@[simp] def qlj:AFn:=⟨[(.cell 6 true 3),(.tmp 7)],
 (.seq (.region false [oU 3 3 0,
 oM 6,
 oP 7 (.mv (.c (.int .i64 0)))]) (.seq (.seq (.region false [mV 9 1,
 oI 10 3 3,
 oP 11 (.bslice 3 1 (.agg [(.bool false),.nil,(.int .i64 0)]) [(0,(.t 10))]),
 oA2 12 235 9 11,
 mV 8 12]) (.seq (.region false [mV 13 8,
 oO 14 .neq 13 0]) (.cond (.t 14) (.seq (.region false [oP 15 (.build [(.bool false),.nil,(.int .i64 0)] []),
 mV 16 8,
 oK 3 6 15 false,
 mV 7 16]) .ret) .skip))) (.seq (.region true [oQ 17 0 3,
 oJ 18 17,
 oI 19 3 3,
 oA1 20 243 19,
 mV 21 1,
 mV 22 2,
 oB4 23 237 18 20 21 22,
 oR 24 0 23,
 oR 25 1 23,
 oK 3 6 24 true,
 mV 7 25]) .ret))),
 false,false⟩
@[simp] def qf6:AFn:=⟨[(.tmp 2)],
 (.seq (.region false [oZ 2 false]) (.seq (.region false [mV 3 0,
 oP 4 (.bin .num .geq (.t 3) (.c (.int .i64 (-32768)))),
 mV 5 4,
 oF 6 5 0,
 gT 7 5 (.bin .num .leq (.t 6) (.c (.int .i64 32768))),
 oY 8 5 7,
 mV 2 8]) .ret)),
 false,false⟩
@[simp] def qhe:AFn:=⟨[(.cell 2 true 3),(.tmp 3)],
 (.seq (.region false [oU 1 3 0,
 oM 2,
 oP 3 (.mv (.c (.int .i64 0)))]) (.seq (.seq (.region false [oI 4 3 1,
 oA1 5 78 4,
 oW 6 5]) (.cond (.t 6) (.seq (.region false [oP 7 (.build [(.bool false),.nil,(.int .i64 0)] []),
 oK 3 2 7 false,
 oP 3 (.mv (.c (.int .i64 9)))]) .ret) .skip)) (.seq (.region false [oI 8 3 1,
 oK 3 2 8 false,
 oP 3 (.mv (.c (.int .i64 0)))]) .ret))),
 false,false⟩
@[simp] def qfk:AFn:=⟨[(.cell 6 true 3)],
 (.seq (.region false [oM 6]) (.seq (.region false [mV 10 1,
 oA1 11 244 10,
 mV 1 11]) (.seq (.seq (.region false [mV 12 1,
 oT 13 12,
 oO 14 .eql 13 0]) (.cond (.t 14) (.seq (.region false [oP 15 (.build [(.bool false),.nil,(.int .i64 0)] []),
 oK 3 6 15 false]) .ret) .skip)) (.seq (.region false [mV 16 1,
 oA1 17 245 16,
 mV 7 17]) (.seq (.region false [mV 19 1,
 mV 20 7,
 oA2 21 246 19 20,
 mV 18 21,
 oR 22 0 18,
 oR 23 1 18,
 mV 8 22,
 mV 9 23]) (.seq (.region false [mV 24 0,
 mV 25 8,
 oA1 26 221 25,
 oA1 27 119 26,
 mV 28 2,
 mV 29 7,
 oN 30 .add 28 29,
 oP 31 (.build [(.bool false),.nil,(.int .i64 0)] [(0,1,(.t 24)),(1,1,(.t 27)),(2,1,(.t 30))]),
 oK 3 6 31 false]) .ret)))))),
 false,false⟩
def qf5:AC:=(.seq (.seq (.region false [mV 24 5,
 oP 25 (.bin .num .gtr (.t 24) (.c (.int .u32 0)))]) (.cond (.t 25) .skip (.exit 2))) (.seq (.block 3 (.region false [mV 28 4,
 oO 29 .add 28 1,
 mV 4 29])) (.region false [mV 26 5,
 oP 27 (.bin .num .shr (.t 26) (.c (.int .u64 1))),
 mV 5 27])))
def qd1:AC:=(.seq (.seq (.region false [mV 9 3,
 oO 10 .geq 9 0]) (.cond (.t 10) .skip (.exit 0))) (.seq (.block 1 (.seq (.region false [mV 13 0,
 mV 14 3,
 oV 15 1 13 14,
 oJ 16 15,
 oP 17 (.bin .num .neq (.t 16) (.c (.int .u32 0)))]) (.cond (.t 17) (.seq (.region false [mV 18 3,
 oP 19 (.bin .num .mul (.c (.int .i64 32)) (.t 18)),
 mV 4 19]) (.seq (.seq (.region false [mV 20 0,
 mV 21 3,
 oV 22 1 20 21,
 oJ 23 22,
 mV 5 23]) (.block 2 (.loop qf5))) (.seq (.region false [mV 30 4,
 mV 2 30]) .ret))) .skip))) (.region false [mV 11 3,
 oO 12 .sub 11 1,
 mV 3 12])))
@[simp] def qki:AFn:=⟨[(.tmp 2)],
 (.seq (.region false [oP 2 (.mv (.c (.int .i64 0)))]) (.seq (.seq (.region false [mV 6 0,
 oT 7 6,
 oO 8 .sub 7 1,
 mV 3 8]) (.block 0 (.loop qd1))) (.seq (.region false [oP 2 (.mv (.c (.int .i64 0)))]) .ret))),
 false,false⟩
def qc1:AC:=(.seq (.seq (.region false [mV 40 10,
 mV 41 7,
 oT 42 41,
 oN 43 .lss 40 42]) (.cond (.t 43) .skip (.exit 2))) (.seq (.block 3 (.seq (.region false [mV 46 7,
 mV 47 10,
 oV 48 1 46 47,
 oJ 49 48,
 mV 11 49]) (.seq (.region false [mV 50 7,
 mV 51 10,
 mV 52 11,
 oP 53 (.bin .num .shl (.t 52) (.c (.int .u64 1))),
 mV 54 9,
 oN 55 .or 53 54,
 oV 56 1 50 51,
 oK 1 56 55 false]) (.region false [mV 57 11,
 oP 58 (.bin .num .shr (.t 57) (.c (.int .u64 31))),
 mV 9 58])))) (.region false [mV 44 10,
 oO 45 .add 44 1,
 mV 10 45])))
def qc0:AC:=(.seq (.seq (.region false [mV 62 13,
 mV 63 7,
 oT 64 63,
 oN 65 .lss 62 64]) (.cond (.t 65) .skip (.exit 4))) (.seq (.block 5 (.seq (.region true [mV 68 7,
 mV 69 13,
 oV 70 1 68 69,
 oJ 71 70,
 oP 72 (.conv .u64 (.t 71)),
 oP 73 (.bin .num .add (.t 72) (.c (.int .u64 4294967296))),
 mV 74 1,
 mV 75 13,
 oA2 76 249 74 75,
 oN 77 .sub 73 76,
 mV 78 12,
 oN 79 .sub 77 78,
 mV 14 79]) (.seq (.region false [mV 80 7,
 mV 81 13,
 mV 82 14,
 oP 83 (.bin .num .and (.t 82) (.c (.int .u64 4294967295))),
 oP 84 (.conv .u32 (.t 83)),
 oV 85 1 80 81,
 oK 1 85 84 false]) (.region false [mV 86 14,
 oP 87 (.bin .num .shr (.t 86) (.c (.int .u64 32))),
 oP 88 (.bin .num .sub (.c (.int .u64 1)) (.t 87)),
 mV 12 88])))) (.region false [mV 66 13,
 oO 67 .add 66 1,
 mV 13 67])))
def qeu:AC:=(.seq (.seq (.region false [mV 27 8,
 oO 28 .geq 27 0]) (.cond (.t 28) .skip (.exit 0))) (.seq (.block 1 (.seq (.region false [mV 31 0,
 mV 32 8,
 oO 33 .quo 32 32,
 oV 34 1 31 33,
 oJ 35 34,
 mV 36 8,
 oO 37 .rem 36 32,
 oN 38 .shr 35 37,
 oP 39 (.bin .num .and (.t 38) (.c (.int .u32 1))),
 mV 9 39]) (.seq (.seq (.region false [oP 10 (.mv (.c (.int .i64 0)))]) (.block 2 (.loop qc1))) (.seq (.seq (.region false [mV 59 7,
 mV 60 1,
 oA2 61 248 59 60]) (.cond (.t 61) (.exit 1) .skip)) (.seq (.region false [oP 12 (.mv (.c (.int .u64 0)))]) (.seq (.seq (.region false [oP 13 (.mv (.c (.int .i64 0)))]) (.block 4 (.loop qc0))) (.region true [mV 89 6,
 mV 90 8,
 oO 91 .quo 90 32,
 mV 92 6,
 mV 93 8,
 oO 94 .quo 93 32,
 oV 95 1 92 94,
 oJ 96 95,
 mV 97 8,
 oO 98 .rem 97 32,
 oP 99 (.bin .num .shl (.c (.int .u32 1)) (.t 98)),
 oN 100 .or 96 99,
 oV 101 1 89 91,
 oK 1 101 100 true]))))))) (.region false [mV 29 8,
 oO 30 .sub 29 1,
 mV 8 30])))
@[simp] def qg7:AFn:=⟨[(.tmp 4),(.tmp 5)],
 (.seq (.region false [oP 4 (.mv (.c .nil)),
 oP 5 (.mv (.c .nil))]) (.seq (.region false [mV 15 1,
 oA1 16 247 15,
 mV 1 16]) (.seq (.region false [mV 17 0,
 oT 18 17,
 oP 19 (.mkslice 1 4 (.int .u32 0) (.t 18) (.t 18)),
 mV 6 19]) (.seq (.region false [mV 20 1,
 oT 21 20,
 oO 22 .add 21 1,
 oP 23 (.mkslice 1 4 (.int .u32 0) (.t 22) (.t 22)),
 mV 7 23]) (.seq (.seq (.region false [mV 24 0,
 oA1 25 226 24,
 oO 26 .sub 25 1,
 mV 8 26]) (.block 0 (.loop qeu))) (.seq (.region false [mV 102 6,
 oA1 103 247 102,
 mV 104 7,
 oA1 105 247 104,
 mV 4 103,
 mV 5 105]) .ret)))))),
 false,false⟩
def qg6:AC:=(.seq (.seq (.region false [mV 17 6,
 mV 18 0,
 oT 19 18,
 oN 20 .lss 17 19]) (.cond (.t 20) .skip (.exit 0))) (.seq (.block 1 (.seq (.region false [mV 23 0,
 mV 24 6,
 oV 25 1 23 24,
 oJ 26 25,
 oP 27 (.conv .u64 (.t 26)),
 mV 28 1,
 oO 29 .rem 28 32,
 oN 30 .shl 27 29,
 mV 7 30]) (.seq (.region false [mV 31 5,
 mV 32 6,
 mV 33 1,
 oO 34 .quo 33 32,
 oN 35 .add 32 34,
 mV 36 5,
 mV 37 6,
 mV 38 1,
 oO 39 .quo 38 32,
 oN 40 .add 37 39,
 oV 41 1 36 40,
 oJ 42 41,
 mV 43 7,
 oP 44 (.bin .num .and (.t 43) (.c (.int .u64 4294967295))),
 oP 45 (.conv .u32 (.t 44)),
 oN 46 .or 42 45,
 oV 47 1 31 35,
 oK 1 47 46 false]) (.region false [mV 48 5,
 mV 49 6,
 mV 50 1,
 oO 51 .quo 50 32,
 oN 52 .add 49 51,
 oO 53 .add 52 1,
 mV 54 7,
 oP 55 (.bin .num .shr (.t 54) (.c (.int .u64 32))),
 oP 56 (.conv .u32 (.t 55)),
 oV 57 1 48 53,
 oK 1 57 56 false])))) (.region false [mV 21 6,
 oO 22 .add 21 1,
 mV 6 22])))
@[simp] def qme:AFn:=⟨[(.tmp 4)],
 (.seq (.region false [oP 4 (.mv (.c .nil))]) (.seq (.region false [mV 8 0,
 oA1 9 247 8,
 mV 0 9]) (.seq (.region false [mV 10 1,
 oO 11 .quo 10 32,
 mV 12 0,
 oT 13 12,
 oN 14 .add 11 13,
 oO 15 .add 14 1,
 oP 16 (.mkslice 1 4 (.int .u32 0) (.t 15) (.t 15)),
 mV 5 16]) (.seq (.seq (.region false [oP 6 (.mv (.c (.int .i64 0)))]) (.block 0 (.loop qg6))) (.seq (.region false [mV 58 5,
 oA1 59 247 58,
 mV 4 59]) .ret))))),
 false,false⟩
end Go.Abs
namespace Go.Abs
@[simp] def c_fpref03_Cut:AFn:=⟨[(.cell 12 true 3),(.tmp 13)],
 (.seq (.region false [oM 12,
 oP 13 (.mv (.c (.int .i64 0)))]) (.seq (.region false [mV 18 1,
 oA1 19 247 18,
 mV 1 19]) (.seq (.region false [mV 20 1,
 oA1 21 226 20,
 mV 14 21]) (.seq (.region false [mV 22 14,
 mV 23 4,
 oN 24 .sub 22 23,
 mV 25 2,
 oP 26 (.bin .num .sub (.c (.int .i64 (-16384))) (.t 25)),
 oP 27 (.max3 (.t 24) (.t 26) (.c (.int .i64 0))),
 mV 15 27]) (.seq (.region false [mV 28 1,
 mV 29 15,
 oA2 30 250 28 29,
 mV 16 30]) (.seq (.seq (.region false [mV 31 15,
 oO 32 .gtr 31 0,
 mV 33 32,
 oF 34 33 16,
 oF 35 33 15,
 oD2 36 33 228 34 35,
 oF 37 33 1,
 oD2 38 33 232 36 37,
 gT 39 33 (.bin .num .neq (.t 38) (.c (.int .i64 0))),
 oY 40 33 39]) (.cond (.t 40) (.region false [oZ 3 true]) .skip)) (.seq (.region false [mV 41 0,
 mV 42 5,
 oP 43 (.bin .bool .neq (.t 41) (.t 42)),
 mV 17 43]) (.seq (.seq (.region false [mV 44 3,
 mV 45 44,
 oF 46 45 17,
 oY 47 45 46]) (.cond (.t 47) (.region false [mV 48 16,
 oP 49 (.bslice 1 1 (.int .u32 0) [(0,(.c (.int .u32 1)))]),
 oA2 50 251 48 49,
 mV 16 50]) .skip)) (.seq (.seq (.region false [mV 51 16,
 oA1 52 226 51,
 oO 53 .gtr 52 0,
 mV 54 53,
 oF 55 54 16,
 oD1 56 54 226 55,
 oF 57 54 2,
 gT 58 54 (.bin .num .add (.t 56) (.t 57)),
 oF 59 54 15,
 gT 60 54 (.bin .num .add (.t 58) (.t 59)),
 gT 61 54 (.bin .num .gtr (.t 60) (.c (.int .i64 16384))),
 oY 62 54 61]) (.cond (.t 62) (.seq (.seq (.region false [mV 63 17]) (.cond (.t 63) (.seq (.region false [oP 64 (.build [(.bool false),.nil,(.int .i64 0)] []),
 oK 3 12 64 false,
 oP 13 (.mv (.c (.int .i64 9)))]) .ret) .skip)) (.seq (.region false [mV 65 0,
 mV 66 4,
 oA2 67 252 65 66,
 oK 3 12 67 false,
 oP 13 (.mv (.c (.int .i64 0)))]) .ret)) .skip)) (.seq (.region false [mV 68 0,
 mV 69 16,
 mV 70 2,
 mV 71 15,
 oN 72 .add 70 71,
 oA3 73 85 68 69 72,
 oK 3 12 73 false,
 oP 13 (.mv (.c (.int .i64 0)))]) .ret)))))))))),
 false,false⟩
def qep:AC:=(.seq (.seq (.region false [mV 12 5,
 oO 13 .geq 12 0]) (.cond (.t 13) .skip (.exit 0))) (.seq (.block 1 (.seq (.seq (.region false [mV 16 0,
 mV 17 5,
 oA2 18 249 16 17,
 mV 19 1,
 mV 20 5,
 oA2 21 249 19 20,
 oN 22 .lss 18 21]) (.cond (.t 22) (.seq (.region false [oP 4 (.mv (.c (.int .i64 (-1))))]) .ret) .skip)) (.seq (.region false [mV 23 0,
 mV 24 5,
 oA2 25 249 23 24,
 mV 26 1,
 mV 27 5,
 oA2 28 249 26 27,
 oN 29 .gtr 25 28]) (.cond (.t 29) (.seq (.region false [oP 4 (.mv (.c (.int .i64 1)))]) .ret) .skip)))) (.region false [mV 14 5,
 oO 15 .sub 14 1,
 mV 5 15])))
@[simp] def qmf:AFn:=⟨[(.tmp 4)],
 (.seq (.region false [oP 4 (.mv (.c (.int .i64 0)))]) (.seq (.seq (.region false [mV 6 0,
 oT 7 6,
 mV 8 1,
 oT 9 8,
 oP 10 (.max (.t 7) (.t 9)),
 oO 11 .sub 10 1,
 mV 5 11]) (.block 0 (.loop qep))) (.seq (.region false [oP 4 (.mv (.c (.int .i64 0)))]) .ret))),
 false,true⟩
def qgm:AC:=(.seq (.region false [oN 10 .lss 9 8]) (.seq (.cond (.t 10) .skip (.exit 0)) (.seq (.block 1 (.seq (.region false [oV 11 3 7 9,
 oI 12 3 11,
 oM 6,
 oK 3 6 12 false]) (.seq (.region false [oI 13 3 6,
 oA1 14 51 13,
 oW 15 14]) (.cond (.t 15) (.seq (.region false [oP 4 (.mv (.c (.int .i64 1)))]) .ret) .skip)))) (.region false [oO 16 .add 9 1,
 mV 9 16]))))
@[simp] def qlk:AFn:=⟨[(.tmp 4)],
 (.seq (.region false [oP 4 (.mv (.c (.int .i64 0)))]) (.seq (.seq (.region false [mV 7 1,
 oT 8 7,
 oP 9 (.mv (.c (.int .i64 0)))]) (.block 0 (.loop qgm))) (.seq (.seq (.region false [mV 17 0,
 oA1 18 255 17,
 oW 19 18]) (.cond (.t 19) (.seq (.region false [oP 4 (.mv (.c (.int .i64 2)))]) .ret) .skip)) (.seq (.region false [oP 4 (.mv (.c (.int .i64 0)))]) .ret)))),
 false,false⟩
@[simp] def c_round_sum:AFn:=⟨[(.cell 6 true 3),(.tmp 7)],
 (.seq (.region false [oU 3 3 0,
 oU 4 3 1,
 oP 6 (.new 3 (.agg [.nil,(.int .i64 0),(.bool false)])),
 oZ 7 false]) (.seq (.region true [oQ 18 2 3,
 oJ 19 18,
 oI 20 3 3,
 oA1 21 98 20,
 mV 22 2,
 oN 23 .sub 21 22,
 oO 24 .sub 23 8,
 oP 25 (.min (.t 19) (.t 24)),
 mV 8 25]) (.seq (.seq (.region true [oI 26 3 3,
 oA1 27 98 26,
 oI 28 3 4,
 oB1 29 98 28,
 oN 30 .sub 27 29,
 oO 31 .leq 30 2]) (.cond (.t 31) (.region false [mV 32 8,
 oQ 33 2 4,
 oJ 34 33,
 oP 35 (.min (.t 32) (.t 34)),
 mV 8 35]) .skip)) (.seq (.region false [oQ 36 1 3,
 oJ 37 36,
 oQ 38 2 3,
 oJ 39 38,
 mV 40 8,
 oN 41 .sub 39 40,
 oA2 42 241 37 41,
 mV 9 42]) (.seq (.region false [oP 10 (.mv (.c .nil))]) (.seq (.region false [oZ 11 false]) (.seq (.seq (.region false [oQ 43 2 4,
 oJ 44 43,
 mV 45 8,
 oN 46 .geq 44 45]) (.cond (.t 46) (.region false [oQ 47 1 4,
 oJ 48 47,
 oQ 49 2 4,
 oJ 50 49,
 mV 51 8,
 oN 52 .sub 50 51,
 oA2 53 241 48 52,
 mV 10 53]) (.region false [oQ 55 1 4,
 oJ 56 55,
 mV 57 8,
 oQ 58 2 4,
 oJ 59 58,
 oN 60 .sub 57 59,
 oA2 61 256 56 60,
 mV 54 61,
 oR 62 0 54,
 oR 63 1 54,
 mV 10 62,
 mV 11 63]))) (.seq (.seq (.region false [oQ 64 0 3,
 oJ 65 64,
 oQ 66 0 4,
 oJ 67 66,
 oP 68 (.bin .bool .eql (.t 65) (.t 67))]) (.cond (.t 68) (.seq (.region false [mV 70 9,
 mV 71 10,
 oA2 72 257 70 71,
 mV 69 72,
 oR 73 0 69,
 oR 74 1 69,
 mV 12 73,
 mV 13 74]) (.seq (.region false [mV 75 12,
 mV 76 8,
 mV 77 11,
 oP 78 (.build [.nil,(.int .i64 0),(.bool false)] [(0,1,(.t 75)),(1,1,(.t 76)),(2,1,(.t 77))]),
 oK 3 6 78 false,
 oZ 7 false]) .ret)) .skip)) (.seq (.seq (.region false [mV 79 11]) (.cond (.t 79) (.region false [mV 81 10,
 oP 82 (.bslice 1 1 (.int .u32 0) [(0,(.c (.int .u32 1)))]),
 oA2 83 257 81 82,
 mV 80 83,
 oR 84 0 80,
 oR 85 1 80,
 mV 10 84]) .skip)) (.seq (.seq (.region false [mV 86 9,
 mV 87 10,
 oA2 88 99 86 87,
 oO 89 .lss 88 0]) (.cond (.t 89) (.seq (.region false [mV 91 10,
 mV 92 9,
 oA2 93 258 91 92,
 mV 90 93,
 oR 94 0 90,
 oR 95 1 90,
 mV 14 94,
 mV 15 95]) (.seq (.region false [mV 96 14,
 mV 97 8,
 oP 98 (.build [.nil,(.int .i64 0),(.bool false)] [(0,1,(.t 96)),(1,1,(.t 97)),(2,1,(.c (.bool false)))]),
 oK 3 6 98 false,
 oZ 7 true]) .ret)) .skip)) (.seq (.region false [mV 100 9,
 mV 101 10,
 oA2 102 258 100 101,
 mV 99 102,
 oR 103 0 99,
 oR 104 1 99,
 mV 16 103,
 mV 17 104]) (.seq (.region false [mV 105 16,
 mV 106 8,
 mV 107 11,
 oP 108 (.build [.nil,(.int .i64 0),(.bool false)] [(0,1,(.t 105)),(1,1,(.t 106)),(2,1,(.t 107))]),
 oK 3 6 108 false,
 oZ 7 false]) .ret)))))))))))),
 false,false⟩
@[simp] def qjx:AFn:=⟨[(.cell 8 true 3),(.tmp 9)],
 (.seq (.region false [oU 5 3 1,
 oM 8,
 oP 9 (.mv (.c (.int .i64 0)))]) (.seq (.region false [oI 13 3 5,
 mV 14 2,
 mV 15 3,
 mV 16 0,
 oP 17 (.bin .bool .neq (.t 15) (.t 16)),
 oA3 18 254 13 14 17,
 mV 12 18,
 oR 19 0 12,
 oR 20 1 12,
 oM 10,
 oK 3 10 19 false,
 mV 11 20]) (.seq (.seq (.region false [mV 21 11,
 oO 22 .eql 21 0,
 mV 23 22,
 oF 24 23 0,
 oY 25 23 24]) (.cond (.t 25) (.region false [oI 26 3 10,
 oA1 27 198 26,
 oK 3 10 27 false]) .skip)) (.seq (.region false [oI 28 3 10,
 mV 29 11,
 oK 3 8 28 false,
 mV 9 29]) .ret)))),
 false,false⟩
@[simp] def qlt:AFn:=⟨[(.tmp 4),(.tmp 5)],
 (.seq (.region false [oP 4 (.mv (.c .nil)),
 oP 5 (.mv (.c (.int .i64 0)))]) (.seq (.seq (.region false [mV 6 0,
 mV 7 1,
 oP 8 (.bslice 1 2 .nil [(0,(.t 6)),(1,(.t 7))]),
 oA1 9 114 8]) (.cond (.t 9) (.seq (.region false [oP 4 (.mv (.c .nil)),
 oP 5 (.mv (.c (.int .i64 9)))]) .ret) .skip)) (.seq (.region false [mV 10 0,
 oA1 11 111 10,
 mV 12 1,
 oA1 13 111 12,
 oA2 14 259 11 13,
 oA1 15 115 14,
 oR 16 0 15,
 oR 17 1 15,
 mV 4 16,
 mV 5 17]) .ret))),
 false,false⟩
@[simp] def qgr:AFn:=⟨[(.tmp 4),(.tmp 5),(.tmp 6)],
 (.seq (.region false [oP 4 (.mv (.c .nil)),
 oP 5 (.mv (.c .nil)),
 oP 6 (.mv (.c (.int .i64 0)))]) (.seq (.block 0 (.seq (.region false [mV 10 0,
 mV 11 1,
 oP 12 (.bslice 1 2 .nil [(0,(.t 10)),(1,(.t 11))]),
 oA1 13 114 12,
 mV 9 13]) (.cond (.t 9) (.seq (.region false [oP 4 (.mv (.c .nil)),
 oP 5 (.mv (.c .nil)),
 oP 6 (.mv (.c (.int .i64 9)))]) .ret) (.seq (.region false [mV 15 1,
 oA1 16 111 15,
 oT 17 16,
 oO 18 .eql 17 0,
 mV 14 18]) (.cond (.t 14) (.seq (.region false [oP 4 (.mv (.c .nil)),
 oP 5 (.mv (.c .nil)),
 oP 6 (.mv (.c (.int .i64 10)))]) .ret) .skip))))) (.seq (.region false [mV 20 0,
 mV 21 1,
 oA2 22 260 20 21,
 mV 19 22,
 oR 23 0 19,
 oR 24 1 19,
 mV 7 23,
 mV 8 24]) (.seq (.region false [mV 25 7,
 oA1 26 111 25,
 oA1 27 119 26,
 mV 28 8,
 oA1 29 111 28,
 oA1 30 119 29,
 mV 4 27,
 mV 5 30,
 oP 6 (.mv (.c (.int .i64 0)))]) .ret)))),
 false,false⟩
@[simp] def qo8:AFn:=⟨[(.tmp 4)],
 (.seq (.region false [oP 4 (.mv (.c .nil))]) (.seq (.region false [mV 8 0,
 mV 9 1,
 oA2 10 112 8 9,
 mV 7 10,
 oR 11 0 7,
 oR 12 1 7,
 mV 5 11,
 mV 6 12]) (.seq (.region false [mV 13 5,
 mV 4 13]) .ret))),
 false,false⟩
@[simp] def qj9:AFn:=⟨[(.tmp 2)],
 (.seq (.region false [oZ 2 false]) (.seq (.region false [mV 3 0,
 oO 4 .geq 3 8,
 mV 5 4,
 oF 6 5 0,
 gT 7 5 (.bin .num .leq (.t 6) (.c (.int .i64 512))),
 oY 8 5 7,
 mV 2 8]) .ret)),
 false,false⟩
@[simp] def qq5:AFn:=⟨[(.cell 2 true 3)],
 (.seq (.region false [oU 1 3 0,
 oP 2 (.new 3 (.agg [.nil,(.int .i64 0),(.bool false)]))]) (.seq (.region false [oQ 3 1 1,
 oJ 4 3,
 oQ 5 2 1,
 oJ 6 5,
 oP 7 (.build [.nil,(.int .i64 0),(.bool false)] [(0,1,(.t 4)),(1,1,(.t 6))]),
 oK 3 2 7 false]) .ret)),
 false,false⟩
def qc2:AC:=(.seq (.seq (.region false [mV 6 3,
 oO 7 .gtr 6 0,
 mV 8 7,
 oF 9 8 0,
 oF 10 8 3,
 gT 11 8 (.bin .num .sub (.t 10) (.c (.int .i64 1))),
 gT 12 8 (.iaddr 1 (.t 9) (.t 11)),
 oH 13 8 false 1 12,
 gT 14 8 (.bin .num .eql (.t 13) (.c (.int .u32 0))),
 oY 15 8 14]) (.cond (.t 15) .skip (.exit 0))) (.block 1 (.region false [mV 16 3,
 oO 17 .sub 16 1,
 mV 3 17])))
@[simp] def qha:AFn:=⟨[(.tmp 2)],
 (.seq (.region false [oP 2 (.mv (.c .nil))]) (.seq (.region false [mV 4 0,
 oT 5 4,
 mV 3 5]) (.seq (.block 0 (.loop qc2)) (.seq (.region false [mV 18 0,
 mV 19 3,
 oP 20 (.slice 1 (.t 18) none (some (.t 19)) none),
 mV 2 20]) .ret)))),
 false,false⟩
def qi5:AC:=(.seq (.region false [oN 9 .lss 8 7]) (.seq (.cond (.t 9) .skip (.exit 0)) (.seq (.block 1 (.seq (.region false [oV 10 1 6 8,
 oJ 11 10,
 mV 5 11]) (.seq (.seq (.region false [mV 12 5,
 oP 13 (.bin .num .neq (.t 12) (.c (.int .u32 0)))]) (.cond (.t 13) (.seq (.region false [mV 14 3,
 mV 15 5,
 oA1 16 261 15,
 oN 17 .add 14 16,
 mV 2 17]) .ret) .skip)) (.region false [mV 18 3,
 oO 19 .add 18 32,
 mV 3 19])))) (.region false [oO 20 .add 8 1,
 mV 8 20]))))
@[simp] def qnk:AFn:=⟨[(.tmp 2)],
 (.seq (.region false [oP 2 (.mv (.c (.int .i64 0)))]) (.seq (.region false [oP 3 (.mv (.c (.int .i64 0)))]) (.seq (.seq (.region false [mV 6 0,
 oT 7 6,
 oP 8 (.mv (.c (.int .i64 0)))]) (.block 0 (.loop qi5))) (.seq (.region false [mV 21 3,
 mV 2 21]) .ret)))),
 false,false⟩
@[simp] def qlr:AFn:=⟨[(.tmp 4),(.tmp 5)],
 (.seq (.region false [oP 4 (.mv (.c .nil)),
 oP 5 (.mv (.c (.int .i64 0)))]) (.seq (.block 0 (.seq (.region false [mV 7 0,
 oP 8 (.bslice 1 1 .nil [(0,(.t 7))]),
 oA1 9 114 8,
 mV 6 9]) (.cond (.t 6) (.seq (.region false [oP 4 (.mv (.c .nil)),
 oP 5 (.mv (.c (.int .i64 9)))]) .ret) (.seq (.region false [mV 11 1,
 oO 12 .lss 11 0,
 mV 13 12,
 oE 14 13 1,
 gF 15 13 (.bin .num .gtr (.t 14) (.c (.int .i64 65536))),
 oX 16 13 15,
 mV 10 16]) (.cond (.t 10) (.seq (.region false [oP 4 (.mv (.c .nil)),
 oP 5 (.mv (.c (.int .i64 2)))]) .ret) .skip))))) (.seq (.region false [mV 17 0,
 mV 18 1,
 oA2 19 262 17 18,
 oA1 20 115 19,
 oR 21 0 20,
 oR 22 1 20,
 mV 4 21,
 mV 5 22]) .ret))),
 false,false⟩
def qd0:AC:=(.seq (.seq (.region false [mV 6 3,
 oO 7 .gtr 6 0,
 mV 8 7,
 oF 9 8 0,
 oF 10 8 3,
 gT 11 8 (.bin .num .sub (.t 10) (.c (.int .i64 1))),
 gT 12 8 (.iaddr 1 (.t 9) (.t 11)),
 oH 13 8 false 1 12,
 gT 14 8 (.bin .num .eql (.t 13) (.c (.int .u32 0))),
 oY 15 8 14]) (.cond (.t 15) .skip (.exit 0))) (.block 1 (.region false [mV 16 3,
 oO 17 .sub 16 1,
 mV 3 17])))
@[simp] def qkh:AFn:=⟨[(.tmp 2)],
 (.seq (.region false [oP 2 (.mv (.c .nil))]) (.seq (.region false [mV 4 0,
 oT 5 4,
 mV 3 5]) (.seq (.block 0 (.loop qd0)) (.seq (.region false [oP 18 (.bslice 1 0 (.int .u32 0) []),
 mV 19 0,
 mV 20 3,
 oP 21 (.slice 1 (.t 19) none (some (.t 20)) none),
 oP 22 (.append 1 4 (.t 18) (.t 21)),
 mV 2 22]) .ret)))),
 false,false⟩
@[simp] def qkg:AFn:=⟨[(.tmp 4)],
 (.seq (.region false [oZ 4 false]) (.seq (.region false [mV 5 0,
 mV 6 1,
 oA2 7 232 5 6,
 oO 8 .lss 7 0,
 mV 4 8]) .ret)),
 false,true⟩
@[simp] def qnj:AFn:=⟨[(.tmp 4)],
 (.seq (.region false [oP 4 (.mv (.c (.int .u64 0)))]) (.seq (.seq (.region false [mV 5 1,
 mV 6 0,
 oT 7 6,
 oN 8 .lss 5 7]) (.cond (.t 8) (.seq (.region false [mV 9 0,
 mV 10 1,
 oV 11 1 9 10,
 oJ 12 11,
 oP 13 (.conv .u64 (.t 12)),
 mV 4 13]) .ret) .skip)) (.seq (.region false [oP 4 (.mv (.c (.int .u64 0)))]) .ret))),
 false,true⟩
def qg5:AC:=(.seq (.seq (.region false [mV 10 6,
 mV 11 0,
 oT 12 11,
 oN 13 .lss 10 12]) (.cond (.t 13) .skip (.exit 0))) (.seq (.block 1 (.seq (.region false [mV 16 0,
 mV 17 6,
 oA2 18 249 16 17,
 mV 19 0,
 mV 20 6,
 oO 21 .add 20 1,
 oA2 22 249 19 21,
 oP 23 (.bin .num .shl (.t 22) (.c (.int .u64 32))),
 oN 24 .add 18 23,
 mV 7 24]) (.region false [mV 25 5,
 mV 26 7,
 mV 27 1,
 oO 28 .rem 27 32,
 oN 29 .shr 26 28,
 oP 30 (.bin .num .and (.t 29) (.c (.int .u64 4294967295))),
 oP 31 (.conv .u32 (.t 30)),
 oP 32 (.bslice 1 1 (.int .u32 0) [(0,(.t 31))]),
 oP 33 (.append 1 4 (.t 25) (.t 32)),
 mV 5 33]))) (.region false [mV 14 6,
 oO 15 .add 14 1,
 mV 6 15])))
@[simp] def qmd:AFn:=⟨[(.tmp 4)],
 (.seq (.region false [oP 4 (.mv (.c .nil))]) (.seq (.region false [oP 5 (.mv (.c .nil))]) (.seq (.seq (.region false [mV 8 1,
 oO 9 .quo 8 32,
 mV 6 9]) (.block 0 (.loop qg5))) (.seq (.region false [mV 34 5,
 oA1 35 247 34,
 mV 4 35]) .ret)))),
 false,false⟩
def qeq:AC:=(.seq (.seq (.region false [mV 9 7,
 mV 10 0,
 oT 11 10,
 mV 12 1,
 oT 13 12,
 oP 14 (.max (.t 11) (.t 13)),
 oN 15 .lss 9 14,
 mV 16 15,
 oE 17 16 6,
 gF 18 16 (.bin .num .gtr (.t 17) (.c (.int .u64 0))),
 oX 19 16 18]) (.cond (.t 19) .skip (.exit 0))) (.seq (.block 1 (.seq (.region false [mV 22 0,
 mV 23 7,
 oA2 24 249 22 23,
 mV 25 1,
 mV 26 7,
 oA2 27 249 25 26,
 oN 28 .add 24 27,
 mV 29 6,
 oN 30 .add 28 29,
 mV 8 30]) (.seq (.region false [mV 31 5,
 mV 32 8,
 oP 33 (.bin .num .and (.t 32) (.c (.int .u64 4294967295))),
 oP 34 (.conv .u32 (.t 33)),
 oP 35 (.bslice 1 1 (.int .u32 0) [(0,(.t 34))]),
 oP 36 (.append 1 4 (.t 31) (.t 35)),
 mV 5 36]) (.region false [mV 37 8,
 oP 38 (.bin .num .shr (.t 37) (.c (.int .u64 32))),
 mV 6 38])))) (.region false [mV 20 7,
 oO 21 .add 20 1,
 mV 7 21])))
@[simp] def qmg:AFn:=⟨[(.tmp 4)],
 (.seq (.region false [oP 4 (.mv (.c .nil))]) (.seq (.region false [oP 5 (.mv (.c .nil))]) (.seq (.region false [oP 6 (.mv (.c (.int .u64 0)))]) (.seq (.seq (.region false [oP 7 (.mv (.c (.int .i64 0)))]) (.block 0 (.loop qeq))) (.seq (.region false [mV 39 5,
 oA1 40 247 39,
 mV 4 40]) .ret))))),
 false,false⟩
@[simp] def qfe:AFn:=⟨[(.cell 4 true 3)],
 (.seq (.region false [oM 4]) (.seq (.region false [oP 6 (.bslice 1 1 (.int .u32 0) [(0,(.c (.int .u32 1)))]),
 mV 7 1,
 oA2 8 228 6 7,
 oP 9 (.bslice 1 1 (.int .u32 0) [(0,(.c (.int .u32 1)))]),
 oA2 10 263 8 9,
 mV 5 10]) (.seq (.region false [mV 11 0,
 mV 12 5,
 mV 13 1,
 oP 14 (.bin .num .sub (.c (.int .i64 16384)) (.t 13)),
 oA3 15 85 11 12 14,
 oK 3 4 15 false]) .ret))),
 false,false⟩
def qk6:AC:=(.block 1 (.seq (.region false [mV 23 0,
 mV 24 5,
 oA2 25 260 23 24,
 mV 22 25,
 oR 26 0 22,
 oR 27 1 22,
 mV 6 26,
 mV 7 27]) (.seq (.region false [mV 28 5,
 mV 29 6,
 oA1 30 111 29,
 oA2 31 264 28 30,
 oP 32 (.call (.f 262) [(.t 31),(.c (.int .i64 1))]),
 oA1 33 111 32,
 mV 8 33]) (.seq (.seq (.region false [mV 34 8,
 mV 35 5,
 oA2 36 99 34 35,
 oO 37 .geq 36 0]) (.cond (.t 37) (.seq (.region false [mV 38 5,
 oA1 39 115 38,
 oR 40 0 39,
 oR 41 1 39,
 mV 2 40,
 mV 3 41]) .ret) .skip)) (.region false [mV 42 8,
 mV 5 42])))))
@[simp] def qj0:AFn:=⟨[(.tmp 2),(.tmp 3)],
 (.seq (.region false [oP 2 (.mv (.c .nil)),
 oP 3 (.mv (.c (.int .i64 0)))]) (.seq (.seq (.region false [mV 9 0,
 oP 10 (.bslice 1 1 .nil [(0,(.t 9))]),
 oA1 11 114 10]) (.cond (.t 11) (.seq (.region false [oP 2 (.mv (.c .nil)),
 oP 3 (.mv (.c (.int .i64 9)))]) .ret) .skip)) (.seq (.region false [mV 12 0,
 oA1 13 110 12,
 mV 4 13]) (.seq (.seq (.region false [mV 14 4,
 oO 15 .eql 14 0]) (.cond (.t 15) (.seq (.region false [oP 2 (.mv (.c .nil)),
 oP 3 (.mv (.c (.int .i64 0)))]) .ret) .skip)) (.seq (.region false [oP 16 (.bslice 1 1 (.int .u32 0) [(0,(.c (.int .u32 1)))]),
 mV 17 4,
 oO 18 .add 17 1,
 oO 19 .quo 18 2,
 oA2 20 116 16 19,
 oA1 21 111 20,
 mV 5 21]) (.block 0 (.loop qk6))))))),
 false,false⟩
@[simp] def c_round_cut:AFn:=⟨[(.cell 6 true 3),(.tmp 7)],
 (.seq (.region false [oU 3 3 0,
 oM 6,
 oP 7 (.mv (.c (.int .i64 0)))]) (.seq (.region true [oQ 13 1 3,
 oJ 14 13,
 oQ 15 0 3,
 oJ 16 15,
 oA1 17 110 16,
 oN 18 .add 14 17,
 mV 19 1,
 oN 20 .sub 18 19,
 oP 21 (.max (.t 20) (.c (.int .i64 (-16384)))),
 mV 8 21]) (.seq (.region true [oQ 22 0 3,
 oJ 23 22,
 oQ 24 2 3,
 oJ 25 24,
 mV 9 23,
 mV 10 25]) (.seq (.seq (.region false [oQ 26 1 3,
 oJ 27 26,
 mV 28 8,
 oN 29 .geq 27 28]) (.cond (.t 29) (.region false [oQ 30 0 3,
 oJ 31 30,
 oQ 32 1 3,
 oJ 33 32,
 mV 34 8,
 oN 35 .sub 33 34,
 oA2 36 241 31 35,
 mV 9 36]) (.seq (.region false [oQ 38 0 3,
 oJ 39 38,
 mV 40 8,
 oQ 41 1 3,
 oJ 42 41,
 oN 43 .sub 40 42,
 oA2 44 256 39 43,
 mV 37 44,
 oR 45 0 37,
 oR 46 1 37,
 mV 11 45,
 mV 12 46]) (.region false [mV 47 11,
 mV 48 10,
 mV 49 48,
 oE 50 49 12,
 oX 51 49 50,
 mV 9 47,
 mV 10 51])))) (.seq (.seq (.region false [mV 52 2,
 mV 53 52,
 oF 54 53 10,
 oY 55 53 54]) (.cond (.t 55) (.region false [mV 57 9,
 oP 58 (.bslice 1 1 (.int .u32 0) [(0,(.c (.int .u32 1)))]),
 oA2 59 257 57 58,
 mV 56 59,
 oR 60 0 56,
 oR 61 1 56,
 mV 9 60]) .skip)) (.seq (.seq (.region false [mV 62 9,
 oA1 63 110 62,
 mV 64 8,
 oN 65 .add 63 64,
 oO 66 .gtr 65 16384]) (.cond (.t 66) (.seq (.seq (.region false [mV 67 2]) (.cond (.t 67) (.seq (.region false [oP 68 (.build [(.bool false),.nil,(.int .i64 0)] []),
 oK 3 6 68 false,
 oP 7 (.mv (.c (.int .i64 9)))]) .ret) .skip)) (.seq (.region false [oP 70 (.bslice 1 1 (.int .u32 0) [(0,(.c (.int .u32 1)))]),
 mV 71 1,
 oA2 72 241 70 71,
 oP 73 (.bslice 1 1 (.int .u32 0) [(0,(.c (.int .u32 1)))]),
 oA2 74 258 72 73,
 mV 69 74,
 oR 75 0 69,
 oR 76 1 69,
 mV 9 75]) (.region false [mV 77 1,
 oP 78 (.bin .num .sub (.c (.int .i64 16384)) (.t 77)),
 mV 8 78]))) .skip)) (.seq (.region false [mV 79 9,
 mV 80 8,
 oP 81 (.call (.f 265) [(.c (.bool false)),(.t 79),(.t 80)]),
 oR 82 0 81,
 oR 83 1 81,
 oK 3 6 82 false,
 mV 7 83]) .ret))))))),
 false,false⟩
@[simp] def qh8:AFn:=⟨[(.tmp 2)],
 (.seq (.region false [oZ 2 false]) (.seq (.region false [mV 3 0,
 oO 4 .geq 3 8,
 mV 5 4,
 oF 6 5 0,
 gT 7 5 (.bin .num .leq (.t 6) (.c (.int .i64 512))),
 oY 8 5 7,
 mV 2 8]) .ret)),
 false,false⟩
@[simp] def qo7:AFn:=⟨[(.tmp 4),(.tmp 5)],
 (.seq (.region false [oP 4 (.mv (.c .nil)),
 oZ 5 false]) (.seq (.seq (.region false [mV 8 1,
 mV 9 0,
 oA1 10 110 9,
 oN 11 .gtr 8 10]) (.cond (.t 11) (.region false [mV 12 0,
 oA1 13 110 12,
 mV 1 13]) .skip)) (.seq (.region false [mV 15 0,
 mV 16 1,
 oA2 17 246 15 16,
 mV 14 17,
 oR 18 0 14,
 oR 19 1 14,
 mV 6 18,
 mV 7 19]) (.seq (.region false [mV 20 6,
 mV 21 6,
 mV 22 1,
 oA2 23 241 21 22,
 mV 24 0,
 oA2 25 99 23 24,
 oO 26 .neq 25 0,
 mV 4 20,
 mV 5 26]) .ret)))),
 false,false⟩
@[simp] def qlu:AFn:=⟨[(.tmp 4),(.tmp 5)],
 (.seq (.region false [oP 4 (.mv (.c .nil)),
 oP 5 (.mv (.c (.int .i64 0)))]) (.seq (.seq (.region false [mV 6 0,
 mV 7 1,
 oP 8 (.bslice 1 2 .nil [(0,(.t 6)),(1,(.t 7))]),
 oA1 9 114 8]) (.cond (.t 9) (.seq (.region false [oP 4 (.mv (.c .nil)),
 oP 5 (.mv (.c (.int .i64 9)))]) .ret) .skip)) (.seq (.region false [mV 10 0,
 mV 11 1,
 oA2 12 264 10 11,
 oA1 13 115 12,
 oR 14 0 13,
 oR 15 1 13,
 mV 4 14,
 mV 5 15]) .ret))),
 false,false⟩
@[simp] def qlq:AFn:=⟨[(.tmp 4),(.tmp 5)],
 (.seq (.region false [oP 4 (.mv (.c .nil)),
 oP 5 (.mv (.c (.int .i64 0)))]) (.seq (.block 0 (.seq (.region false [mV 7 0,
 mV 8 1,
 oP 9 (.bslice 1 2 .nil [(0,(.t 7)),(1,(.t 8))]),
 oA1 10 114 9,
 mV 6 10]) (.cond (.t 6) (.seq (.region false [oP 4 (.mv (.c .nil)),
 oP 5 (.mv (.c (.int .i64 9)))]) .ret) (.seq (.region false [mV 12 0,
 mV 13 1,
 oA2 14 99 12 13,
 oO 15 .lss 14 0,
 mV 11 15]) (.cond (.t 11) (.seq (.region false [oP 4 (.mv (.c .nil)),
 oP 5 (.mv (.c (.int .i64 2)))]) .ret) .skip))))) (.seq (.region false [mV 16 0,
 mV 17 1,
 oA2 18 266 16 17,
 oA1 19 115 18,
 oR 20 0 19,
 oR 21 1 19,
 mV 4 20,
 mV 5 21]) .ret))),
 false,false⟩
def qeo:AC:=(.seq (.region false [oN 28 .lss 27 26]) (.seq (.cond (.t 28) .skip (.exit 2)) (.seq (.block 3 (.seq (.region false [mV 29 27,
 oV 30 1 25 27,
 oJ 31 30,
 mV 9 29,
 mV 10 31]) (.seq (.region false [mV 32 7,
 oP 33 (.conv .u64 (.t 32)),
 mV 34 10,
 oP 35 (.conv .u64 (.t 34)),
 oN 36 .mul 33 35,
 mV 37 5,
 mV 38 6,
 mV 39 9,
 oN 40 .add 38 39,
 oV 41 1 37 40,
 oJ 42 41,
 oP 43 (.conv .u64 (.t 42)),
 oN 44 .add 36 43,
 mV 45 8,
 oN 46 .add 44 45,
 mV 11 46]) (.region false [mV 47 5,
 mV 48 6,
 mV 49 9,
 oN 50 .add 48 49,
 mV 51 11,
 oP 52 (.conv .u32 (.t 51)),
 mV 53 11,
 oP 54 (.bin .num .shr (.t 53) (.c (.int .u64 32))),
 oV 55 1 47 50,
 oK 1 55 52 false,
 mV 8 54])))) (.region false [oO 56 .add 27 1,
 mV 27 56]))))
def qgo:AC:=(.seq (.region false [oN 21 .lss 20 19]) (.seq (.cond (.t 21) .skip (.exit 0)) (.seq (.block 1 (.seq (.region false [mV 22 20,
 oV 23 1 18 20,
 oJ 24 23,
 mV 6 22,
 mV 7 24]) (.seq (.region false [oP 8 (.mv (.c (.int .u64 0)))]) (.seq (.seq (.region false [mV 25 1,
 oT 26 25,
 oP 27 (.mv (.c (.int .i64 0)))]) (.block 2 (.loop qeo))) (.region false [mV 57 5,
 mV 58 6,
 mV 59 1,
 oT 60 59,
 oN 61 .add 58 60,
 mV 62 8,
 oP 63 (.conv .u32 (.t 62)),
 oV 64 1 57 61,
 oK 1 64 63 false]))))) (.region false [oO 65 .add 20 1,
 mV 20 65]))))
@[simp] def qlo:AFn:=⟨[(.tmp 4)],
 (.seq (.region false [oP 4 (.mv (.c .nil))]) (.seq (.region false [mV 12 0,
 oT 13 12,
 mV 14 1,
 oT 15 14,
 oN 16 .add 13 15,
 oP 17 (.mkslice 1 4 (.int .u32 0) (.t 16) (.t 16)),
 mV 5 17]) (.seq (.seq (.region false [mV 18 0,
 oT 19 18,
 oP 20 (.mv (.c (.int .i64 0)))]) (.block 0 (.loop qgo))) (.seq (.region false [mV 66 5,
 mV 4 66]) .ret)))),
 false,false⟩
def qib:AC:=(.seq (.seq (.region false [mV 56 9,
 oT 57 56,
 mV 58 0,
 oT 59 58,
 oN 60 .leq 57 59]) (.cond (.t 60) .skip (.exit 0))) (.block 1 (.region false [mV 61 9,
 oP 62 (.bslice 1 1 (.int .u32 0) [(0,(.c (.int .u32 0)))]),
 oP 63 (.append 1 4 (.t 61) (.t 62)),
 mV 9 63])))
def qcy:AC:=(.seq (.region false [oN 126 .lss 125 124]) (.seq (.cond (.t 126) .skip (.exit 4)) (.seq (.block 5 (.seq (.region false [mV 127 125,
 oV 128 1 123 125,
 oJ 129 128,
 mV 16 127,
 mV 17 129]) (.region false [mV 131 9,
 mV 132 13,
 mV 133 16,
 oN 134 .add 132 133,
 mV 135 9,
 mV 136 13,
 mV 137 16,
 oN 138 .add 136 137,
 oV 139 1 135 138,
 oJ 140 139,
 mV 141 17,
 mV 142 15,
 oA3 143 271 140 141 142,
 mV 130 143,
 oR 144 0 130,
 oR 145 1 130,
 oV 146 1 131 134,
 oK 1 146 144 false,
 mV 15 145]))) (.region false [oO 147 .add 125 1,
 mV 125 147]))))
def qcx:AC:=(.seq (.seq (.region false [mV 76 13,
 oO 77 .geq 76 0]) (.cond (.t 77) .skip (.exit 2))) (.seq (.block 3 (.seq (.region true [mV 80 9,
 mV 81 13,
 mV 82 11,
 oN 83 .add 81 82,
 oV 84 1 80 83,
 oJ 85 84,
 mV 86 9,
 mV 87 13,
 mV 88 11,
 oN 89 .add 87 88,
 oO 90 .sub 89 1,
 oV 91 1 86 90,
 oJ 92 91,
 mV 93 9,
 mV 94 13,
 mV 95 11,
 oN 96 .add 94 95,
 oO 97 .sub 96 2,
 oV 98 1 93 97,
 oJ 99 98,
 mV 100 10,
 mV 101 11,
 oO 102 .sub 101 1,
 oV 103 1 100 102,
 oJ 104 103,
 mV 105 10,
 mV 106 11,
 oO 107 .sub 106 2,
 oV 108 1 105 107,
 oJ 109 108,
 oB5 110 269 85 92 99 104 109,
 mV 14 110]) (.seq (.seq (.region false [mV 111 9,
 mV 112 13,
 mV 113 13,
 mV 114 11,
 oN 115 .add 113 114,
 oO 116 .add 115 1,
 oP 117 (.slice 1 (.t 111) (some (.t 112)) (some (.t 116)) none),
 mV 118 10,
 mV 119 14,
 oA3 120 270 117 118 119]) (.cond (.t 120) (.seq (.region false [mV 121 14,
 oP 122 (.bin .num .sub (.t 121) (.c (.int .u64 1))),
 mV 14 122]) (.seq (.region false [oP 15 (.mv (.c (.int .u32 0)))]) (.seq (.seq (.region false [mV 123 10,
 oT 124 123,
 oP 125 (.mv (.c (.int .i64 0)))]) (.block 4 (.loop qcy))) (.region false [mV 148 9,
 mV 149 13,
 mV 150 11,
 oN 151 .add 149 150,
 oV 152 1 148 151,
 oJ 153 152,
 mV 154 15,
 oN 155 .add 153 154,
 oV 156 1 148 151,
 oK 1 156 155 false])))) .skip)) (.region false [mV 157 12,
 mV 158 13,
 mV 159 14,
 oP 160 (.conv .u32 (.t 159)),
 oV 161 1 157 158,
 oK 1 161 160 false])))) (.region false [mV 78 13,
 oO 79 .sub 78 1,
 mV 13 79])))
@[simp] def qgq:AFn:=⟨[(.tmp 4),(.tmp 5)],
 (.seq (.region false [oP 4 (.mv (.c .nil)),
 oP 5 (.mv (.c .nil))]) (.seq (.region false [mV 18 0,
 oA1 19 111 18,
 mV 20 1,
 oA1 21 111 20,
 mV 0 19,
 mV 1 21]) (.seq (.seq (.region false [mV 22 0,
 mV 23 1,
 oA2 24 99 22 23,
 oO 25 .lss 24 0]) (.cond (.t 25) (.seq (.region false [mV 26 0,
 oA1 27 221 26,
 oP 4 (.mv (.c .nil)),
 mV 5 27]) .ret) .skip)) (.seq (.seq (.region false [mV 28 1,
 oT 29 28,
 oO 30 .eql 29 1]) (.cond (.t 30) (.seq (.region false [mV 32 0,
 mV 33 1,
 oP 34 (.iaddr 1 (.t 33) (.c (.int .i64 0))),
 oJ 35 34,
 oA2 36 267 32 35,
 mV 31 36,
 oR 37 0 31,
 oR 38 1 31,
 mV 6 37,
 mV 7 38]) (.seq (.region false [mV 39 6,
 mV 40 7,
 oP 41 (.bslice 1 1 (.int .u32 0) [(0,(.t 40))]),
 mV 4 39,
 mV 5 41]) .ret)) .skip)) (.seq (.region false [mV 42 1,
 mV 43 1,
 oT 44 43,
 oO 45 .sub 44 1,
 oV 46 1 42 45,
 oJ 47 46,
 oA1 48 268 47,
 mV 8 48]) (.seq (.region false [mV 49 0,
 mV 50 8,
 oA2 51 116 49 50,
 mV 52 1,
 mV 53 8,
 oA2 54 116 52 53,
 oA1 55 111 54,
 mV 9 51,
 mV 10 55]) (.seq (.block 0 (.loop qib)) (.seq (.region false [mV 64 10,
 oT 65 64,
 mV 11 65]) (.seq (.region false [mV 66 9,
 oT 67 66,
 mV 68 11,
 oN 69 .sub 67 68,
 oP 70 (.mkslice 1 4 (.int .u32 0) (.t 69) (.t 69)),
 mV 12 70]) (.seq (.seq (.region false [mV 71 9,
 oT 72 71,
 mV 73 11,
 oN 74 .sub 72 73,
 oO 75 .sub 74 1,
 mV 13 75]) (.block 2 (.loop qcx))) (.seq (.region false [mV 162 12,
 mV 163 9,
 mV 164 11,
 oP 165 (.slice 1 (.t 163) none (some (.t 164)) none),
 mV 166 8,
 oA2 167 262 165 166,
 mV 4 162,
 mV 5 167]) .ret))))))))))),
 false,false⟩
@[simp] def qca:AFn:=⟨[(.tmp 2)],
 (.seq (.region false [oP 2 (.mv (.c (.int .i64 0)))]) (.seq (.seq (.region false [mV 3 0,
 oP 4 (.bin .num .eql (.t 3) (.c (.int .u32 0)))]) (.cond (.t 4) (.seq (.region false [oP 2 (.mv (.c (.int .i64 32)))]) .ret) .skip)) (.seq (.region false [mV 5 0,
 mV 6 0,
 oP 7 (.un .neg (.t 6)),
 oN 8 .and 5 7,
 oP 9 (.bin .num .mul (.t 8) (.c (.int .u32 125613361))),
 oP 10 (.bin .num .shr (.t 9) (.c (.int .u64 27))),
 oP 11 (.aiaddr 32 1 (.c (.eptr [(.int .u8 0),(.int .u8 1),(.int .u8 28),(.int .u8 2),(.int .u8 29),(.int .u8 14),(.int .u8 24),(.int .u8 3),(.int .u8 30),(.int .u8 22),(.int .u8 20),(.int .u8 15),(.int .u8 25),(.int .u8 17),(.int .u8 4),(.int .u8 8),(.int .u8 31),(.int .u8 27),(.int .u8 13),(.int .u8 23),(.int .u8 21),(.int .u8 19),(.int .u8 16),(.int .u8 7),(.int .u8 26),(.int .u8 12),(.int .u8 18),(.int .u8 6),(.int .u8 11),(.int .u8 5),(.int .u8 10),(.int .u8 9)])) (.t 10)),
 oJ 12 11,
 oP 13 (.conv .i64 (.t 12)),
 mV 2 13]) .ret))),
 false,false⟩
def qen:AC:=(.seq (.region false [oN 26 .lss 25 24]) (.seq (.cond (.t 26) .skip (.exit 0)) (.seq (.block 1 (.seq (.region false [mV 27 25,
 oV 28 1 23 25,
 oJ 29 28,
 mV 6 27,
 mV 7 29]) (.seq (.region false [mV 30 7,
 oP 31 (.conv .u64 (.t 30)),
 mV 8 31]) (.seq (.seq (.region false [mV 32 6,
 oO 33 .add 32 1,
 mV 34 0,
 oT 35 34,
 oN 36 .lss 33 35]) (.cond (.t 36) (.region false [mV 37 8,
 mV 38 0,
 mV 39 6,
 oO 40 .add 39 1,
 oV 41 1 38 40,
 oJ 42 41,
 oP 43 (.conv .u64 (.t 42)),
 oP 44 (.bin .num .shl (.t 43) (.c (.int .u64 32))),
 oN 45 .or 37 44,
 mV 8 45]) .skip)) (.region false [mV 46 5,
 mV 47 6,
 mV 48 8,
 mV 49 1,
 oO 50 .rem 49 32,
 oN 51 .shr 48 50,
 oP 52 (.conv .u32 (.t 51)),
 oV 53 1 46 47,
 oK 1 53 52 false]))))) (.region false [oO 54 .add 25 1,
 mV 25 54]))))
@[simp] def qln:AFn:=⟨[(.tmp 4)],
 (.seq (.region false [oP 4 (.mv (.c .nil))]) (.seq (.region false [mV 9 0,
 oA1 10 111 9,
 mV 0 10]) (.seq (.seq (.region false [mV 11 1,
 oO 12 .quo 11 32,
 mV 13 0,
 oT 14 13,
 oN 15 .geq 12 14]) (.cond (.t 15) (.seq (.region false [oP 4 (.mv (.c .nil))]) .ret) .skip)) (.seq (.region false [mV 16 0,
 mV 17 1,
 oO 18 .quo 17 32,
 oP 19 (.slice 1 (.t 16) (some (.t 18)) none none),
 mV 0 19]) (.seq (.region false [mV 20 0,
 oT 21 20,
 oP 22 (.mkslice 1 4 (.int .u32 0) (.t 21) (.t 21)),
 mV 5 22]) (.seq (.seq (.region false [mV 23 0,
 oT 24 23,
 oP 25 (.mv (.c (.int .i64 0)))]) (.block 0 (.loop qen))) (.seq (.region false [mV 55 5,
 mV 4 55]) .ret))))))),
 false,false⟩
def qg4:AC:=(.seq (.seq (.region false [mV 9 7,
 mV 10 0,
 oT 11 10,
 oN 12 .lss 9 11]) (.cond (.t 12) .skip (.exit 0))) (.seq (.block 1 (.seq (.region false [mV 15 0,
 mV 16 7,
 oA2 17 249 15 16,
 oP 18 (.bin .num .add (.t 17) (.c (.int .u64 4294967296))),
 mV 19 1,
 mV 20 7,
 oA2 21 249 19 20,
 oN 22 .sub 18 21,
 mV 23 6,
 oN 24 .sub 22 23,
 mV 8 24]) (.seq (.region false [mV 25 5,
 mV 26 8,
 oP 27 (.bin .num .and (.t 26) (.c (.int .u64 4294967295))),
 oP 28 (.conv .u32 (.t 27)),
 oP 29 (.bslice 1 1 (.int .u32 0) [(0,(.t 28))]),
 oP 30 (.append 1 4 (.t 25) (.t 29)),
 mV 5 30]) (.region false [mV 31 8,
 oP 32 (.bin .num .shr (.t 31) (.c (.int .u64 32))),
 oP 33 (.bin .num .sub (.c (.int .u64 1)) (.t 32)),
 mV 6 33])))) (.region false [mV 13 7,
 oO 14 .add 13 1,
 mV 7 14])))
@[simp] def qmc:AFn:=⟨[(.tmp 4)],
 (.seq (.region false [oP 4 (.mv (.c .nil))]) (.seq (.region false [oP 5 (.mv (.c .nil))]) (.seq (.region false [oP 6 (.mv (.c (.int .u64 0)))]) (.seq (.seq (.region false [oP 7 (.mv (.c (.int .i64 0)))]) (.block 0 (.loop qg4))) (.seq (.region false [mV 34 5,
 oA1 35 247 34,
 mV 4 35]) .ret))))),
 false,false⟩
def qc6:AC:=(.seq (.region false [oN 24 .lss 23 22]) (.seq (.cond (.t 24) .skip (.exit 0)) (.seq (.block 1 (.seq (.region false [mV 25 23,
 oV 26 1 21 23,
 oJ 27 26,
 mV 7 25,
 mV 8 27]) (.seq (.region false [oP 9 (.mv (.c (.int .u32 0)))]) (.seq (.seq (.region false [mV 28 7,
 mV 29 1,
 oT 30 29,
 oN 31 .lss 28 30]) (.cond (.t 31) (.region false [mV 32 1,
 mV 33 7,
 oV 34 1 32 33,
 oJ 35 34,
 mV 9 35]) .skip)) (.region false [mV 37 5,
 mV 38 7,
 mV 39 8,
 mV 40 9,
 mV 41 6,
 oA3 42 271 39 40 41,
 mV 36 42,
 oR 43 0 36,
 oR 44 1 36,
 oV 45 1 37 38,
 oK 1 45 43 false,
 mV 6 44]))))) (.region false [oO 46 .add 23 1,
 mV 23 46]))))
@[simp] def qlp:AFn:=⟨[(.tmp 4)],
 (.seq (.region false [oP 4 (.mv (.c .nil))]) (.seq (.seq (.region false [mV 10 0,
 oT 11 10,
 mV 12 1,
 oT 13 12,
 oN 14 .lss 11 13]) (.cond (.t 14) (.region false [mV 15 1,
 mV 16 0,
 mV 0 15,
 mV 1 16]) .skip)) (.seq (.region false [mV 17 0,
 oT 18 17,
 oO 19 .add 18 1,
 oP 20 (.mkslice 1 4 (.int .u32 0) (.t 19) (.t 19)),
 mV 5 20]) (.seq (.region false [oP 6 (.mv (.c (.int .u32 0)))]) (.seq (.seq (.region false [mV 21 0,
 oT 22 21,
 oP 23 (.mv (.c (.int .i64 0)))]) (.block 0 (.loop qc6))) (.seq (.region false [mV 47 5,
 mV 48 0,
 oT 49 48,
 mV 50 6,
 oV 51 1 47 49,
 oK 1 51 50 false]) (.seq (.region false [mV 52 5,
 mV 4 52]) .ret))))))),
 false,false⟩
@[simp] def qmj:AFn:=⟨[(.cell 6 true 3),(.tmp 7)],
 (.seq (.region false [oM 6,
 oP 7 (.mv (.c (.int .i64 0)))]) (.seq (.seq (.region false [mV 8 1,
 oT 9 8,
 oO 10 .gtr 9 256,
 mV 11 10,
 oE 12 11 2,
 oC1 13 11 223 12,
 gF 14 11 (.un .not (.t 13)),
 oX 15 11 14]) (.cond (.t 15) (.seq (.region false [oP 16 (.build [(.bool false),.nil,(.int .i64 0)] []),
 oK 3 6 16 false,
 oP 7 (.mv (.c (.int .i64 1)))]) .ret) .skip)) (.seq (.region false [mV 17 0,
 mV 18 1,
 mV 19 2,
 oA3 20 225 17 18 19,
 oA1 21 224 20,
 oR 22 0 21,
 oR 23 1 21,
 oK 3 6 22 false,
 mV 7 23]) .ret))),
 false,false⟩
def qem:AC:=(.seq (.region false [oN 20 .lss 19 18]) (.seq (.cond (.t 20) .skip (.exit 0)) (.seq (.block 1 (.seq (.region false [mV 21 19,
 oV 22 1 17 19,
 oJ 23 22,
 mV 7 21,
 mV 8 23]) (.seq (.region false [oP 9 (.mv (.c (.int .u32 0)))]) (.seq (.seq (.region false [mV 24 7,
 mV 25 1,
 oT 26 25,
 oN 27 .lss 24 26]) (.cond (.t 27) (.region false [mV 28 1,
 mV 29 7,
 oV 30 1 28 29,
 oJ 31 30,
 mV 9 31]) .skip)) (.region false [mV 33 5,
 mV 34 7,
 mV 35 8,
 mV 36 9,
 mV 37 6,
 oA3 38 272 35 36 37,
 mV 32 38,
 oR 39 0 32,
 oR 40 1 32,
 oV 41 1 33 34,
 oK 1 41 39 false,
 mV 6 40]))))) (.region false [oO 42 .add 19 1,
 mV 19 42]))))
@[simp] def qlm:AFn:=⟨[(.tmp 4)],
 (.seq (.region false [oP 4 (.mv (.c .nil))]) (.seq (.region false [mV 10 0,
 oA1 11 111 10,
 mV 12 1,
 oA1 13 111 12,
 mV 0 11,
 mV 1 13]) (.seq (.region false [mV 14 0,
 oT 15 14,
 oP 16 (.mkslice 1 4 (.int .u32 0) (.t 15) (.t 15)),
 mV 5 16]) (.seq (.region false [oP 6 (.mv (.c (.int .u32 0)))]) (.seq (.seq (.region false [mV 17 0,
 oT 18 17,
 oP 19 (.mv (.c (.int .i64 0)))]) (.block 0 (.loop qem))) (.seq (.region false [mV 43 5,
 mV 4 43]) .ret)))))),
 false,false⟩
def qfb:AC:=(.seq (.seq (.region false [mV 15 8,
 oO 16 .geq 15 0]) (.cond (.t 16) .skip (.exit 0))) (.seq (.block 1 (.region false [mV 20 6,
 mV 21 8,
 mV 22 7,
 mV 23 0,
 mV 24 8,
 oV 25 1 23 24,
 oJ 26 25,
 mV 27 1,
 oA3 28 273 22 26 27,
 mV 19 28,
 oR 29 0 19,
 oR 30 1 19,
 oV 31 1 20 21,
 oK 1 31 29 false,
 mV 7 30])) (.region false [mV 17 8,
 oO 18 .sub 17 1,
 mV 8 18])))
@[simp] def qh9:AFn:=⟨[(.tmp 4),(.tmp 5)],
 (.seq (.region false [oP 4 (.mv (.c .nil)),
 oP 5 (.mv (.c (.int .u32 0)))]) (.seq (.region false [mV 9 0,
 oT 10 9,
 oP 11 (.mkslice 1 4 (.int .u32 0) (.t 10) (.t 10)),
 mV 6 11]) (.seq (.region false [oP 7 (.mv (.c (.int .u32 0)))]) (.seq (.seq (.region false [mV 12 0,
 oT 13 12,
 oO 14 .sub 13 1,
 mV 8 14]) (.block 0 (.loop qfb))) (.seq (.region false [mV 32 6,
 mV 33 7,
 mV 4 32,
 mV 5 33]) .ret))))),
 false,false⟩
@[simp] def qcf:AFn:=⟨[(.tmp 2)],
 (.seq (.region false [oP 2 (.mv (.c (.int .i64 0)))]) (.seq (.region false [mV 3 0,
 oA1 4 113 3,
 oP 5 (.bin .num .sub (.c (.int .i64 32)) (.t 4)),
 mV 2 5]) .ret)),
 false,false⟩
@[simp] def qia:AFn:=⟨[(.tmp 10)],
 (.seq (.region false [oP 10 (.mv (.c (.int .u64 0)))]) (.seq (.seq (.region false [mV 12 0,
 mV 13 3,
 oN 14 .geq 12 13]) (.cond (.t 14) (.seq (.region false [mV 15 0,
 mV 16 3,
 oN 17 .sub 15 16,
 oP 18 (.conv .u64 (.t 17)),
 oP 19 (.bin .num .shl (.t 18) (.c (.int .u64 32))),
 mV 20 1,
 oP 21 (.conv .u64 (.t 20)),
 oN 22 .add 19 21,
 mV 23 3,
 oP 24 (.conv .u64 (.t 23)),
 oN 25 .add 22 24,
 mV 26 2,
 mV 27 3,
 mV 28 4,
 oP 29 (.call (.f 274) [(.c (.int .u64 4294967295)),(.t 25),(.t 26),(.t 27),(.t 28)]),
 mV 10 29]) .ret) .skip)) (.seq (.region false [mV 30 0,
 oP 31 (.conv .u64 (.t 30)),
 oP 32 (.bin .num .shl (.t 31) (.c (.int .u64 32))),
 mV 33 1,
 oP 34 (.conv .u64 (.t 33)),
 oN 35 .or 32 34,
 mV 11 35]) (.seq (.region true [mV 36 11,
 mV 37 3,
 oP 38 (.conv .u64 (.t 37)),
 oN 39 .quo 36 38,
 mV 40 11,
 mV 41 3,
 oP 42 (.conv .u64 (.t 41)),
 oN 43 .rem 40 42,
 mV 44 2,
 mV 45 3,
 mV 46 4,
 oB5 47 274 39 43 44 45 46,
 mV 10 47]) .ret)))),
 false,false⟩
def qdx:AC:=(.seq (.region false [oN 17 .lss 16 15]) (.seq (.cond (.t 17) .skip (.exit 0)) (.seq (.block 1 (.seq (.region false [mV 18 16,
 oV 19 1 14 16,
 oJ 20 19,
 mV 9 18,
 mV 10 20]) (.seq (.region false [mV 21 2,
 mV 22 10,
 oP 23 (.conv .u64 (.t 22)),
 oN 24 .mul 21 23,
 mV 25 7,
 oN 26 .add 24 25,
 mV 11 26]) (.seq (.region false [mV 27 11,
 oP 28 (.bin .num .shr (.t 27) (.c (.int .u64 32))),
 mV 7 28]) (.seq (.region false [mV 29 0,
 mV 30 9,
 oV 31 1 29 30,
 oJ 32 31,
 oP 33 (.conv .u64 (.t 32)),
 mV 34 11,
 oP 35 (.bin .num .and (.t 34) (.c (.int .u64 4294967295))),
 oN 36 .sub 33 35,
 mV 37 8,
 oN 38 .sub 36 37,
 mV 12 38]) (.region false [mV 39 0,
 mV 40 9,
 mV 41 12,
 oP 42 (.conv .u32 (.t 41)),
 mV 43 12,
 oP 44 (.bin .num .shr (.t 43) (.c (.int .u64 63))),
 oV 45 1 39 40,
 oK 1 45 42 false,
 mV 8 44])))))) (.region false [oO 46 .add 16 1,
 mV 16 46]))))
@[simp] def qgc:AFn:=⟨[(.tmp 6)],
 (.seq (.region false [oZ 6 false]) (.seq (.region false [oP 7 (.mv (.c (.int .u64 0))),
 oP 8 (.mv (.c (.int .u64 0)))]) (.seq (.seq (.region false [mV 14 1,
 oT 15 14,
 oP 16 (.mv (.c (.int .i64 0)))]) (.block 0 (.loop qdx))) (.seq (.region false [mV 47 0,
 mV 48 1,
 oT 49 48,
 oV 50 1 47 49,
 oJ 51 50,
 oP 52 (.conv .u64 (.t 51)),
 mV 53 7,
 oN 54 .sub 52 53,
 mV 55 8,
 oN 56 .sub 54 55,
 mV 13 56]) (.seq (.region false [mV 57 0,
 mV 58 1,
 oT 59 58,
 mV 60 13,
 oP 61 (.conv .u32 (.t 60)),
 oV 62 1 57 59,
 oK 1 62 61 false]) (.seq (.region false [mV 63 13,
 oP 64 (.bin .num .shr (.t 63) (.c (.int .u64 63))),
 oP 65 (.bin .num .eql (.t 64) (.c (.int .u64 1))),
 mV 6 65]) .ret)))))),
 false,true⟩
@[simp] def qfz:AFn:=⟨[(.tmp 6),(.tmp 7)],
 (.seq (.region false [oP 6 (.mv (.c (.int .u32 0))),
 oP 7 (.mv (.c (.int .u32 0)))]) (.seq (.region false [mV 9 0,
 oP 10 (.conv .u64 (.t 9)),
 mV 11 1,
 oP 12 (.conv .u64 (.t 11)),
 oN 13 .add 10 12,
 mV 14 2,
 oP 15 (.conv .u64 (.t 14)),
 oN 16 .add 13 15,
 mV 8 16]) (.seq (.region false [mV 17 8,
 oP 18 (.conv .u32 (.t 17)),
 mV 6 18]) (.seq (.region false [mV 19 8,
 oP 20 (.bin .num .shr (.t 19) (.c (.int .u64 32))),
 oP 21 (.conv .u32 (.t 20)),
 mV 7 21]) .ret)))),
 false,false⟩
@[simp] def qfx:AFn:=⟨[(.tmp 6),(.tmp 7)],
 (.seq (.region false [oP 6 (.mv (.c (.int .u32 0))),
 oP 7 (.mv (.c (.int .u32 0)))]) (.seq (.region false [mV 8 0,
 mV 9 1,
 oN 10 .sub 8 9,
 mV 11 2,
 oN 12 .sub 10 11,
 mV 6 12]) (.seq (.region false [mV 13 0,
 oP 14 (.un .xor (.t 13)),
 mV 15 1,
 oN 16 .and 14 15,
 mV 17 0,
 mV 18 1,
 oN 19 .xor 17 18,
 oP 20 (.un .xor (.t 19)),
 mV 21 6,
 oN 22 .and 20 21,
 oN 23 .or 16 22,
 oP 24 (.bin .num .shr (.t 23) (.c (.int .u64 31))),
 mV 7 24]) .ret))),
 false,false⟩
@[simp] def qfy:AFn:=⟨[(.tmp 6),(.tmp 7)],
 (.seq (.region false [oP 6 (.mv (.c (.int .u32 0))),
 oP 7 (.mv (.c (.int .u32 0)))]) (.seq (.seq (.region false [mV 9 2,
 oP 10 (.bin .num .neq (.t 9) (.c (.int .u32 0))),
 mV 11 10,
 oF 12 11 2,
 oF 13 11 0,
 gT 14 11 (.bin .num .leq (.t 12) (.t 13)),
 oY 15 11 14]) (.cond (.t 15) .stop .skip)) (.seq (.region false [mV 17 0,
 oP 18 (.conv .u64 (.t 17)),
 oP 19 (.bin .num .shl (.t 18) (.c (.int .u64 32))),
 mV 20 1,
 oP 21 (.conv .u64 (.t 20)),
 oN 22 .or 19 21,
 mV 8 22]) (.seq (.region true [mV 23 8,
 mV 24 2,
 oP 25 (.conv .u64 (.t 24)),
 oN 26 .quo 23 25,
 oP 27 (.conv .u32 (.t 26)),
 mV 28 8,
 mV 29 2,
 oP 30 (.conv .u64 (.t 29)),
 oN 31 .rem 28 30,
 oP 32 (.conv .u32 (.t 31)),
 mV 6 27,
 mV 7 32]) .ret)))),
 false,false⟩
def qdg:AC:=(.seq (.seq (.region false [mV 11 1,
 oP 12 (.bin .num .lss (.t 11) (.c (.int .u64 4294967296))),
 mV 13 12,
 oF 14 13 0,
 oF 15 13 4,
 gT 16 13 (.conv .u64 (.t 15)),
 gT 17 13 (.bin .num .mul (.t 14) (.t 16)),
 oF 18 13 1,
 gT 19 13 (.bin .num .shl (.t 18) (.c (.int .u64 32))),
 oF 20 13 2,
 gT 21 13 (.conv .u64 (.t 20)),
 gT 22 13 (.bin .num .or (.t 19) (.t 21)),
 gT 23 13 (.bin .num .gtr (.t 17) (.t 22)),
 oY 24 13 23]) (.cond (.t 24) .skip (.exit 0))) (.block 1 (.seq (.region false [mV 25 0,
 oP 26 (.bin .num .sub (.t 25) (.c (.int .u64 1))),
 mV 0 26]) (.region false [mV 27 1,
 mV 28 3,
 oP 29 (.conv .u64 (.t 28)),
 oN 30 .add 27 29,
 mV 1 30]))))
@[simp] def qic:AFn:=⟨[(.tmp 10)],
 (.seq (.region false [oP 10 (.mv (.c (.int .u64 0)))]) (.seq (.block 0 (.loop qdg)) (.seq (.region false [mV 31 0,
 mV 10 31]) .ret))),
 false,false⟩
end Go.Abs
namespace Go.Abs
end Go.Abs
namespace Go.Abs
end Go.Abs
namespace Go.Abs
end Go.Abs
namespace Go.Abs
@[simp] def qdc:AFn:=⟨[(.tmp 4)],
 (.seq (.region false [oU 2 3 0,
 oZ 4 false]) (.seq (.seq (.region false [oA0 11 462,
 oW 12 11,
 mV 13 12,
 oG 14 13 true 3 2,
 gF 15 13 (.call (.f 468) [(.t 14),(.c (.int .i64 20))]),
 gF 16 13 (.un .not (.t 15)),
 oX 17 13 16]) (.cond (.t 17) (.seq (.region false [oA0 18 462,
 mV 4 18]) .ret) .skip)) (.seq (.region false [mV 19 1,
 oA1 20 469 19,
 mV 5 20]) (.seq (.region false [oI 21 3 2,
 oA1 22 152 21,
 oL 6,
 oK 7 6 22 false]) (.seq (.region true [oI 23 7 6,
 mV 24 5,
 oA2 25 470 23 24,
 oI 26 7 6,
 mV 27 5,
 oA2 28 471 26 27,
 oL 7,
 oL 8,
 oK 7 7 25 true,
 oK 7 8 28 true]) (.seq (.region false [oI 30 3 2,
 oP 31 (.call (.f 472) [(.t 30),(.c (.int .i64 150))]),
 mV 29 31,
 oR 32 0 29,
 oR 33 1 29,
 oL 9,
 oL 10,
 oK 7 9 32 false,
 oK 7 10 33 false]) (.seq (.seq (.region true [oI 34 7 7,
 oI 35 7 9,
 oB2 36 464 34 35,
 oW 37 36,
 mV 38 37,
 oG 39 38 true 7 8,
 oG 40 38 true 7 10,
 ⟨some 41,.call (.f 464) [(.t 39),(.t 40)],some (38,false),true⟩,
 gF 42 38 (.un .not (.t 41)),
 oX 43 38 42,
 mV 44 43,
 oG 45 44 true 7 7,
 oC0 46 44 473,
 ⟨some 47,.call (.f 65) [(.t 45),(.t 46)],some (44,false),true⟩,
 gF 48 44 (.un .not (.t 47)),
 oX 49 44 48,
 mV 50 49,
 oG 51 50 true 7 8,
 oC0 52 50 473,
 ⟨some 53,.call (.f 65) [(.t 51),(.t 52)],some (50,false),true⟩,
 gF 54 50 (.un .not (.t 53)),
 oX 55 50 54]) (.cond (.t 55) (.seq (.region false [oZ 4 false]) .ret) .skip)) (.seq (.region false [oI 56 3 2,
 oA1 57 55 56,
 oO 58 .gtr 57 6,
 mV 59 58,
 oG 60 59 true 7 7,
 oE 61 59 5,
 gF 62 59 (.bin .num .sub (.c (.int .i64 8)) (.t 61)),
 oC2 63 59 466 60 62,
 oE 64 59 63,
 oH 65 64 true 7 8,
 oF 66 64 5,
 gT 67 64 (.bin .num .sub (.c (.int .i64 8)) (.t 66)),
 oD2 68 64 466 65 67,
 gF 69 59 (.pick (.t 64) (.t 68) (.c (.bool false))),
 oX 70 59 69,
 mV 4 70]) .ret)))))))),
 false,false⟩
@[simp] def qi4:AFn:=⟨[(.tmp 0)],
 (.seq (.region false [oZ 0 false]) (.seq (.region false [oP 2 (.call (.f 210) [(.c (.int .i64 1))]),
 oM 1,
 oK 3 1 2 false]) (.seq (.region true [oS 3 (.call (.f 467) [(.c (.int .i64 30))]),
 mV 4 3,
 gT 5 4 (.call (.f 210) [(.c (.int .i64 2))]),
 gT 6 4 (.build [(.bool false),.nil,(.int .i64 0),(.bool false),.nil,(.int .i64 0),(.bool false)] [(3,3,(.t 5))]),
 gT 7 4 (.call (.f 470) [(.t 6),(.c (.int .i64 30))]),
 oH 8 4 true 3 1,
 ⟨some 9,.call (.f 133) [(.t 7),(.t 8)],some (4,true),true⟩,
 oY 10 4 9,
 mV 11 10,
 ⟨some 12,.call (.f 463) [(.c (.int .i64 30))],some (11,true),true⟩,
 gT 13 11 (.field false 6 1 (.t 12)),
 gT 14 11 (.un .not (.t 13)),
 oY 15 11 14,
 mV 16 15,
 ⟨some 17,.call (.f 463) [(.c (.int .i64 30))],some (16,true),true⟩,
 ⟨some 18,.call (.f 173) [(.t 17)],some (16,true),true⟩,
 gT 19 16 (.bin .num .eql (.t 18) (.c (.int .i64 1))),
 oY 20 16 19,
 mV 0 20]) .ret))),
 false,false⟩
@[simp] def qpb:AFn:=⟨[(.cell 2 true 7)],
 (.seq (.region false [oL 2]) (.seq (.seq (.region false [mV 3 0,
 oA1 4 480 3,
 oW 5 4]) (.cond (.t 5) (.seq (.region false [oA0 6 107,
 oK 7 2 6 false]) .ret) .skip)) (.seq (.region false [mV 7 0,
 oO 8 .add 7 64,
 oA1 9 482 8,
 mV 10 0,
 oO 11 .add 10 64,
 mV 12 0,
 oA3 13 481 9 11 12,
 oK 7 2 13 false]) .ret))),
 false,false⟩
@[simp] def qi2:AFn:=⟨[(.tmp 4)],
 (.seq (.region false [oU 2 7 0,
 oU 3 7 1,
 oZ 4 false]) (.seq (.region false [oI 8 7 2,
 oI 9 7 3,
 oA2 10 71 8 9,
 mV 7 10,
 oR 11 0 7,
 oR 12 1 7,
 oL 5,
 oK 7 5 11 false,
 mV 6 12]) (.seq (.region false [oI 13 7 2,
 oA1 14 70 13,
 mV 15 14,
 oF 16 15 6,
 oY 17 15 16,
 mV 4 17]) .ret))),
 false,false⟩
@[simp] def qg0:AFn:=⟨[(.cell 2 true 7)],
 (.seq (.region false [oL 2]) (.seq (.region false [mV 6 0,
 oO 7 .add 6 20,
 mV 3 7]) (.seq (.region false [oP 8 (.call (.f 484) [(.c (.int .i64 1))]),
 oP 9 (.call (.f 484) [(.c (.int .i64 5))]),
 mV 10 3,
 oA3 11 175 8 9 10,
 mV 12 3,
 oA2 13 483 11 12,
 oL 4,
 oK 7 4 13 false]) (.seq (.region false [oP 14 (.call (.f 484) [(.c (.int .i64 1))]),
 oP 15 (.call (.f 484) [(.c (.int .i64 239))]),
 mV 16 3,
 oA3 17 175 14 15 16,
 mV 18 3,
 oA2 19 483 17 18,
 oL 5,
 oK 7 5 19 false]) (.seq (.region true [oP 20 (.call (.f 484) [(.c (.int .i64 16))]),
 oI 21 7 4,
 mV 22 3,
 oA3 23 154 20 21 22,
 oP 24 (.call (.f 484) [(.c (.int .i64 4))]),
 oI 25 7 5,
 mV 26 3,
 oB3 27 154 24 25 26,
 mV 28 3,
 oB3 29 146 23 27 28,
 oK 7 2 29 true]) .ret))))),
 false,false⟩
@[simp] def qg8:AFn:=⟨[(.tmp 4)],
 (.seq (.region false [oU 2 7 0,
 oZ 4 false]) (.seq (.region true [oQ 5 6 2,
 oJ 6 5,
 oW 7 6,
 mV 8 7,
 gT 9 8 (.faddr 3 (.t 2)),
 oH 10 8 true 3 9,
 gT 11 8 (.faddr 0 (.t 2)),
 oH 12 8 true 3 11,
 oD1 13 8 57 12,
 ⟨some 14,.call (.f 56) [(.t 10),(.t 13)],some (8,true),true⟩,
 oF 15 8 1,
 ⟨some 16,.call (.f 485) [(.t 15)],some (8,true),true⟩,
 ⟨some 17,.call (.f 18) [(.t 14),(.t 16)],some (8,true),true⟩,
 gT 18 8 (.bin .num .leq (.t 17) (.c (.int .i64 0))),
 oY 19 8 18,
 mV 4 19]) .ret)),
 false,false⟩
@[simp] def qi3:AFn:=⟨[(.tmp 2)],
 (.seq (.region false [oZ 2 false]) (.seq (.region false [oP 4 (.build [(.bool false),.nil,(.int .i64 0),(.bool false),.nil,(.int .i64 0),(.bool false)] []),
 oL 3,
 oK 7 3 4 false]) (.seq (.region true [oI 5 7 3,
 mV 6 0,
 oA2 7 470 5 6,
 oI 8 7 3,
 oB2 9 60 7 8,
 mV 10 9,
 oH 11 10 true 7 3,
 oF 12 10 0,
 ⟨some 13,.call (.f 471) [(.t 11),(.t 12)],some (10,true),true⟩,
 ⟨some 14,.call (.f 74) [(.c (.int .i64 1))],some (10,true),true⟩,
 ⟨some 15,.call (.f 153) [(.t 14)],some (10,true),true⟩,
 ⟨some 16,.call (.f 60) [(.t 13),(.t 15)],some (10,true),true⟩,
 oY 17 10 16,
 mV 18 17,
 oH 19 18 true 7 3,
 oF 20 18 0,
 oD2 21 18 474 19 20,
 oH 22 18 true 7 3,
 ⟨some 23,.call (.f 60) [(.t 21),(.t 22)],some (18,true),true⟩,
 oY 24 18 23,
 mV 2 24]) .ret))),
 false,false⟩
@[simp] def qg9:AFn:=⟨[(.tmp 4)],
 (.seq (.region false [oU 2 3 0,
 oZ 4 false]) (.seq (.region false [oQ 5 1 2,
 oJ 6 5,
 oT 7 6,
 oO 8 .leq 7 10,
 mV 9 8,
 oH 10 9 true 3 2,
 oD1 11 9 12 10,
 oY 12 9 11,
 mV 13 12,
 gT 14 13 (.faddr 2 (.t 2)),
 oH 15 13 false 1 14,
 gT 16 13 (.bin .num .geq (.t 15) (.c (.int .i64 (-400)))),
 oY 17 13 16,
 mV 18 17,
 oH 19 18 true 3 2,
 oD1 20 18 55 19,
 oF 21 18 1,
 gT 22 18 (.bin .num .leq (.t 20) (.t 21)),
 oY 23 18 22,
 mV 4 23]) .ret)),
 false,false⟩
@[simp] def qkk:AFn:=⟨[(.tmp 2)],
 (.seq (.region false [oP 2 (.mv (.c (.int .i64 0)))]) (.seq (.region false [mV 3 0,
 oP 4 (.conv .i64 (.t 3)),
 oO 5 .rem 4 57,
 oP 6 (.bin .num .add (.c (.int .i64 8)) (.t 5)),
 mV 2 6]) .ret)),
 false,false⟩
@[simp] def qnr:AFn:=⟨[(.cell 4 true 7)],
 (.seq (.region false [oU 2 7 0,
 oL 4]) (.seq (.region false [oI 5 7 2,
 mV 6 1,
 oP 7 (.call (.f 486) [(.t 5),(.c (.bool false)),(.t 6)]),
 oK 7 4 7 false]) .ret)),
 false,false⟩
@[simp] def qns:AFn:=⟨[(.cell 4 true 7)],
 (.seq (.region false [oU 2 7 0,
 oL 4]) (.seq (.region false [oI 5 7 2,
 mV 6 1,
 oP 7 (.call (.f 486) [(.t 5),(.c (.bool true)),(.t 6)]),
 oK 7 4 7 false]) .ret)),
 false,false⟩
@[simp] def qgz:AFn:=⟨[(.cell 4 true 7),(.cell 5 true 7)],
 (.seq (.region false [oU 2 3 0,
 oL 4,
 oL 5]) (.seq (.region false [mV 14 1,
 oO 15 .add 14 60,
 mV 6 15]) (.seq (.region false [mV 16 6,
 oA1 17 465 16,
 oP 18 (.call (.f 159) [(.t 17),(.c (.int .i64 (-1)))]),
 oL 7,
 oK 7 7 18 false]) (.seq (.region false [oI 19 3 2,
 oA1 20 153 19,
 oL 8,
 oK 7 8 20 false]) (.seq (.region false [oI 21 7 8,
 oI 22 7 7,
 mV 23 6,
 oA3 24 175 21 22 23,
 oP 25 (.call (.f 485) [(.c (.int .i64 (-1)))]),
 oP 26 (.call (.f 485) [(.c (.int .i64 (-1)))]),
 oP 27 (.build [(.bool false),.nil,(.int .i64 0),(.bool false),.nil,(.int .i64 0),(.bool false)] [(0,3,(.t 25)),(3,3,(.t 26))]),
 mV 28 6,
 oA3 29 145 24 27 28,
 oL 9,
 oK 7 9 29 false]) (.seq (.region false [oQ 30 0 9,
 oI 31 3 30,
 oA1 32 487 31,
 mV 10 32]) (.seq (.region true [oI 33 7 8,
 mV 34 10,
 oA1 35 484 34,
 oI 36 7 7,
 mV 37 6,
 oA3 38 154 35 36 37,
 mV 39 6,
 oA3 40 146 33 38 39,
 oL 11,
 oK 7 11 40 true]) (.seq (.region false [oI 42 7 11,
 mV 43 6,
 oA2 44 488 42 43,
 mV 41 44,
 oR 45 0 41,
 oR 46 1 41,
 oL 12,
 oL 13,
 oK 7 12 45 false,
 oK 7 13 46 false]) (.seq (.seq (.region false [mV 47 10,
 oO 48 .rem 47 4,
 oO 49 .add 48 4,
 oO 50 .rem 49 4]) (.block 0 (.seq (.region false [oO 52 .eql 50 0,
 mV 51 52]) (.cond (.t 51) (.seq (.region true [oI 53 7 12,
 oP 54 (.sload true 7 13),
 ⟨none,.storeN 7 (.t 4) (.t 53) [13],none,true⟩,
 oK 7 5 54 true]) .ret) (.seq (.region false [oO 56 .eql 50 1,
 mV 55 56]) (.cond (.t 55) (.seq (.region true [oI 57 7 13,
 oI 58 7 12,
 oA1 59 148 58,
 oK 7 4 57 true,
 oK 7 5 59 true]) .ret) (.seq (.region false [oO 61 .eql 50 2,
 mV 60 61]) (.cond (.t 60) (.seq (.region true [oI 62 7 12,
 oA1 63 148 62,
 oI 64 7 13,
 oB1 65 148 64,
 oK 7 4 63 true,
 oK 7 5 65 true]) .ret) .skip)))))))) (.seq (.region true [oI 66 7 13,
 oA1 67 148 66,
 oP 68 (.sload true 7 12),
 ⟨none,.storeN 7 (.t 4) (.t 67) [12],none,true⟩,
 oK 7 5 68 true]) .ret)))))))))),
 false,false⟩
@[simp] def qkj:AFn:=⟨[(.cell 0 true 7)],
 (.seq (.region false [oL 0]) (.seq (.region false [oP 1 (.call (.f 74) [(.c (.int .i64 1))]),
 oA1 2 476 1,
 oK 7 0 2 false]) .ret)),
 false,false⟩
@[simp] def qmo:AFn:=⟨[(.cell 4 true 7)],
 (.seq (.region false [oU 2 7 0,
 oL 4]) (.seq (.seq (.region false [mV 5 1,
 oA1 6 480 5,
 oW 7 6,
 mV 8 7,
 oG 9 8 true 7 2,
 oC1 10 8 77 9,
 gF 11 8 (.un .not (.t 10)),
 oX 12 8 11,
 mV 13 12,
 gF 14 13 (.faddr 6 (.t 2)),
 oG 15 13 false 1 14,
 oX 16 13 15]) (.cond (.t 16) (.seq (.region false [oA0 17 107,
 oK 7 4 17 false]) .ret) .skip)) (.seq (.region true [oQ 18 0 2,
 oI 19 3 18,
 mV 20 1,
 oA2 21 489 19 20,
 oQ 22 3 2,
 oI 23 3 22,
 mV 24 1,
 oB2 25 489 23 24,
 oB2 26 94 21 25,
 oK 7 4 26 true]) .ret))),
 false,false⟩
@[simp] def qg1:AFn:=⟨[(.cell 2 true 7)],
 (.seq (.region false [oU 1 3 0,
 oL 2]) (.seq (.region true [oI 3 3 1,
 oA1 4 57 3,
 oI 5 3 1,
 oP 6 (.build [(.bool false),.nil,(.int .i64 0),(.bool false),.nil,(.int .i64 0),(.bool false)] [(0,3,(.t 4)),(3,3,(.t 5))]),
 oK 7 2 6 true]) .ret)),
 false,false⟩
@[simp] def qhg:AFn:=⟨[(.tmp 2)],
 (.seq (.region false [oZ 2 false]) (.seq (.region false [mV 3 0,
 oO 4 .geq 3 8,
 mV 5 4,
 oF 6 5 0,
 gT 7 5 (.bin .num .leq (.t 6) (.c (.int .i64 512))),
 oY 8 5 7,
 mV 2 8]) .ret)),
 false,false⟩
@[simp] def qml:AFn:=⟨[(.cell 6 true 7)],
 (.seq (.region false [oU 3 2 0,
 oL 6]) (.seq (.region false [oP 14 (.bslice 1 1 (.int .u32 0) [(0,(.c (.int .u32 1)))]),
 oP 15 (.call (.f 493) [(.t 14),(.c (.int .i64 24))]),
 oP 16 (.build [(.bool false),.nil] [(0,1,(.c (.bool false))),(1,1,(.t 15))]),
 oP 7 (.new 2 (.agg [(.bool false),.nil])),
 oK 2 7 16 false]) (.seq (.region true [oI 17 2 3,
 oI 18 2 7,
 oA1 19 495 18,
 oA2 20 494 17 19,
 oI 21 2 3,
 oI 22 2 7,
 oA2 23 494 21 22,
 oP 8 (.new 2 (.agg [(.bool false),.nil])),
 oP 9 (.new 2 (.agg [(.bool false),.nil])),
 oK 2 8 20 true,
 oK 2 9 23 true]) (.seq (.region false [oQ 25 0 8,
 oJ 26 25,
 oQ 27 1 8,
 oJ 28 27,
 mV 29 1,
 oP 30 (.un .neg (.t 29)),
 oA3 31 265 26 28 30,
 mV 24 31,
 oR 32 0 24,
 oR 33 1 24,
 oM 10,
 oK 3 10 32 false,
 mV 11 33]) (.seq (.region false [oQ 35 0 9,
 oJ 36 35,
 oQ 37 1 9,
 oJ 38 37,
 mV 39 1,
 oP 40 (.un .neg (.t 39)),
 oA3 41 265 36 38 40,
 mV 34 41,
 oR 42 0 34,
 oR 43 1 34,
 oM 12,
 oK 3 12 42 false,
 mV 13 43]) (.seq (.seq (.region false [mV 44 11,
 oO 45 .neq 44 0,
 mV 46 45,
 oE 47 46 13,
 gF 48 46 (.bin .num .neq (.t 47) (.c (.int .i64 0))),
 oX 49 46 48]) (.cond (.t 49) (.seq (.region false [oA0 50 107,
 oK 7 6 50 false]) .ret) .skip)) (.seq (.region false [oI 52 3 10,
 mV 53 2,
 oA2 54 199 52 53,
 mV 51 54,
 oR 55 0 51,
 oR 56 1 51,
 oK 3 10 55 false,
 mV 11 56]) (.seq (.region false [oI 58 3 12,
 mV 59 2,
 oA2 60 200 58 59,
 mV 57 60,
 oR 61 0 57,
 oR 62 1 57,
 oK 3 12 61 false,
 mV 13 62]) (.seq (.seq (.region false [mV 63 11,
 oO 64 .neq 63 0,
 mV 65 64,
 oE 66 65 13,
 gF 67 65 (.bin .num .neq (.t 66) (.c (.int .i64 0))),
 oX 68 65 67]) (.cond (.t 68) (.seq (.region false [oA0 69 107,
 oK 7 6 69 false]) .ret) .skip)) (.seq (.region false [oI 70 3 10,
 oI 71 3 12,
 oP 72 (.build [(.bool false),.nil,(.int .i64 0),(.bool false),.nil,(.int .i64 0),(.bool false)] [(0,3,(.t 70)),(3,3,(.t 71))]),
 oK 7 6 72 false]) .ret)))))))))),
 false,false⟩
@[simp] def qo9:AFn:=⟨[(.cell 2 true 2)],
 (.seq (.region false [oP 2 (.new 2 (.agg [(.bool false),.nil]))]) (.seq (.region false [mV 5 0,
 oP 6 (.call (.f 496) [(.c (.int .i64 5)),(.t 5)]),
 mV 7 0,
 oP 8 (.call (.f 496) [(.c (.int .i64 239)),(.t 7)]),
 oP 3 (.new 2 (.agg [(.bool false),.nil])),
 oP 4 (.new 2 (.agg [(.bool false),.nil])),
 oK 2 3 6 false,
 oK 2 4 8 false]) (.seq (.region true [oQ 9 1 3,
 oJ 10 9,
 oP 11 (.call (.f 493) [(.t 10),(.c (.int .i64 4))]),
 oP 12 (.build [(.bool false),.nil] [(0,1,(.c (.bool false))),(1,1,(.t 11))]),
 oQ 13 1 4,
 oJ 14 13,
 oS 15 (.call (.f 493) [(.t 14),(.c (.int .i64 2))]),
 oP 16 (.build [(.bool false),.nil] [(0,1,(.c (.bool true))),(1,1,(.t 15))]),
 oB2 17 494 12 16,
 oK 2 2 17 true]) .ret))),
 false,false⟩
def qgy:AC:=(.seq (.seq (.region false [oI 14 7 6,
 mV 15 1,
 oP 16 (.bin .num .sub (.c (.int .i64 0)) (.t 15)),
 oA2 17 497 14 16,
 oW 18 17]) (.cond (.t 18) .skip (.exit 0))) (.seq (.block 1 (.seq (.region false [oI 21 7 6,
 oI 22 7 5,
 mV 23 1,
 oA3 24 154 21 22 23,
 oA1 25 148 24,
 oK 7 6 25 false]) (.region true [oI 26 7 7,
 oI 27 7 6,
 mV 28 8,
 oA1 29 484 28,
 mV 30 1,
 oA3 31 175 27 29 30,
 mV 32 1,
 oB3 33 145 26 31 32,
 oK 7 7 33 true]))) (.region false [mV 19 8,
 oO 20 .add 19 2,
 mV 8 20])))
@[simp] def qlv:AFn:=⟨[(.cell 4 true 7)],
 (.seq (.region false [oU 2 7 0,
 oL 4]) (.seq (.region false [oI 9 7 2,
 mV 10 1,
 oA2 11 155 9 10,
 oL 5,
 oK 7 5 11 false]) (.seq (.region true [oI 12 7 2,
 oP 13 (.sload true 7 2),
 oL 6,
 oL 7,
 ⟨none,.storeN 7 (.t 6) (.t 12) [2],none,true⟩,
 oK 7 7 13 true]) (.seq (.seq (.region false [oP 8 (.mv (.c (.int .i64 3)))]) (.block 0 (.loop qgy))) (.seq (.region true [oI 34 7 7,
 mV 35 1,
 oP 36 (.bin .num .sub (.c (.int .i64 0)) (.t 35)),
 oA1 37 485 36,
 oA1 38 476 37,
 mV 39 1,
 oB3 40 145 34 38 39,
 oK 7 4 40 true]) .ret))))),
 false,false⟩
@[simp] def qii:AFn:=⟨[(.cell 2 true 7)],
 (.seq (.region false [oL 2]) (.seq (.region false [mV 3 0,
 oA1 4 74 3,
 oA1 5 153 4,
 oK 7 2 5 false]) .ret)),
 false,false⟩
@[simp] def qik:AFn:=⟨[(.cell 2 true 3)],
 (.seq (.region false [oM 2]) (.seq (.region false [oP 6 (.bslice 1 1 (.int .u32 0) [(0,(.c (.int .u32 1)))]),
 mV 7 0,
 oP 8 (.call (.f 498) [(.c (.bool false)),(.t 6),(.t 7)]),
 mV 5 8,
 oR 9 0 5,
 oR 10 1 5,
 oM 3,
 oK 3 3 9 false,
 mV 4 10]) (.seq (.region false [oI 11 3 3,
 oK 3 2 11 false]) .ret))),
 false,false⟩
@[simp] def qmn:AFn:=⟨[(.cell 6 true 7)],
 (.seq (.region false [oU 3 7 0,
 oL 6]) (.seq (.seq (.region false [mV 12 2,
 oA1 13 480 12,
 oW 14 13,
 mV 15 14,
 oG 16 15 true 7 3,
 oC1 17 15 77 16,
 gF 18 15 (.un .not (.t 17)),
 oX 19 15 18,
 mV 20 19,
 gF 21 20 (.faddr 6 (.t 3)),
 oG 22 20 false 1 21,
 oX 23 20 22]) (.cond (.t 23) (.seq (.region false [oA0 24 107,
 oK 7 6 24 false]) .ret) .skip)) (.seq (.seq (.region false [oQ 25 0 3,
 oI 26 3 25,
 oA1 27 98 26,
 oO 28 .gtr 27 100,
 mV 29 28,
 gF 30 29 (.faddr 3 (.t 3)),
 oG 31 29 true 3 30,
 oC1 32 29 98 31,
 gF 33 29 (.bin .num .gtr (.t 32) (.c (.int .i64 100))),
 oX 34 29 33]) (.cond (.t 34) (.seq (.region false [oA0 35 499,
 oK 7 6 35 false]) .ret) .skip)) (.seq (.region false [oI 37 7 3,
 oP 38 (.call (.f 160) [(.t 37),(.c (.int .i64 64))]),
 mV 36 38,
 oR 39 0 36,
 oR 40 1 36,
 oM 7,
 oK 3 7 39 false,
 mV 8 40]) (.seq (.seq (.region true [mV 41 8,
 oW 42 41,
 mV 43 42,
 oG 44 43 true 3 7,
 gF 45 43 (.call (.f 210) [(.c (.int .i64 7))]),
 ⟨some 46,.call (.f 52) [(.t 44),(.t 45)],some (43,false),true⟩,
 gF 47 43 (.bin .num .geq (.t 46) (.c (.int .i64 0))),
 oX 48 43 47]) (.cond (.t 48) (.seq (.region false [oA0 49 499,
 oK 7 6 49 false]) .ret) .skip)) (.seq (.region true [oQ 51 0 3,
 oI 52 3 51,
 mV 53 1,
 mV 54 2,
 oA3 55 500 52 53 54,
 oQ 56 3 3,
 oI 57 3 56,
 mV 58 1,
 mV 59 2,
 oA3 60 500 57 58 59,
 oA2 61 94 55 60,
 oA0 62 499,
 oA2 63 90 61 62,
 mV 50 63,
 oR 64 0 50,
 oR 65 1 50,
 oL 9,
 oK 7 9 64 true,
 mV 8 65]) (.seq (.seq (.region false [mV 66 8,
 oW 67 66]) (.cond (.t 67) (.seq (.region false [oA0 68 499,
 oK 7 6 68 false]) .ret) .skip)) (.seq (.seq (.region false [oQ 69 0 3,
 oI 70 3 69,
 oQ 71 3 3,
 oI 72 3 71,
 oA2 73 52 70 72,
 oO 74 .eql 73 0]) (.cond (.t 74) (.seq (.region false [oI 75 7 9,
 oK 7 6 75 false]) .ret) .skip)) (.seq (.region false [oP 10 (.mv (.c (.int .i64 1))),
 oP 11 (.mv (.c (.int .i64 3)))]) (.seq (.seq (.region false [mV 76 1]) (.cond (.t 76) (.region false [oP 10 (.mv (.c (.int .i64 0))),
 oP 11 (.mv (.c (.int .i64 2)))]) .skip)) (.seq (.seq (.region false [oI 77 7 3,
 mV 78 10,
 mV 79 2,
 oO 80 .add 79 64,
 oA3 81 501 77 78 80]) (.cond (.t 81) (.region false [oP 82 (.call (.f 210) [(.c (.int .i64 1))]),
 oQ 83 3 9,
 oK 3 83 82 false]) .skip)) (.seq (.seq (.region false [oI 84 7 3,
 mV 85 11,
 mV 86 2,
 oO 87 .add 86 64,
 oA3 88 501 84 85 87]) (.cond (.t 88) (.region false [oP 89 (.call (.f 210) [(.c (.int .i64 (-1)))]),
 oQ 90 0 9,
 oK 3 90 89 false]) .skip)) (.seq (.region false [oI 91 7 9,
 oK 7 6 91 false]) .ret))))))))))))),
 false,false⟩
def qck:AC:=(.seq (.seq (.region false [mV 17 6,
 oO 18 .geq 17 0]) (.cond (.t 18) .skip (.exit 2))) (.seq (.block 3 (.seq (.region false [oQ 21 1 1,
 oJ 22 21,
 mV 23 5,
 oV 24 1 22 23,
 oJ 25 24,
 mV 26 6,
 oP 27 (.conv .u64 (.t 26)),
 oN 28 .shr 25 27,
 oP 29 (.bin .num .and (.t 28) (.c (.int .u32 1))),
 oP 30 (.conv .i64 (.t 29)),
 mV 7 30]) (.seq (.region false [oQ 31 2 1,
 oJ 32 31,
 mV 33 5,
 oP 34 (.bin .num .mul (.c (.int .i64 32)) (.t 33)),
 oN 35 .add 32 34,
 mV 36 6,
 oN 37 .add 35 36,
 oO 38 .lss 37 0]) (.cond (.t 38) (.region false [mV 39 4,
 mV 40 39,
 oE 41 40 7,
 gF 42 40 (.bin .num .eql (.t 41) (.c (.int .i64 1))),
 oX 43 40 42,
 mV 4 43]) (.region false [mV 44 3,
 oP 45 (.bin .num .mul (.c (.int .i64 2)) (.t 44)),
 mV 46 7,
 oN 47 .add 45 46,
 mV 3 47]))))) (.region false [mV 19 6,
 oO 20 .sub 19 1,
 mV 6 20])))
def qfd:AC:=(.seq (.seq (.region false [mV 13 5,
 oO 14 .geq 13 0]) (.cond (.t 14) .skip (.exit 0))) (.seq (.block 1 (.seq (.region false [oP 6 (.mv (.c (.int .i64 31)))]) (.block 2 (.loop qck)))) (.region false [mV 15 5,
 oO 16 .sub 15 1,
 mV 5 16])))
def qcj:AC:=(.seq (.seq (.region false [mV 48 8,
 oQ 49 2 1,
 oJ 50 49,
 oN 51 .lss 48 50]) (.cond (.t 51) .skip (.exit 4))) (.seq (.block 5 (.region false [mV 54 3,
 oP 55 (.bin .num .mul (.c (.int .i64 2)) (.t 54)),
 mV 3 55])) (.region false [mV 52 8,
 oO 53 .add 52 1,
 mV 8 53])))
@[simp] def qil:AFn:=⟨[(.tmp 2)],
 (.seq (.region false [oU 1 3 0,
 oP 2 (.mv (.c (.int .i64 0)))]) (.seq (.region false [oP 3 (.mv (.c (.int .i64 0))),
 oZ 4 false]) (.seq (.seq (.region false [oQ 9 1 1,
 oJ 10 9,
 oT 11 10,
 oO 12 .sub 11 1,
 mV 5 12]) (.block 0 (.loop qfd))) (.seq (.seq (.region false [oP 8 (.mv (.c (.int .i64 0)))]) (.block 4 (.loop qcj))) (.seq (.seq (.region false [oQ 56 0 1,
 oJ 57 56,
 mV 58 57,
 oF 59 58 4,
 oY 60 58 59]) (.cond (.t 60) (.seq (.region false [mV 61 3,
 oP 62 (.bin .num .sub (.c (.int .i64 0)) (.t 61)),
 oO 63 .sub 62 1,
 mV 2 63]) .ret) .skip)) (.seq (.seq (.region false [oQ 64 0 1,
 oJ 65 64]) (.cond (.t 65) (.seq (.region false [mV 66 3,
 oP 67 (.bin .num .sub (.c (.int .i64 0)) (.t 66)),
 mV 2 67]) .ret) .skip)) (.seq (.region false [mV 68 3,
 mV 2 68]) .ret))))))),
 false,false⟩
def qbo:AC:=(.seq (.seq (.region false [oI 15 7 6,
 mV 16 1,
 oP 17 (.bin .num .sub (.c (.int .i64 0)) (.t 16)),
 oA2 18 497 15 17,
 oW 19 18,
 mV 20 19,
 oE 21 20 9,
 gF 22 20 (.bin .num .lss (.t 21) (.c (.int .i64 8))),
 oX 23 20 22]) (.cond (.t 23) .skip (.exit 0))) (.seq (.block 1 (.seq (.region false [oI 26 7 6,
 oI 27 7 2,
 mV 28 1,
 oA3 29 154 26 27 28,
 mV 30 9,
 oA1 31 484 30,
 mV 32 1,
 oA3 33 175 29 31 32,
 oK 7 6 33 false]) (.seq (.region false [oI 34 7 6,
 oL 10,
 oK 7 10 34 false]) (.seq (.seq (.region false [mV 35 9,
 oO 36 .rem 35 4,
 oO 37 .geq 36 2]) (.cond (.t 37) (.region false [oI 38 7 10,
 oA1 39 148 38,
 oK 7 10 39 false]) .skip)) (.seq (.region false [mV 40 9,
 oO 41 .rem 40 2,
 oO 42 .eql 41 1]) (.cond (.t 42) (.region false [oI 43 7 7,
 oI 44 7 10,
 mV 45 1,
 oA3 46 145 43 44 45,
 oK 7 7 46 false]) (.region false [oI 47 7 8,
 oI 48 7 10,
 mV 49 1,
 oA3 50 145 47 48 49,
 oK 7 8 50 false]))))))) (.region false [mV 24 9,
 oO 25 .add 24 1,
 mV 9 25])))
@[simp] def qgx:AFn:=⟨[(.cell 4 true 7),(.cell 5 true 7)],
 (.seq (.region false [oU 2 7 0,
 oL 4,
 oL 5]) (.seq (.region false [oP 12 (.call (.f 484) [(.c (.int .i64 1))]),
 oL 6,
 oK 7 6 12 false]) (.seq (.region false [oP 13 (.call (.f 484) [(.c (.int .i64 0))]),
 oP 14 (.call (.f 484) [(.c (.int .i64 1))]),
 oL 7,
 oL 8,
 oK 7 7 13 false,
 oK 7 8 14 false]) (.seq (.seq (.region false [oP 9 (.mv (.c (.int .i64 1)))]) (.block 0 (.loop qbo))) (.seq (.region false [mV 51 1,
 oP 52 (.bin .num .sub (.c (.int .i64 1)) (.t 51)),
 oA1 53 485 52,
 oA1 54 476 53,
 oL 11,
 oK 7 11 54 false]) (.seq (.region true [oI 55 7 7,
 oI 56 7 11,
 mV 57 1,
 oA3 58 145 55 56 57,
 oI 59 7 8,
 oI 60 7 11,
 mV 61 1,
 oB3 62 145 59 60 61,
 oK 7 4 58 true,
 oK 7 5 62 true]) .ret)))))),
 false,false⟩
@[simp] def qks:AFn:=⟨[(.cell 4 true 7)],
 (.seq (.region false [oU 2 3 0,
 oL 4]) (.seq (.seq (.region false [oI 7 3 2,
 oA1 8 79 7,
 oO 9 .eql 8 0]) (.cond (.t 9) (.seq (.region false [oI 10 3 2,
 oA1 11 152 10,
 oK 7 4 11 false]) .ret) .skip)) (.seq (.region false [mV 12 1,
 oO 13 .add 12 64,
 mV 5 13]) (.seq (.region false [oP 6 (.new 2 (.agg [(.bool false),.nil]))]) (.seq (.seq (.region false [oI 14 3 2,
 oA1 15 205 14,
 oP 16 (.call (.f 210) [(.c (.int .i64 1))]),
 oA2 17 52 15 16,
 oO 18 .leq 17 0]) (.cond (.t 18) (.region false [oI 19 3 2,
 oA1 20 205 19,
 mV 21 5,
 oA2 22 503 20 21,
 mV 23 5,
 oA2 24 502 22 23,
 oK 2 6 24 false]) (.region true [mV 25 5,
 oA1 26 482 25,
 oP 27 (.field false 1 1 (.t 26)),
 oP 28 (.call (.f 504) [(.t 27),(.c (.int .i64 1))]),
 oP 29 (.build [(.bool false),.nil] [(0,1,(.c (.bool false))),(1,1,(.t 28))]),
 oI 30 3 2,
 oB1 31 205 30,
 mV 32 5,
 oB2 33 505 31 32,
 mV 34 5,
 oB2 35 502 33 34,
 oB1 36 495 35,
 oB2 37 494 29 36,
 oK 2 6 37 true]))) (.seq (.region false [oQ 38 0 6,
 oJ 39 38,
 oQ 40 0 2,
 oJ 41 40,
 oP 42 (.bin .bool .neq (.t 39) (.t 41)),
 oQ 43 0 6,
 oK 1 43 42 false]) (.seq (.region false [oI 44 2 6,
 mV 45 5,
 mV 46 1,
 oA3 47 481 44 45 46,
 oK 7 4 47 false]) .ret))))))),
 false,false⟩
@[simp] def qmm:AFn:=⟨[(.tmp 4)],
 (.seq (.region false [oP 4 (.mv (.c .nil))]) (.seq (.region false [mV 8 0,
 mV 9 1,
 oA2 10 112 8 9,
 mV 7 10,
 oR 11 0 7,
 oR 12 1 7,
 mV 5 11,
 mV 6 12]) (.seq (.region false [mV 13 5,
 mV 4 13]) .ret))),
 false,false⟩
@[simp] def qfn:AFn:=⟨[(.cell 4 true 2)],
 (.seq (.region false [oU 2 2 0,
 oU 3 2 1,
 oP 4 (.new 2 (.agg [(.bool false),.nil]))]) (.seq (.seq (.region false [oQ 9 0 2,
 oJ 10 9,
 oQ 11 0 3,
 oJ 12 11,
 oP 13 (.bin .bool .eql (.t 10) (.t 12))]) (.cond (.t 13) (.seq (.region false [oQ 15 1 2,
 oJ 16 15,
 oQ 17 1 3,
 oJ 18 17,
 oA2 19 257 16 18,
 mV 14 19,
 oR 20 0 14,
 oR 21 1 14,
 mV 5 20,
 mV 6 21]) (.seq (.region false [oQ 22 0 2,
 oJ 23 22,
 mV 24 5,
 oP 25 (.build [(.bool false),.nil] [(0,1,(.t 23)),(1,1,(.t 24))]),
 oK 2 4 25 false]) .ret)) .skip)) (.seq (.seq (.region false [oQ 26 1 2,
 oJ 27 26,
 oQ 28 1 3,
 oJ 29 28,
 oA2 30 99 27 29,
 oO 31 .lss 30 0]) (.cond (.t 31) (.region false [oI 32 2 3,
 oI 33 2 2,
 oK 2 2 32 false,
 oK 2 3 33 false]) .skip)) (.seq (.region false [oQ 35 1 2,
 oJ 36 35,
 oQ 37 1 3,
 oJ 38 37,
 oA2 39 258 36 38,
 mV 34 39,
 oR 40 0 34,
 oR 41 1 34,
 mV 7 40,
 mV 8 41]) (.seq (.region false [oQ 42 0 2,
 oJ 43 42,
 mV 44 7,
 oP 45 (.build [(.bool false),.nil] [(0,1,(.t 43)),(1,1,(.t 44))]),
 oK 2 4 45 false]) .ret))))),
 false,false⟩
@[simp] def qec:AFn:=⟨[(.cell 2 true 2)],
 (.seq (.region false [oU 1 2 0,
 oP 2 (.new 2 (.agg [(.bool false),.nil]))]) (.seq (.region false [oQ 3 0 1,
 oJ 4 3,
 oW 5 4,
 oQ 6 1 1,
 oJ 7 6,
 oP 8 (.build [(.bool false),.nil] [(0,1,(.t 5)),(1,1,(.t 7))]),
 oK 2 2 8 false]) .ret)),
 false,false⟩
@[simp] def qhh:AFn:=⟨[(.cell 4 true 2)],
 (.seq (.region false [oU 2 1 0,
 oP 4 (.new 2 (.agg [(.bool false),.nil]))]) (.seq (.region false [oP 6 (.bslice 1 1 (.int .u32 0) [(0,(.c (.int .u32 1)))]),
 mV 7 1,
 oA2 8 493 6 7,
 oP 9 (.build [(.bool false),.nil] [(0,1,(.c (.bool false))),(1,1,(.t 8))]),
 oP 5 (.new 2 (.agg [(.bool false),.nil])),
 oK 2 5 9 false]) (.seq (.region false [oI 10 2 5,
 oJ 11 2,
 oA2 12 507 10 11,
 oP 13 (.mkfn 508 [(.t 2)]),
 oA2 14 506 12 13,
 oK 2 4 14 false]) .ret))),
 false,false⟩
@[simp] def qij:AFn:=⟨[(.tmp 4)],
 (.seq (.region false [oU 2 7 0,
 oZ 4 false]) (.seq (.region false [oI 5 7 2,
 oA1 6 166 5,
 mV 7 1,
 oA1 8 485 7,
 oA2 9 18 6 8,
 oO 10 .lss 9 0,
 mV 4 10]) .ret)),
 false,false⟩
@[simp] def qkf:AFn:=⟨[(.cell 6 true 3),(.tmp 7)],
 (.seq (.region false [oM 6,
 oP 7 (.mv (.c (.int .i64 0)))]) (.seq (.seq (.region false [mV 8 1,
 oT 9 8,
 oO 10 .gtr 9 256,
 mV 11 10,
 oE 12 11 2,
 oC1 13 11 214 12,
 gF 14 11 (.un .not (.t 13)),
 oX 15 11 14]) (.cond (.t 15) (.seq (.region false [oP 16 (.build [(.bool false),.nil,(.int .i64 0)] []),
 oK 3 6 16 false,
 oP 7 (.mv (.c (.int .i64 1)))]) .ret) .skip)) (.seq (.region false [mV 17 0,
 mV 18 1,
 mV 19 2,
 oA3 20 85 17 18 19,
 oA1 21 184 20,
 oR 22 0 21,
 oR 23 1 21,
 oK 3 6 22 false,
 mV 7 23]) .ret))),
 false,false⟩
@[simp] def qmk:AFn:=⟨[(.cell 0 true 7)],
 (.seq (.region false [oL 0]) (.seq (.region false [oP 1 (.call (.f 210) [(.c (.int .i64 (-1)))]),
 oP 2 (.call (.f 210) [(.c (.int .i64 1))]),
 oP 3 (.build [(.bool false),.nil,(.int .i64 0),(.bool false),.nil,(.int .i64 0),(.bool false)] [(0,3,(.t 1)),(3,3,(.t 2))]),
 oK 7 0 3 false]) .ret)),
 false,false⟩
@[simp] def qko:AFn:=⟨[(.cell 6 true 7)],
 (.seq (.region false [oU 3 3 0,
 oL 6]) (.seq (.seq (.region false [oI 12 3 3,
 oA1 13 79 12,
 oO 14 .eql 13 0]) (.cond (.t 14) (.seq (.seq (.region false [mV 15 1]) (.cond (.t 15) (.seq (.region false [oP 16 (.call (.f 210) [(.c (.int .i64 1))]),
 oA1 17 152 16,
 oK 7 6 17 false]) .ret) .skip)) (.seq (.region false [oI 18 3 3,
 oA1 19 152 18,
 oK 7 6 19 false]) .ret)) .skip)) (.seq (.region false [mV 20 2,
 oO 21 .add 20 64,
 mV 7 21]) (.seq (.region false [oI 23 3 3,
 mV 24 7,
 oA2 25 509 23 24,
 mV 22 25,
 oR 26 0 22,
 oR 27 1 22,
 oP 8 (.new 2 (.agg [(.bool false),.nil])),
 oK 2 8 26 false,
 mV 9 27]) (.seq (.region false [oI 29 2 8,
 mV 30 7,
 oA2 31 510 29 30,
 mV 28 31,
 oR 32 0 28,
 oR 33 1 28,
 oP 10 (.new 2 (.agg [(.bool false),.nil])),
 oP 11 (.new 2 (.agg [(.bool false),.nil])),
 oK 2 10 32 false,
 oK 2 11 33 false]) (.seq (.seq (.region false [mV 34 1]) (.cond (.t 34) (.region false [mV 35 9,
 oO 36 .add 35 1,
 mV 9 36]) .skip)) (.seq (.seq (.region false [mV 37 9,
 oO 38 .rem 37 4]) (.block 0 (.seq (.region false [oO 40 .eql 38 1,
 mV 39 40]) (.cond (.t 39) (.region false [oI 41 2 11,
 oK 2 10 41 false]) (.seq (.region false [oO 43 .eql 38 2,
 mV 42 43]) (.cond (.t 42) (.region false [oI 44 2 10,
 oA1 45 495 44,
 oK 2 10 45 false]) (.seq (.region false [oO 47 .eql 38 3,
 mV 46 47]) (.cond (.t 46) (.region false [oI 48 2 11,
 oA1 49 495 48,
 oK 2 10 49 false]) .skip)))))))) (.seq (.region false [oI 50 2 10,
 mV 51 7,
 mV 52 2,
 oA3 53 481 50 51 52,
 oK 7 6 53 false]) .ret)))))))),
 false,false⟩
@[simp] def qkp:AFn:=⟨[(.tmp 6)],
 (.seq (.region false [oU 3 7 0,
 oZ 6 false]) (.seq (.region true [oQ 18 0 3,
 oI 19 3 18,
 oA1 20 98 19,
 oQ 21 3 3,
 oI 22 3 21,
 oB1 23 98 22,
 oP 24 (.max3 (.t 20) (.t 23) (.c (.int .i64 0))),
 mV 7 24]) (.seq (.region false [mV 25 2,
 mV 26 7,
 oN 27 .add 25 26,
 oO 28 .add 27 40,
 mV 8 28]) (.seq (.region false [mV 29 8,
 oA1 30 482 29,
 oP 9 (.new 2 (.agg [(.bool false),.nil])),
 oK 2 9 30 false]) (.seq (.region false [oQ 31 1 9,
 oJ 32 31,
 oP 33 (.call (.f 493) [(.t 32),(.c (.int .i64 1))]),
 oP 34 (.build [(.bool false),.nil] [(0,1,(.c (.bool false))),(1,1,(.t 33))]),
 oP 10 (.new 2 (.agg [(.bool false),.nil])),
 oK 2 10 34 false]) (.seq (.region true [mV 35 1,
 oA1 36 511 35,
 oI 37 2 9,
 oP 38 (.call (.f 512) [(.t 36),(.t 37),(.c (.int .i64 0))]),
 oP 39 (.field false 1 1 (.t 38)),
 oP 40 (.call (.f 504) [(.t 39),(.c (.int .i64 1))]),
 oP 41 (.build [(.bool false),.nil] [(0,1,(.c (.bool false))),(1,1,(.t 40))]),
 oP 11 (.new 2 (.agg [(.bool false),.nil])),
 oK 2 11 41 true]) (.seq (.region false [oP 42 (.bslice 1 1 (.int .u32 0) [(0,(.c (.int .u32 1)))]),
 mV 43 7,
 oO 44 .add 43 24,
 oO 45 .add 44 4,
 oA2 46 493 42 45,
 oP 47 (.build [(.bool false),.nil] [(0,1,(.c (.bool false))),(1,1,(.t 46))]),
 oP 12 (.new 2 (.agg [(.bool false),.nil])),
 oK 2 12 47 false]) (.seq (.region true [oQ 48 3 3,
 oI 49 3 48,
 mV 50 8,
 oA2 51 503 49 50,
 oI 52 2 11,
 oA1 53 495 52,
 oA2 54 494 51 53,
 oI 55 2 12,
 oA2 56 494 54 55,
 oI 57 2 10,
 oA2 58 513 56 57,
 oP 13 (.new 2 (.agg [(.bool false),.nil])),
 oK 2 13 58 true]) (.seq (.region false [oQ 60 1 13,
 oJ 61 60,
 oQ 62 1 10,
 oJ 63 62,
 oA2 64 238 61 63,
 mV 59 64,
 oR 65 0 59,
 oR 66 1 59,
 mV 14 65,
 mV 15 66]) (.seq (.region false [oQ 67 0 13,
 oJ 68 67,
 mV 69 14,
 oP 70 (.build [(.bool false),.nil] [(0,1,(.t 68)),(1,1,(.t 69))]),
 oI 71 2 11,
 oA2 72 494 70 71,
 oP 16 (.new 2 (.agg [(.bool false),.nil])),
 oK 2 16 72 false]) (.seq (.region true [oI 73 2 16,
 oQ 74 0 3,
 oI 75 3 74,
 mV 76 8,
 oA2 77 503 75 76,
 oA1 78 495 77,
 oA2 79 494 73 78,
 oI 80 2 12,
 oA2 81 494 79 80,
 oP 17 (.new 2 (.agg [(.bool false),.nil])),
 oK 2 17 81 true]) (.seq (.region false [oI 82 2 17,
 oA1 83 514 82,
 mV 84 83,
 gF 85 84 (.faddr 0 (.t 17)),
 oG 86 84 false 1 85,
 gF 87 84 (.un .not (.t 86)),
 oX 88 84 87,
 mV 6 88]) .ret)))))))))))),
 false,false⟩
def qi7:AC:=(.seq (.region false [oO 16 .lss 15 3]) (.seq (.cond (.t 16) .skip (.exit 0)) (.seq (.block 1 (.seq (.region true [oI 17 2 5,
 oI 18 2 2,
 oI 19 2 2,
 oJ 20 3,
 oA3 21 512 18 19 20,
 oA2 22 494 17 21,
 oP 6 (.new 2 (.agg [(.bool false),.nil])),
 oK 2 6 22 true]) (.seq (.region false [oQ 24 1 6,
 oJ 25 24,
 oJ 26 3,
 oA2 27 493 25 26,
 oA1 28 253 27,
 mV 23 28,
 oR 29 0 23,
 oR 30 1 23,
 mV 7 29,
 mV 8 30]) (.region true [oI 31 2 2,
 oI 32 2 5,
 mV 33 7,
 oP 34 (.build [(.bool false),.nil] [(0,1,(.c (.bool false))),(1,1,(.t 33))]),
 oA2 35 494 32 34,
 oJ 36 3,
 oB3 37 515 31 35 36,
 oK 2 2 37 true])))) (.region false [oO 38 .add 15 1,
 mV 15 38]))))
@[simp] def qnq:AFn:=⟨[(.cell 4 true 2)],
 (.seq (.region false [oU 2 2 0,
 oU 3 1 1,
 oP 4 (.new 2 (.agg [(.bool false),.nil]))]) (.seq (.region false [oP 11 (.bslice 1 1 (.int .u32 0) [(0,(.c (.int .u32 1)))]),
 oJ 12 3,
 oA2 13 493 11 12,
 oP 14 (.build [(.bool false),.nil] [(0,1,(.c (.bool false))),(1,1,(.t 13))]),
 oP 5 (.new 2 (.agg [(.bool false),.nil])),
 oK 2 5 14 false]) (.seq (.seq (.region false [oP 15 (.mv (.c (.int .i64 0)))]) (.block 0 (.loop qi7))) (.seq (.region false [oI 39 2 2,
 oI 40 2 2,
 oJ 41 3,
 oA3 42 512 39 40 41,
 oP 9 (.new 2 (.agg [(.bool false),.nil])),
 oK 2 9 42 false]) (.seq (.region false [oI 43 2 2,
 oP 44 (.mkfn 516 [(.t 9),(.t 3)]),
 oA2 45 506 43 44,
 oP 10 (.new 2 (.agg [(.bool false),.nil])),
 oK 2 10 45 false]) (.seq (.region false [oQ 46 1 10,
 oJ 47 46,
 oP 48 (.call (.f 493) [(.t 47),(.c (.int .i64 3))]),
 oP 49 (.build [(.bool false),.nil] [(0,1,(.c (.bool false))),(1,1,(.t 48))]),
 oK 2 4 49 false]) .ret)))))),
 false,false⟩
@[simp] def qpa:AFn:=⟨[(.cell 4 true 2)],
 (.seq (.region false [oU 2 3 0,
 oP 4 (.new 2 (.agg [(.bool false),.nil]))]) (.seq (.seq (.region false [oQ 6 2 2,
 oJ 7 6,
 mV 8 1,
 oN 9 .add 7 8,
 mV 5 9]) (.seq (.region false [mV 10 5,
 oO 11 .lss 10 0]) (.cond (.t 11) (.seq (.region true [oQ 12 0 2,
 oJ 13 12,
 oQ 14 1 2,
 oJ 15 14,
 mV 16 5,
 oP 17 (.un .neg (.t 16)),
 oA2 18 504 15 17,
 oP 19 (.build [(.bool false),.nil] [(0,1,(.t 13)),(1,1,(.t 18))]),
 oK 2 4 19 true]) .ret) .skip))) (.seq (.region true [oQ 20 0 2,
 oJ 21 20,
 oQ 22 1 2,
 oJ 23 22,
 oQ 24 2 2,
 oJ 25 24,
 mV 26 1,
 oN 27 .add 25 26,
 oA2 28 493 23 27,
 oP 29 (.build [(.bool false),.nil] [(0,1,(.t 21)),(1,1,(.t 28))]),
 oK 2 4 29 true]) .ret))),
 false,false⟩
@[simp] def qkn:AFn:=⟨[(.tmp 4)],
 (.seq (.region false [oP 4 (.mv (.c .nil))]) (.seq (.region false [mV 8 0,
 mV 9 1,
 oA2 10 246 8 9,
 mV 7 10,
 oR 11 0 7,
 oR 12 1 7,
 mV 5 11,
 mV 6 12]) (.seq (.region false [mV 13 5,
 mV 4 13]) .ret))),
 false,false⟩
@[simp] def qev:AFn:=⟨[(.cell 4 true 2)],
 (.seq (.region false [oU 2 3 0,
 oP 4 (.new 2 (.agg [(.bool false),.nil]))]) (.seq (.seq (.region false [oQ 8 2 2,
 oJ 9 8,
 mV 10 1,
 oN 11 .gtr 9 10]) (.cond (.t 11) (.seq (.region false [oP 12 (.build [(.bool false),.nil] []),
 oK 2 4 12 false]) .ret) .skip)) (.seq (.region true [oP 14 (.mv (.c (.sl [(.int .u32 1)]))),
 mV 15 1,
 oQ 16 2 2,
 oJ 17 16,
 oN 18 .sub 15 17,
 oA2 19 493 14 18,
 oQ 20 1 2,
 oJ 21 20,
 oB2 22 240 19 21,
 mV 13 22,
 oR 23 0 13,
 oR 24 1 13,
 oR 25 2 13,
 mV 5 23,
 mV 6 24,
 mV 7 25]) (.seq (.region false [mV 26 5,
 oP 27 (.build [(.bool false),.nil] [(0,1,(.c (.bool false))),(1,1,(.t 26))]),
 oK 2 4 27 false]) .ret)))),
 false,false⟩
def qfm:AC:=(.seq (.block 1 (.seq (.region false [mV 11 1,
 oI 12 2 2,
 oP 13 (.call (.t 11) [(.t 12)]),
 oK 2 2 13 false]) (.seq (.seq (.region false [oI 14 2 2,
 oA1 15 514 14]) (.cond (.t 15) (.seq (.region false [oI 16 2 5,
 oK 2 4 16 false]) .ret) .skip)) (.seq (.region false [oI 17 2 2,
 mV 18 6,
 oP 19 (.bin .num .mul (.c (.int .i64 2)) (.t 18)),
 oO 20 .add 19 1,
 oA2 21 507 17 20,
 oP 7 (.new 2 (.agg [(.bool false),.nil])),
 oK 2 7 21 false]) (.seq (.seq (.region false [mV 22 6,
 oO 23 .rem 22 2,
 oO 24 .eql 23 1]) (.cond (.t 24) (.region false [oI 25 2 7,
 oA1 26 495 25,
 oK 2 7 26 false]) .skip)) (.region false [oI 27 2 5,
 oI 28 2 7,
 oA2 29 494 27 28,
 oK 2 5 29 false])))))) (.region false [mV 9 6,
 oO 10 .add 9 1,
 mV 6 10]))
@[simp] def qea:AFn:=⟨[(.cell 4 true 2)],
 (.seq (.region false [oU 2 2 0,
 oP 4 (.new 2 (.agg [(.bool false),.nil]))]) (.seq (.region false [oI 8 2 2,
 oP 5 (.new 2 (.agg [(.bool false),.nil])),
 oK 2 5 8 false]) (.seq (.region false [oP 6 (.mv (.c (.int .i64 1)))]) (.block 0 (.loop qfm))))),
 false,false⟩
@[simp] def qf7:AFn:=⟨[(.cell 4 true 2)],
 (.seq (.region false [oU 2 2 0,
 oP 4 (.new 2 (.agg [(.bool false),.nil]))]) (.seq (.region true [oQ 9 1 2,
 oJ 10 9,
 mV 11 1,
 oA1 12 511 11,
 oP 13 (.field false 1 1 (.t 12)),
 oB2 14 240 10 13,
 mV 8 14,
 oR 15 0 8,
 oR 16 1 8,
 oR 17 2 8,
 mV 5 15,
 mV 6 16,
 mV 7 17]) (.seq (.region false [oQ 18 0 2,
 oJ 19 18,
 mV 20 5,
 oP 21 (.build [(.bool false),.nil] [(0,1,(.t 19)),(1,1,(.t 20))]),
 oK 2 4 21 false]) .ret))),
 false,false⟩
@[simp] def qfl:AFn:=⟨[(.cell 3 true 2)],
 (.seq (.region false [oU 2 2 0,
 oP 3 (.new 2 (.agg [(.bool false),.nil]))]) (.seq (.region false [oI 4 2 2,
 oJ 5 1,
 oJ 6 1,
 oN 7 .mul 5 6,
 oA2 8 507 4 7,
 oK 2 3 8 false]) .ret)),
 false,false⟩
@[simp] def qhf:AFn:=⟨[(.cell 4 true 2),(.tmp 5)],
 (.seq (.region false [oU 2 3 0,
 oP 4 (.new 2 (.agg [(.bool false),.nil])),
 oP 5 (.mv (.c (.int .i64 0)))]) (.seq (.region false [oI 17 3 2,
 oA1 18 98 17,
 oP 19 (.max (.t 18) (.c (.int .i64 0))),
 mV 6 19]) (.seq (.region false [mV 20 1,
 mV 21 6,
 oN 22 .add 20 21,
 oO 23 .add 22 40,
 mV 7 23]) (.seq (.region false [mV 24 7,
 oA1 25 482 24,
 oP 26 (.field false 1 1 (.t 25)),
 oP 27 (.call (.f 504) [(.t 26),(.c (.int .i64 1))]),
 oP 28 (.build [(.bool false),.nil] [(0,1,(.c (.bool false))),(1,1,(.t 27))]),
 oP 8 (.new 2 (.agg [(.bool false),.nil])),
 oK 2 8 28 false]) (.seq (.region false [oI 29 3 2,
 mV 30 7,
 oA2 31 503 29 30,
 oP 9 (.new 2 (.agg [(.bool false),.nil])),
 oK 2 9 31 false]) (.seq (.region false [oQ 33 1 9,
 oJ 34 33,
 oQ 35 1 8,
 oJ 36 35,
 oA2 37 240 34 36,
 mV 32 37,
 oR 38 0 32,
 oR 39 1 32,
 oR 40 2 32,
 mV 10 38,
 mV 11 39,
 mV 12 40]) (.seq (.region false [mV 42 10,
 oQ 43 1 8,
 oJ 44 43,
 oA2 45 238 42 44,
 mV 41 45,
 oR 46 0 41,
 oR 47 1 41,
 mV 13 46,
 mV 14 47]) (.seq (.region false [oQ 48 0 9,
 oJ 49 48,
 oQ 50 1 9,
 oJ 51 50,
 oP 52 (.build [(.bool false),.nil] [(0,1,(.t 49)),(1,1,(.t 51))]),
 oQ 53 0 9,
 oJ 54 53,
 oW 55 54,
 mV 56 13,
 oP 57 (.build [(.bool false),.nil] [(0,1,(.t 55)),(1,1,(.t 56))]),
 oA2 58 494 52 57,
 oP 15 (.new 2 (.agg [(.bool false),.nil])),
 oK 2 15 58 false]) (.seq (.region false [oP 16 (.mv (.c (.int .i64 0)))]) (.seq (.seq (.region false [mV 59 10,
 oT 60 59,
 oO 61 .gtr 60 0]) (.cond (.t 61) (.region false [mV 62 10,
 oP 63 (.iaddr 1 (.t 62) (.c (.int .i64 0))),
 oJ 64 63,
 oP 65 (.bin .num .and (.t 64) (.c (.int .u32 3))),
 oP 66 (.conv .i64 (.t 65)),
 mV 16 66]) .skip)) (.seq (.seq (.region false [oQ 67 0 9,
 oJ 68 67]) (.cond (.t 68) (.region false [mV 69 16,
 oP 70 (.bin .num .sub (.c (.int .i64 4)) (.t 69)),
 oO 71 .and 70 3,
 mV 16 71]) .skip)) (.seq (.region true [oQ 72 0 15,
 oJ 73 72,
 oQ 74 1 15,
 oJ 75 74,
 mV 76 6,
 oO 77 .add 76 40,
 oA2 78 504 75 77,
 oP 79 (.build [(.bool false),.nil] [(0,1,(.t 73)),(1,1,(.t 78))]),
 mV 80 16,
 oK 2 4 79 true,
 mV 5 80]) .ret)))))))))))),
 false,false⟩
def qjn:AC:=(.seq (.block 1 (.seq (.region false [oI 18 2 7,
 oI 19 2 2,
 mV 20 1,
 oA3 21 512 18 19 20,
 mV 22 8,
 oA2 23 507 21 22,
 oK 2 7 23 false]) (.seq (.seq (.region false [oI 24 2 7,
 oA1 25 514 24]) (.cond (.t 25) (.seq (.region true [oI 26 2 4,
 oP 27 (.sload true 2 5),
 ⟨none,.storeN 2 (.t 4) (.t 26) [5],none,true⟩,
 oK 2 5 27 true]) .ret) .skip)) (.seq (.region false [oI 28 2 7,
 oP 9 (.new 2 (.agg [(.bool false),.nil])),
 oK 2 9 28 false]) (.seq (.seq (.region false [mV 29 8,
 oO 30 .rem 29 4,
 oO 31 .geq 30 2]) (.cond (.t 31) (.region false [oI 32 2 9,
 oA1 33 495 32,
 oK 2 9 33 false]) .skip)) (.seq (.region false [mV 34 8,
 oO 35 .rem 34 2,
 oO 36 .eql 35 1]) (.cond (.t 36) (.region false [oI 37 2 4,
 oI 38 2 9,
 oA2 39 494 37 38,
 oK 2 4 39 false]) (.region false [oI 40 2 5,
 oI 41 2 9,
 oA2 42 494 40 41,
 oK 2 5 42 false])))))))) (.region false [mV 16 8,
 oO 17 .add 16 1,
 mV 8 17]))
@[simp] def qi6:AFn:=⟨[(.cell 4 true 2),(.cell 5 true 2)],
 (.seq (.region false [oU 2 2 0,
 oP 4 (.new 2 (.agg [(.bool false),.nil])),
 oP 5 (.new 2 (.agg [(.bool false),.nil]))]) (.seq (.region false [oP 10 (.bslice 1 1 (.int .u32 0) [(0,(.c (.int .u32 1)))]),
 mV 11 1,
 oA2 12 493 10 11,
 oP 13 (.build [(.bool false),.nil] [(0,1,(.c (.bool false))),(1,1,(.t 12))]),
 oP 6 (.new 2 (.agg [(.bool false),.nil])),
 oK 2 6 13 false]) (.seq (.region false [oI 14 2 6,
 oP 7 (.new 2 (.agg [(.bool false),.nil])),
 oK 2 7 14 false]) (.seq (.region false [oI 15 2 6,
 oK 2 5 15 false]) (.seq (.region false [oP 8 (.mv (.c (.int .i64 1)))]) (.block 0 (.loop qjn))))))),
 false,false⟩
@[simp] def qkm:AFn:=⟨[(.cell 2 true 2)],
 (.seq (.region false [oP 2 (.new 2 (.agg [(.bool false),.nil]))]) (.seq (.region false [mV 4 0,
 oA1 5 210 4,
 oM 3,
 oK 3 3 5 false]) (.seq (.region true [oQ 6 0 3,
 oJ 7 6,
 oQ 8 1 3,
 oJ 9 8,
 oQ 10 2 3,
 oJ 11 10,
 oA2 12 493 9 11,
 oP 13 (.build [(.bool false),.nil] [(0,1,(.t 7)),(1,1,(.t 12))]),
 oK 2 2 13 true]) .ret))),
 false,false⟩
@[simp] def qeb:AFn:=⟨[(.cell 6 true 2)],
 (.seq (.region false [oU 3 2 0,
 oU 4 2 1,
 oP 6 (.new 2 (.agg [(.bool false),.nil]))]) (.seq (.region false [oQ 10 1 3,
 oJ 11 10,
 oQ 12 1 4,
 oJ 13 12,
 oA2 14 238 11 13,
 mV 9 14,
 oR 15 0 9,
 oR 16 1 9,
 mV 7 15,
 mV 8 16]) (.seq (.region true [oQ 17 0 3,
 oJ 18 17,
 oQ 19 0 4,
 oJ 20 19,
 oP 21 (.bin .bool .neq (.t 18) (.t 20)),
 mV 22 7,
 mV 23 2,
 oA2 24 504 22 23,
 oP 25 (.build [(.bool false),.nil] [(0,1,(.t 21)),(1,1,(.t 24))]),
 oK 2 6 25 true]) .ret))),
 false,false⟩
@[simp] def qkq:AFn:=⟨[(.cell 4 true 2)],
 (.seq (.region false [oU 2 2 0,
 oU 3 2 1,
 oP 4 (.new 2 (.agg [(.bool false),.nil]))]) (.seq (.region false [oQ 10 1 2,
 oJ 11 10,
 oQ 12 1 3,
 oJ 13 12,
 oA2 14 240 11 13,
 mV 9 14,
 oR 15 0 9,
 oR 16 1 9,
 oR 17 2 9,
 mV 5 15,
 mV 6 16,
 mV 7 17]) (.seq (.region false [oQ 18 0 2,
 oJ 19 18,
 mV 20 5,
 oP 21 (.build [(.bool false),.nil] [(0,1,(.t 19)),(1,1,(.t 20))]),
 oP 8 (.new 2 (.agg [(.bool false),.nil])),
 oK 2 8 21 false]) (.seq (.seq (.region false [oQ 22 0 2,
 oJ 23 22,
 mV 24 23,
 oF 25 24 6,
 oD1 26 24 110 25,
 gT 27 24 (.bin .num .gtr (.t 26) (.c (.int .i64 0))),
 oY 28 24 27]) (.cond (.t 28) (.region true [oI 29 2 8,
 oP 30 (.call (.f 511) [(.c (.int .i64 (-1)))]),
 oB2 31 494 29 30,
 oK 2 8 31 true]) .skip)) (.seq (.region false [oI 32 2 8,
 oK 2 4 32 false]) .ret))))),
 false,false⟩
@[simp] def qew:AFn:=⟨[(.tmp 2)],
 (.seq (.region false [oU 1 2 0,
 oZ 2 false]) (.seq (.region false [oQ 3 1 1,
 oJ 4 3,
 oA1 5 110 4,
 oO 6 .eql 5 0,
 mV 2 6]) .ret)),
 false,false⟩
@[simp] def qex:AFn:=⟨[(.cell 6 true 2)],
 (.seq (.region false [oU 3 2 0,
 oU 4 2 1,
 oP 6 (.new 2 (.agg [(.bool false),.nil]))]) (.seq (.region true [oQ 11 1 3,
 oJ 12 11,
 mV 13 2,
 oA2 14 493 12 13,
 oQ 15 1 4,
 oJ 16 15,
 oB2 17 240 14 16,
 mV 10 17,
 oR 18 0 10,
 oR 19 1 10,
 oR 20 2 10,
 mV 7 18,
 mV 8 19,
 mV 9 20]) (.seq (.region false [oQ 21 0 3,
 oJ 22 21,
 oQ 23 0 4,
 oJ 24 23,
 oP 25 (.bin .bool .neq (.t 22) (.t 24)),
 mV 26 7,
 oP 27 (.build [(.bool false),.nil] [(0,1,(.t 25)),(1,1,(.t 26))]),
 oK 2 6 27 false]) .ret))),
 false,false⟩
@[simp] def qkr:AFn:=⟨[(.cell 4 true 2)],
 (.seq (.region false [oU 3 2 0,
 oP 4 (.new 2 (.agg [(.bool false),.nil]))]) (.seq (.region false [oI 5 2 3,
 oI 6 2 1,
 oJ 7 2,
 oA3 8 512 5 6 7,
 oK 2 4 8 false]) .ret)),
 false,false⟩
end Go.Abs
namespace Go.Abs
end Go.Abs
namespace Go.Abs
abbrev quw:Nat:=12
abbrev qzi:Nat:=18
abbrev quy:Nat:=23
abbrev qju:Nat:=49
abbrev qwn:Nat:=51
abbrev q1s:Nat:=52
abbrev qwh:Nat:=54
abbrev qzf:Nat:=55
abbrev qzg:Nat:=56
abbrev qzh:Nat:=57
abbrev qup:Nat:=60
abbrev qqx:Nat:=63
abbrev qsd:Nat:=65
abbrev qum:Nat:=70
abbrev qwd:Nat:=71
abbrev qp1:Nat:=74
abbrev qr7:Nat:=77
abbrev qsi:Nat:=78
abbrev qzo:Nat:=79
abbrev qsj:Nat:=80
abbrev qwg:Nat:=84
abbrev q1o:Nat:=85
abbrev qwf:Nat:=86
abbrev quv:Nat:=87
abbrev que:Nat:=90
abbrev qv7:Nat:=91
abbrev qv8:Nat:=92
abbrev quj:Nat:=93
abbrev quf:Nat:=94
abbrev qpt:Nat:=96
abbrev qzn:Nat:=97
abbrev q1q:Nat:=98
abbrev qps:Nat:=99
abbrev qsh:Nat:=100
abbrev qda:Nat:=101
abbrev qus:Nat:=102
abbrev quu:Nat:=103
abbrev qub:Nat:=104
abbrev quc:Nat:=105
abbrev qr4:Nat:=106
abbrev qr6:Nat:=107
abbrev quk:Nat:=108
abbrev qul:Nat:=109
abbrev qom:Nat:=110
abbrev qol:Nat:=111
abbrev qpr:Nat:=112
abbrev qk0:Nat:=113
abbrev qv4:Nat:=114
abbrev qjt:Nat:=115
abbrev qy0:Nat:=116
abbrev qgl:Nat:=117
abbrev qr1:Nat:=118
abbrev qoc:Nat:=119
abbrev qja:Nat:=120
abbrev qv6:Nat:=133
abbrev qpy:Nat:=145
abbrev qpu:Nat:=146
abbrev qy8:Nat:=148
abbrev qr8:Nat:=152
abbrev qun:Nat:=153
abbrev qpv:Nat:=154
abbrev qsc:Nat:=155
abbrev qza:Nat:=157
abbrev qnc:Nat:=159
abbrev qr5:Nat:=160
abbrev qpw:Nat:=166
abbrev qy9:Nat:=167
abbrev qud:Nat:=173
abbrev qwb:Nat:=174
abbrev qpx:Nat:=175
abbrev qux:Nat:=182
abbrev qqz:Nat:=184
abbrev qqy:Nat:=185
abbrev qod:Nat:=186
abbrev qyx:Nat:=188
abbrev qwc:Nat:=195
abbrev qze:Nat:=196
abbrev qv9:Nat:=197
abbrev q1r:Nat:=198
abbrev q1n:Nat:=199
abbrev q7w:Nat:=200
abbrev qwa:Nat:=202
abbrev qzb:Nat:=203
abbrev q1t:Nat:=205
abbrev qzc:Nat:=206
abbrev qro:Nat:=210
abbrev qp0:Nat:=214
abbrev qut:Nat:=215
abbrev q3y:Nat:=216
abbrev quq:Nat:=219
abbrev qur:Nat:=220
abbrev qdl:Nat:=221
abbrev qyv:Nat:=222
abbrev qq0:Nat:=223
abbrev qsk:Nat:=224
abbrev qp3:Nat:=225
abbrev qwk:Nat:=226
abbrev qse:Nat:=227
abbrev qzl:Nat:=228
abbrev qzd:Nat:=229
abbrev qp2:Nat:=232
abbrev qyw:Nat:=235
abbrev qt6:Nat:=236
abbrev qv2:Nat:=237
abbrev qy5:Nat:=238
abbrev qr3:Nat:=240
abbrev q3x:Nat:=241
abbrev qwe:Nat:=242
abbrev q7v:Nat:=243
abbrev qsg:Nat:=244
abbrev q1p:Nat:=245
abbrev qy4:Nat:=246
abbrev qei:Nat:=247
abbrev qwj:Nat:=248
abbrev qrn:Nat:=249
abbrev qzk:Nat:=250
abbrev qzm:Nat:=251
abbrev qpz:Nat:=252
abbrev qv5:Nat:=253
abbrev qt8:Nat:=254
abbrev qt7:Nat:=255
abbrev q3w:Nat:=256
abbrev qy6:Nat:=257
abbrev qy3:Nat:=258
abbrev qy1:Nat:=259
abbrev qr2:Nat:=260
abbrev qh3:Nat:=261
abbrev qyz:Nat:=262
abbrev qzj:Nat:=263
abbrev qy2:Nat:=264
abbrev qzp:Nat:=265
abbrev qyy:Nat:=266
abbrev qt9:Nat:=267
abbrev qjb:Nat:=268
abbrev qua:Nat:=269
abbrev qv3:Nat:=270
abbrev qqw:Nat:=271
abbrev qqu:Nat:=272
abbrev qqv:Nat:=273
abbrev qna:Nat:=274
abbrev qmz:Nat:=453
abbrev qu1:Nat:=462
abbrev q30:Nat:=463
abbrev quz:Nat:=464
abbrev qmw:Nat:=465
abbrev qsf:Nat:=466
abbrev qu0:Nat:=467
abbrev qmx:Nat:=468
abbrev qwm:Nat:=469
abbrev q1v:Nat:=470
abbrev q1w:Nat:=471
abbrev qsa:Nat:=472
abbrev qwl:Nat:=473
abbrev qzu:Nat:=474
abbrev qsb:Nat:=476
abbrev qsm:Nat:=480
abbrev qzr:Nat:=481
abbrev q3z:Nat:=482
abbrev qy7:Nat:=483
abbrev qug:Nat:=484
abbrev qui:Nat:=485
abbrev qzt:Nat:=486
abbrev qnb:Nat:=487
abbrev qr9:Nat:=488
abbrev qws:Nat:=489
abbrev qzs:Nat:=493
abbrev qp4:Nat:=494
abbrev qof:Nat:=495
abbrev qsn:Nat:=496
abbrev quh:Nat:=497
abbrev qwi:Nat:=498
abbrev qzq:Nat:=499
abbrev qwp:Nat:=500
abbrev qwq:Nat:=501
abbrev q1u:Nat:=502
abbrev qu3:Nat:=503
abbrev qwo:Nat:=504
abbrev qoz:Nat:=505
abbrev qd6:Nat:=506
abbrev qq1:Nat:=507
abbrev qe6:Nat:=508
abbrev qsl:Nat:=509
abbrev qu2:Nat:=510
abbrev qjv:Nat:=511
abbrev qoe:Nat:=512
abbrev qwr:Nat:=513
abbrev qo0:Nat:=514
abbrev qo1:Nat:=515
abbrev qjw:Nat:=516
def fnList:List (Nat × AFn) :=
 [(12,qiz),
  (18,qmb),
  (23,qi1),
  (49,qkd),
  (51,qkl),
  (52,qno),
  (54,qke),
  (55,ql7),
  (56,ql8),
  (57,ql9),
  (60,qis),
  (63,qf1),
  (65,qg3),
  (70,qip),
  (71,qj8),
  (74,qma),
  (77,qgv),
  (78,qhc),
  (79,qmi),
  (80,qhd),
  (84,qkc),
  (85,qni),
  (86,qkb),
  (87,qiy),
  (90,qig),
  (91,qj2),
  (92,qj3),
  (93,qim),
  (94,qih),
  (96,qfc),
  (97,qmh),
  (98,qnl),
  (99,qho),
  (100,qhb),
  (101,qka),
  (102,qiv),
  (103,qix),
  (104,qid),
  (105,qie),
  (106,qgs),
  (107,qgu),
  (108,qin),
  (109,qio),
  (110,qgd),
  (111,qek),
  (112,qls),
  (113,qdy),
  (114,qjy),
  (115,qjz),
  (116,qhn),
  (117,qbt),
  (118,qgp),
  (119,qd8),
  (120,qce),
  (133,qj1),
  (145,ql2),
  (146,qlw),
  (148,qlx),
  (152,qgw),
  (153,qir),
  (154,qly),
  (155,qg2),
  (157,ql3),
  (159,qiq),
  (160,qgt),
  (166,ql0),
  (167,qlz),
  (173,qif),
  (174,qj6),
  (175,ql1),
  (182,qi0),
  (184,qf4),
  (185,qf3),
  (186,qd9),
  (188,qll),
  (195,qj7),
  (196,ql6),
  (197,qj4),
  (198,qnm),
  (199,qnh),
  (200,qq6),
  (202,qj5),
  (203,ql4),
  (205,qnp),
  (206,ql5),
  (210,qnn),
  (214,qfj),
  (215,qiw),
  (216,c_round_add),
  (219,qit),
  (220,qiu),
  (221,qdn),
  (222,qlj),
  (223,qf6),
  (224,qhe),
  (225,qfk),
  (226,qki),
  (227,qg7),
  (228,qme),
  (229,c_fpref03_Cut),
  (232,qmf),
  (235,qlk),
  (236,c_round_sum),
  (237,qjx),
  (238,qlt),
  (240,qgr),
  (241,qo8),
  (242,qj9),
  (243,qq5),
  (244,qha),
  (245,qnk),
  (246,qlr),
  (247,qkh),
  (248,qkg),
  (249,qnj),
  (250,qmd),
  (251,qmg),
  (252,qfe),
  (253,qj0),
  (254,c_round_cut),
  (255,qh8),
  (256,qo7),
  (257,qlu),
  (258,qlq),
  (259,qlo),
  (260,qgq),
  (261,qca),
  (262,qln),
  (263,qmc),
  (264,qlp),
  (265,qmj),
  (266,qlm),
  (267,qh9),
  (268,qcf),
  (269,qia),
  (270,qgc),
  (271,qfz),
  (272,qfx),
  (273,qfy),
  (274,qic),
  (453,qdc),
  (462,qi4),
  (463,qpb),
  (464,qi2),
  (465,qg0),
  (466,qg8),
  (467,qi3),
  (468,qg9),
  (469,qkk),
  (470,qnr),
  (471,qns),
  (472,qgz),
  (473,qkj),
  (474,qmo),
  (476,qg1),
  (480,qhg),
  (481,qml),
  (482,qo9),
  (483,qlv),
  (484,qii),
  (485,qik),
  (486,qmn),
  (487,qil),
  (488,qgx),
  (489,qks),
  (493,qmm),
  (494,qfn),
  (495,qec),
  (496,qhh),
  (497,qij),
  (498,qkf),
  (499,qmk),
  (500,qko),
  (501,qkp),
  (502,qnq),
  (503,qpa),
  (504,qkn),
  (505,qev),
  (506,qea),
  (507,qf7),
  (508,qfl),
  (509,qhf),
  (510,qi6),
  (511,qkm),
  (512,qeb),
  (513,qkq),
  (514,qew),
  (515,qex),
  (516,qkr)]
end Go.Abs
namespace Go.Abs
section
variable {S : AProg}
def WC (S:AProg) (n0:Nat) (c:AC) (E:Env) (H:Heap) (Q:AX→Env→Heap→Prop):Prop :=
 ∃ x E1 H1,Ev S (.code n0 c E H) (.cd x E1 H1)∧Q x E1 H1
def WO (S:AProg) (n0:Nat) (d:Bool) (l:List AOper) (E:Env) (H:Heap) (Q:Env→Heap→Prop):Prop :=
 ∃ E1 H1,Ev S (.ops n0 d l E H) (.cd .normal E1 H1)∧Q E1 H1
def CT (S:AProg) (g:Nat) (args:List V) (H:Heap) (Q:V→Heap→Prop):Prop :=
 ∃ v H1,Ev S (.call g args H) (.ret v H1)∧Q v H1
def CQ (S:AProg) (g:Nat) (args:List V) (v:V):Prop:=∀ H,Ev S (.call g args H) (.ret v H)
variable {n0 : Nat} {E : Env} {H : Heap} {Q : AX → Env → Heap → Prop} {R : Env → Heap → Prop} {d : Bool}
theorem WC.mono {c:AC} {Q':AX→Env→Heap→Prop} (h:WC S n0 c E H Q) (hq:∀ x E H,Q x E H→Q' x E H):WC S n0 c E H Q' :=
 let ⟨x,E1,H1,e,q⟩:=h; ⟨x,E1,H1,e,hq _ _ _ q⟩
theorem WO.mono {l:List AOper} {R':Env→Heap→Prop} (h:WO S n0 d l E H R) (hq:∀ E H,R E H→R' E H):WO S n0 d l E H R' :=
 let ⟨E1,H1,e,q⟩:=h; ⟨E1,H1,e,hq _ _ q⟩
theorem CT.mono {g:Nat} {args:List V} {Q Q':V→Heap→Prop} (h:CT S g args H Q) (hq:∀ v H,Q v H→Q' v H):CT S g args H Q' :=
 let ⟨v,H1,e,q⟩:=h; ⟨v,H1,e,hq _ _ q⟩
theorem qakc (h:Q .normal E H):WC S n0 .skip E H Q:=⟨_,_,_,.skip,h⟩
theorem qake {id:Nat} (h:Q (.exit id) E H):WC S n0 (.exit id) E H Q:=⟨_,_,_,.exit,h⟩
theorem qani (h:Q .ret E H):WC S n0 .ret E H Q:=⟨_,_,_,.ret,h⟩
def AX.thn (K:Env→Heap→Prop) (Q:AX→Env→Heap→Prop):AX→Env→Heap→Prop
 | .normal,E,H=>K E H
 | x,E,H=>Q x E H
theorem qcv {a b:AC} (h:WC S n0 a E H (AX.thn (fun E H=>WC S n0 b E H Q) Q)):WC S n0 (.seq a b) E H Q:=by
 obtain ⟨x,E1,H1,e,q⟩:=h
 cases x with
 | normal=>obtain ⟨y,E2,H2,e2,q2⟩:=q; exact ⟨y,E2,H2,.seqN e e2,q2⟩
 | exit id=>exact ⟨_,_,_,.seqX e (by simp),q⟩
 | ret=>exact ⟨_,_,_,.seqX e (by simp),q⟩
theorem qac6 {c:X} {a b:AC} {t:Bool} (hc:getX E c=.bool t) (h1:t=true→WC S n0 a E H Q) (h2:t=false→WC S n0 b E H Q):WC S n0 (.cond c a b) E H Q:=by
 cases t with
 | true=>obtain ⟨x,E1,H1,e,q⟩:=h1 rfl; exact ⟨x,E1,H1,.cond hc (by simpa using e),q⟩
 | false=>obtain ⟨x,E1,H1,e,q⟩:=h2 rfl; exact ⟨x,E1,H1,.cond hc (by simpa using e),q⟩
theorem qakb {c:X} {a b:AC} (hc:getX E c=.bool true) (h:WC S n0 a E H Q):WC S n0 (.cond c a b) E H Q:=qac6 hc (fun _=>h) (by simp)
theorem qafv {c:X} {a b:AC} (hc:getX E c=.bool false) (h:WC S n0 b E H Q):WC S n0 (.cond c a b) E H Q:=qac6 hc (by simp) (fun _=>h)
theorem qafw {id:Nat} {c:AC} (h:WC S n0 c E H (fun x E H=>Q (x.outOf id) E H)):WC S n0 (.block id c) E H Q:=by
 obtain ⟨x,E1,H1,e,q⟩:=h
 exact ⟨_,_,_,.block e,q⟩
theorem qafu {c:AC} (h:WC S n0 c E H Q):WC S n0 (.scope c) E H Q:=by
 obtain ⟨x,E1,H1,e,q⟩:=h
 exact ⟨_,_,_,.scope e,q⟩
theorem qac5 {l:List AOper} (h:WO S n0 d l E H (fun E H=>Q .normal E H)):WC S n0 (.region d l) E H Q:=by
 obtain ⟨E1,H1,e,q⟩:=h
 exact ⟨_,_,_,.region e,q⟩
theorem qakd {c:AC} (I:Nat→Env→Heap→Prop) (k:Nat) (h0:I k E H)
   (round:∀ k E H,I k E H→WC S n0 c E H (AX.thn (fun E1 H1=>∃ j,j<k∧I j E1 H1) Q)):WC S n0 (.loop c) E H Q:=by
 induction k using Nat.strongRecOn generalizing E H with
 | _ k ih =>
   obtain ⟨x,E1,H1,e,q⟩:=round k E H h0
   cases x with
   | normal =>
     obtain ⟨j,hj,hI⟩:=q
     obtain ⟨y,E2,H2,e2,q2⟩:=ih j hj hI
     exact ⟨y,E2,H2,.loopN e e2,q2⟩
   | exit id=>exact ⟨_,_,_,.loopX e (by simp),q⟩
   | ret=>exact ⟨_,_,_,.loopX e (by simp),q⟩
theorem qanc (h:R E H):WO S n0 d [] E H R:=⟨_,_,.opNil,h⟩
def qac1 (S:AProg) (n0:Nat) (d:Bool) (dst:Option Nat) (x:X) (xs:List X) (gu:Option (Nat × Bool)) (sy:Bool) (l:List AOper) (E:Env) (H:Heap) (R:Env→Heap→Prop):Prop :=
 WO S n0 d (⟨dst,.call x xs,gu,sy⟩ :: l) E H R
def stepP (S:AProg) (n0:Nat) (d:Bool) (dst:Option Nat) (op:AOp) (gu:Option (Nat × Bool)) (sy:Bool) (l:List AOper) (E:Env) (H:Heap) (R:Env→Heap→Prop):Prop :=
 match gd ⟨dst,op,gu,sy⟩ E with
 | some false=>WO S n0 d l (put E dst .undef) H R
 | some true =>
   match op with
   | .call x xs=>qac1 S n0 d dst x xs none sy l E H R
   | op =>
     match stp n0 op E H with
     | some (v,H1)=>((d&&!sy)=true→H <+: H1)∧WO S n0 d l (put E dst v) H1 R
     | none=>False
 | none=>False
theorem qaj6 {dst:Option Nat} {op:AOp} {gu:Option (Nat × Bool)} {sy:Bool} {l:List AOper} (h:stepP S n0 d dst op gu sy l E H R):WO S n0 d (⟨dst,op,gu,sy⟩ :: l) E H R:=by
 unfold stepP at h
 split at h
 · rename_i hg
   obtain ⟨E1,H1,e,q⟩:=h
   exact ⟨_,_,.opSkip hg e,q⟩
 · rename_i hg
   split at h
   · obtain ⟨E1,H1,e,q⟩:=h
     refine ⟨E1,H1,?_,q⟩
     cases e with
     | opSkip hg' _=>simp [gd] at hg'
     | opDo _ hs _ _=>cases hs
     | opCall _ ho hx hp e1 hpre e2=>exact .opCall hg ho hx hp e1 hpre e2
   · split at h
     · rename_i v H1 hs
       obtain ⟨hp,E1,H2,e,q⟩:=h
       exact ⟨_,_,.opDo hg hs (fun hd hsy=>hp (by simp [hd]; simpa using hsy)) e,q⟩
     · exact h.elim
 · exact h.elim
theorem qand {dst:Option Nat} {op:AOp} {gu:Option (Nat × Bool)} {sy:Bool} {l:List AOper}:WO S n0 d (⟨dst,op,gu,sy⟩ :: l) E H R↔stepP S n0 d dst op gu sy l E H R:=by
 refine ⟨fun h=>?_,qaj6⟩
 obtain ⟨E1,H1,e,q⟩:=h
 unfold stepP
 cases e with
 | opSkip hg e1=>rw [hg]; exact ⟨_,_,e1,q⟩
 | opDo hg hs hp e1 =>
   rw [hg]
   cases op<;>first
     | (cases hs; done)
     | (simp only [] at hs ⊢; rw [hs]; exact ⟨fun h=>by simp at h; exact hp h.1 h.2,_,_,e1,q⟩)
 | opCall hg ho hx hp e1 hpre e2 =>
   simp only [] at ho
   subst ho
   rw [hg]
   exact ⟨_,_,.opCall rfl rfl hx hp e1 hpre e2,q⟩
theorem q8d:WO S n0 d [] E H R↔R E H:=by
 refine ⟨fun h=>?_,qanc⟩
 obtain ⟨E1,H1,e,q⟩:=h
 cases e; exact q
theorem qvr {dst:Option Nat} {sy:Bool} {l:List AOper} {x:X} {args caps vs:List V} {xs:List X} {g:Nat} {H1:Heap} (hx:getX E x=.fn g caps)
   (ha:xs.map (getX E)++caps=args) (hp:prep S g H args=some (vs,H1))
   (h:CT S g vs H1 (fun v H2=>((d&&!sy)=true→H <+: H2)∧WO S n0 d l (put E dst v) H2 R)):qac1 S n0 d dst x xs none sy l E H R:=by
 obtain ⟨v,H2,e,hpre,E1,H3,e1,q⟩:=h
 subst ha
 exact ⟨_,_,.opCall rfl rfl hx hp e (fun hd hsy=>hpre (by simp [hd]; simpa using hsy)) e1,q⟩
theorem CQ.ct {g:Nat} {args:List V} {v:V} {Q:V→Heap→Prop} (h:CQ S g args v) (hq:Q v H):CT S g args H Q:=⟨_,_,h H,hq⟩
theorem CQ_of {g:Nat} {f:AFn} {args:List V} {v:V} (hf:S.fn g=some f)
   (h:∀ H,WC S H.length f.body (E0 args) H (fun x E1 H1=>(x=.normal∨x=.ret)∧∃ v0,resV E1 H1 f.results=some v0∧fin f.own H.length H1 v0=some (v,H))):CQ S g args v:=by
 intro H
 obtain ⟨x,E1,H1,e,hx,v0,hr,hfin⟩:=h H
 exact .call hf e hx hr hfin
theorem CT_of {g:Nat} {f:AFn} {args:List V} {Q:V→Heap→Prop} (hf:S.fn g=some f)
   (h:WC S H.length f.body (E0 args) H (fun x E1 H1=>(x=.normal∨x=.ret)∧∃ v0 v H2,resV E1 H1 f.results=some v0∧fin f.own H.length H1 v0=some (v,H2)∧Q v H2)):CT S g args H Q:=by
 obtain ⟨x,E1,H1,e,hx,v0,v,H2,hr,hfin,hq⟩:=h
 exact ⟨_,_,.call hf e hx hr hfin,hq⟩
theorem qanq {g:Nat} {pre post:List V} {v:V} (h1:CQ S g (pre++.nil :: post) v) (h2:CQ S g (pre++.emp :: post) v):CQ S g (pre++.sl [] :: post) v:=fun H=>.emp (h1 H) (h2 H)
end
theorem q8p (E:Env) (d:Nat) (v:V) (i:Nat):upd E d v i=if i=d then v else E i:=rfl
theorem wrap_i64 {n:Int} (h1:-9223372036854775808≤n) (h2:n<9223372036854775808):IntKind.wrap .i64 n=n:=by
 simp [IntKind.wrap,IntKind.bits,IntKind.signed]; split<;>omega
theorem qadn {n:Int} (h1:0≤n) (h2:n<4294967296):IntKind.wrap .u32 n=n:=by
 simp only [IntKind.wrap,IntKind.bits,IntKind.signed]; simp; omega
theorem qaz {n:Int} (h1:0≤n) (h2:n<18446744073709551616):IntKind.wrap .u64 n=n:=by
 simp only [IntKind.wrap,IntKind.bits,IntKind.signed]; simp; omega
end Go.Abs
namespace Go.Abs
def prog:AProg:=⟨look fnList,fun _ _=>none⟩
end Go.Abs
namespace Go.Abs
def qed (z bytes:Nat) (x y:V) (H:Heap):Option (V × Heap) :=
   (elems H y).bind fun ys =>
     if qdk z ys=true then
       match x with
       | .nil =>
         if ys=[] then some (.nil,H)
         else if qbu ys.length bytes=true then some (.ref H.length z 0 ys.length,H++[some ⟨z,ys,true,true⟩]) else none
       | .ref b z' off len =>
         match H[b]? with
         | some (some k) =>
           if k.arr=true∧k.wr=true∧k.z=z∧z'=z∧off+len≤k.el.length∧qbu (len+ys.length) bytes=true then
             if ys=[] then some (.ref b z' off len,H)
             else some (.ref H.length z 0 (len+ys.length),H.set b none++[some ⟨z,(k.el.drop off).take len++ys,true,true⟩])
           else none
         | _=>none
       | _=>none
     else none
theorem q7h {n0 z bytes:Nat} {x y:X} {E:Env} {H:Heap}:stp n0 (.append z bytes x y) E H=qed z bytes (getX E x) (getX E y) H:=rfl
theorem qalj {n0:Nat} {E:Env} {H:Heap} {x:X}:stp n0 (.mv x) E H=(some (getX E x,H)):=rfl
theorem qadw {n0:Nat} {E:Env} {H:Heap} {c a b:X}:stp n0 (.pick c a b) E H =
   match getX E c with
   | .bool t=>some (if t then getX E a else getX E b,H)
   | _=>none:=rfl
theorem qah3 {n0:Nat} {E:Env} {H:Heap} {z:Nat} {x:X}:stp n0 (.box z x) E H =
   if (getX E x).cells.length=z∧(getX E x).isTup=false then some (.ptr H.length 0 0,H++[some ⟨z,[getX E x],false,true⟩]) else none:=rfl
theorem qahz {n0:Nat} {E:Env} {H:Heap} {z:Nat} {v:V}:stp n0 (.new z v) E H=(if v.cells.length=z∧v.pure=true then some (.ptr H.length 0 0,H++[some ⟨z,[v],false,true⟩]) else none):=rfl
theorem q9a {n0:Nat} {E:Env} {H:Heap} {zero:List V} {parts:List (Nat × Nat × X)}:stp n0 (.build zero parts) E H =
   if zero.all V.cellPure=true then (fillC zero (parts.map fun p=>(p.1,p.2.1,getX E p.2.2))).map fun cs=>(.agg cs,H) else none:=rfl
theorem q7g {n0:Nat} {E:Env} {H:Heap} {z len:Nat} {zero:V} {parts:List (Nat × X)}:stp n0 (.bslice z len zero parts) E H =
   if zero.cells.length=z∧zero.pure=true then
     (qe5 H (parts.map fun p=>getX E p.2)).bind fun (vs,H1) =>
       (fillE z (List.replicate len zero) ((parts.map (·.1)).zip vs)).map fun el=>(.ref H1.length z 0 len,H1++[some ⟨z,el,true,true⟩])
   else none:=rfl
theorem qadz {n0:Nat} {E:Env} {H:Heap} {ag:Bool} {z:Nat} {x:X}:stp n0 (.load ag z x) E H =
   match getX E x with
   | .eptr cs=>(wrapC ag z cs).map fun v=>(v,H)
   | .ptr b i off =>
     match H[b]? with
     | some (some k) =>
       match k.el[i]? with
       | some e=>(wrapC ag z (e.cells.drop off)).map fun v=>(v,H)
       | none=>none
     | _=>none
   | _=>none:=rfl
theorem q83 {n0:Nat} {E:Env} {H:Heap} {z:Nat} {a x:X}:stp n0 (.store z a x) E H=(qla n0 z (getX E a) (getX E x) H):=rfl
theorem q84 {n0:Nat} {E:Env} {H:Heap} {ag:Bool} {z t:Nat}:stp n0 (.sload ag z t) E H =
   match E t with
   | .eptr cs=>(wrapC ag z cs).map fun v=>(v,H)
   | .ptr b i off =>
     match H[b]? with
     | some (some k) =>
       match k.el[i]? with
       | some e=>(wrapC ag z (e.cells.drop off)).bind fun v=>if v.cells.all (V.lowB H.length)=true∧v.isTup=false then some (v,H) else none
       | none=>none
     | _=>none
   | _=>none:=rfl
theorem q7e {n0:Nat} {E:Env} {H:Heap} {z:Nat} {a x:X} {av:List Nat}:stp n0 (.storeN z a x av) E H=(if (getX E x).pure=true∧(av.all fun t=>apart (E t) (getX E a))=true then qla n0 z (getX E a) (getX E x) H else none):=rfl
theorem qah4 {n0:Nat} {E:Env} {H:Heap} {bk:BK} {op:BinOp} {x y:X}:stp n0 (.bin bk op x y) E H=((binV bk op (getX E x) (getX E y)).map fun v=>(v,H)):=rfl
theorem qali {n0:Nat} {E:Env} {H:Heap} {op:UnOp} {x:X}:stp n0 (.un op x) E H=((unV op (getX E x)).map fun v=>(v,H)):=rfl
theorem qad2 {n0:Nat} {E:Env} {H:Heap} {k:IntKind} {x:X}:stp n0 (.conv k x) E H =
   match getX E x with
   | .int _ n=>some (.int k (k.wrap n),H)
   | _=>none:=rfl
theorem qadx {n0:Nat} {E:Env} {H:Heap} {g:Nat} {caps:List X}:stp n0 (.mkfn g caps) E H=(if (caps.map (getX E)).all V.isCell=true then some (.fn g (caps.map (getX E)),H) else none):=rfl
theorem q23 {n0:Nat} {E:Env} {H:Heap} {z bytes:Nat} {zero:V} {l c:X}:stp n0 (.mkslice z bytes zero l c) E H =
   match natOf (getX E l),natOf (getX E c) with
   | some l,some c =>
     if l≤c∧c*bytes≤281474976710656∧c≤9223372036854775807∧zero.cells.length=z∧zero.pure=true then
       some (.ref H.length z 0 l,H++[some ⟨z,List.replicate c zero,true,true⟩])
     else none
   | _,_=>none:=rfl
theorem q25 {n0 z bytes:Nat} {zero:V} {x n:X} {E:Env} {H:Heap}:stp n0 (.appendZ z bytes zero x n) E H =
   match getX E x,natOf (getX E n) with
   | .nil,some m =>
     if 0<m∧m*bytes≤140737488355328∧m≤9223372036854775807∧zero.cells.length=z∧zero.pure=true then some (.ref H.length z 0 m,H++[some ⟨z,List.replicate m zero,true,true⟩]) else none
   | _,_=>none:=rfl
theorem q85 {n0:Nat} {E:Env} {H:Heap} {z:Nat} {x:X} {lo hi mx:Option X}:stp n0 (.slice z x lo hi mx) E H =
   match getX E x with
   | .nil =>
     match qbw E 0 lo,qbw E 0 hi,qbw E 0 mx with
     | some 0,some 0,some 0=>some (.nil,H)
     | _,_,_=>none
   | .sl l =>
     match qbw E 0 lo,qbw E l.length hi,qbw E l.length mx with
     | some lo,some hi,some mx =>
       if lo≤hi∧hi≤mx∧mx≤l.length∧(lo=0∨qdk z ((l.take hi).drop lo)=true) then some (.sl ((l.take hi).drop lo),H) else none
     | _,_,_=>none
   | .ref b z' off len =>
     match qbw E 0 lo,qbw E len hi,mx with
     | some lo,some hi,none=>if lo≤hi∧hi≤len∧z'=z then some (.ref b z' (off+lo) (hi-lo),H) else none
     | _,_,_=>none
   | _=>none:=rfl
theorem q89 {n0:Nat} {E:Env} {H:Heap} {off:Nat} {x:X}:stp n0 (.faddr off x) E H =
   match getX E x with
   | .ptr b i o=>some (.ptr b i (o+off),H)
   | .eptr cs=>some (.eptr (cs.drop off),H)
   | _=>none:=rfl
theorem q88 {n0:Nat} {E:Env} {H:Heap} {ag:Bool} {off z:Nat} {x:X}:stp n0 (.field ag off z x) E H =
   match getX E x with
   | .agg cs=>(wrapC ag z (cs.drop off)).map fun v=>(v,H)
   | _=>none:=rfl
theorem q87 {n0:Nat} {E:Env} {H:Heap} {z:Nat} {x i:X}:stp n0 (.iaddr z x i) E H =
   match getX E x,natOf (getX E i) with
   | .sl l,some i =>
     match l[i]? with
     | some e=>if e.cells.length=z then some (.eptr e.cells,H) else none
     | none=>none
   | .ref b z' off len,some i=>if i<len∧z'=z then some (.ptr b (off+i) 0,H) else none
   | _,_=>none:=rfl
theorem q7i {n0:Nat} {E:Env} {H:Heap} {n z:Nat} {x i:X}:stp n0 (.aiaddr n z x i) E H =
   match getX E x,natOf (getX E i) with
   | .ptr b j off,some i=>if i<n then some (.ptr b j (off+i*z),H) else none
   | .eptr cs,some i=>if i<n then some (.eptr (cs.drop (i*z)),H) else none
   | _,_=>none:=rfl
theorem q86 {n0:Nat} {E:Env} {H:Heap} {ag:Bool} {n z:Nat} {x i:X}:stp n0 (.index ag n z x i) E H =
   match getX E x,natOf (getX E i) with
   | .agg cs,some i=>if i<n then (wrapC ag z (cs.drop (i*z))).map fun v=>(v,H) else none
   | _,_=>none:=rfl
theorem q7f {n0:Nat} {E:Env} {H:Heap} {x i:X}:stp n0 (.sindex x i) E H =
   match getX E x,natOf (getX E i) with
   | .str s,some i =>
     match s[i]? with
     | some b=>some (.int .u8 b.toNat,H)
     | none=>none
   | _,_=>none:=rfl
theorem q24 {n0:Nat} {E:Env} {H:Heap} {i:Nat} {x:X}:stp n0 (.extract i x) E H =
   match getX E x with
   | .tup vs=>(vs[i]?).map fun v=>(v,H)
   | _=>none:=rfl
theorem qah2 {n0:Nat} {E:Env} {H:Heap} {x:X}:stp n0 (.len x) E H =
   match getX E x with
   | .sl l=>some (.int .i64 l.length,H)
   | .nil=>some (.int .i64 0,H)
   | .emp=>some (.int .i64 0,H)
   | .ref _ _ _ len=>some (.int .i64 len,H)
   | _=>none:=rfl
theorem qad0 {n0:Nat} {E:Env} {H:Heap} {n:Nat} {x:X}:stp n0 (.lenc n x) E H=(some (.int .i64 n,H)):=rfl
theorem qad3 {n0:Nat} {E:Env} {H:Heap} {x:X}:stp n0 (.capn x) E H =
   match getX E x with
   | .nil=>some (.int .i64 0,H)
   | _=>none:=rfl
theorem qad1 {n0:Nat} {E:Env} {H:Heap} {z:Nat} {x y:X}:stp n0 (.copy z x y) E H =
   match getX E x with
   | .ref b z' off len =>
     (elems H (getX E y)).bind fun ys =>
       match H[b]? with
       | some (some k) =>
         if k.arr=true∧k.wr=true∧k.z=z∧z'=z∧qdk z ys=true∧off+len≤k.el.length then
           some (.int .i64 (Nat.min ys.length len),H.set b (some { k with el:=qd2 k.el off (ys.take len) }))
         else none
       | _=>none
   | _=>none:=rfl
theorem qah0 {n0:Nat} {E:Env} {H:Heap} {x y:X}:stp n0 (.min x y) E H =
   match getX E x,getX E y with
   | .int k a,.int k' b=>if k=k' then some (.int k (if b<a then b else a),H) else none
   | _,_=>none:=rfl
theorem qah1 {n0:Nat} {E:Env} {H:Heap} {x y:X}:stp n0 (.max x y) E H =
   match getX E x,getX E y with
   | .int k a,.int k' b=>if k=k' then some (.int k (if a<b then b else a),H) else none
   | _,_=>none:=rfl
theorem qady {n0:Nat} {E:Env} {H:Heap} {x y z:X}:stp n0 (.max3 x y z) E H =
   match getX E x,getX E y,getX E z with
   | .int k a,.int k' b,.int k'' c=>if k=k'∧k=k'' then some (.int k (if (if a<b then b else a)<c then c else if a<b then b else a),H) else none
   | _,_,_=>none:=rfl
attribute [simp] qady q7h qalj qadw qah3 qahz q9a q7g qadz q83 q84 q7e qah4 qali qad2 qadx q23 q25 q85 q89 q88 q87 q7i q86 q7f q24 qah2 qad0 qad3 qad1 qah0 qah1
end Go.Abs
namespace Go.Abs
inductive Fr where
 | seq (b:AC)
 | blk (id:Nat)
section
variable {S : AProg} {n0 : Nat} {Q : AX → Env → Heap → Prop}
def WP (S:AProg) (n0:Nat) (Q:AX→Env→Heap→Prop):List Fr→AX→Env→Heap→Prop
 | [],x,E,H=>Q x E H
 | .seq b :: K,.normal,E,H=>WC S n0 b E H (fun x E H=>WP S n0 Q K x E H)
 | .seq _ :: K,x,E,H=>WP S n0 Q K x E H
 | .blk id :: K,x,E,H=>WP S n0 Q K (x.outOf id) E H
def WK (S:AProg) (n0:Nat) (c:AC) (K:List Fr) (E:Env) (H:Heap) (Q:AX→Env→Heap→Prop):Prop:=WC S n0 c E H (fun x E H=>WP S n0 Q K x E H)
def WL (S:AProg) (n0:Nat) (d:Bool) (l:List AOper) (K:List Fr) (E:Env) (H:Heap) (Q:AX→Env→Heap→Prop):Prop:=WO S n0 d l E H (fun E H=>WP S n0 Q K .normal E H)
theorem qmu {c:AC} {E:Env} {H:Heap} (h:WK S n0 c [] E H Q):WC S n0 c E H Q:=h
theorem qanb {x:AX} {E:Env} {H:Heap}:WP S n0 Q [] x E H↔Q x E H:=Iff.rfl
theorem qana {b:AC} {K:List Fr} {E:Env} {H:Heap}:WP S n0 Q (.seq b :: K) .normal E H↔WK S n0 b K E H Q:=Iff.rfl
theorem q4j {b:AC} {K:List Fr} {id:Nat} {E:Env} {H:Heap}:WP S n0 Q (.seq b :: K) (.exit id) E H↔WP S n0 Q K (.exit id) E H:=Iff.rfl
theorem q8c {b:AC} {K:List Fr} {E:Env} {H:Heap}:WP S n0 Q (.seq b :: K) .ret E H↔WP S n0 Q K .ret E H:=Iff.rfl
theorem WP_blk {id:Nat} {K:List Fr} {x:AX} {E:Env} {H:Heap}:WP S n0 Q (.blk id :: K) x E H↔WP S n0 Q K (x.outOf id) E H:=by cases x<;>exact Iff.rfl
theorem qbq {c:AC} {E:Env} {H:Heap} {Q':AX→Env→Heap→Prop} (h:WC S n0 c E H Q) (hq:∀ x E H,Q x E H→Q' x E H):WC S n0 c E H Q':=by
 obtain ⟨x,E1,H1,e,q⟩:=h
 exact ⟨x,E1,H1,e,hq _ _ _ q⟩
theorem q8f {a b:AC} {K:List Fr} {E:Env} {H:Heap}:WK S n0 (.seq a b) K E H Q↔WK S n0 a (.seq b :: K) E H Q:=by
 constructor
 · rintro ⟨x,E1,H1,e,q⟩
   cases e with
   | seqN e1 e2=>exact ⟨.normal,_,_,e1,_,_,_,e2,q⟩
   | seqX e1 hx =>
     refine ⟨x,E1,H1,e1,?_⟩
     cases x with
     | normal=>exact absurd rfl hx
     | exit id=>exact q
     | ret=>exact q
 · intro h
   refine qcv (qbq h fun x E1 H1 q=>?_)
   cases x with
   | normal=>exact q
   | exit id=>exact q
   | ret=>exact q
theorem qmt {x:X} {a b:AC} {K:List Fr} {E:Env} {H:Heap}:WK S n0 (.cond x a b) K E H Q↔match getX E x with | .bool true=>WK S n0 a K E H Q | .bool false=>WK S n0 b K E H Q | _=>False:=by
 constructor
 · rintro ⟨y,E1,H1,e,q⟩
   cases e with
   | @cond _ _ _ _ _ _ t _ hc e1 =>
     rw [hc]
     cases t with
     | true=>exact ⟨_,_,_,by simpa using e1,q⟩
     | false=>exact ⟨_,_,_,by simpa using e1,q⟩
 · intro h
   split at h
   · rename_i hc; exact qakb hc h
   · rename_i hc; exact qafv hc h
   · exact h.elim
theorem q2u {id:Nat} {c:AC} {K:List Fr} {E:Env} {H:Heap}:WK S n0 (.block id c) K E H Q↔WK S n0 c (.blk id :: K) E H Q:=by
 constructor
 · rintro ⟨y,E1,H1,e,q⟩
   cases e with
   | block e1=>exact ⟨_,_,_,e1,WP_blk.2 q⟩
 · intro h
   exact qafw (qbq h fun x E1 H1 q=>WP_blk.1 q)
theorem q2t {c:AC} {K:List Fr} {E:Env} {H:Heap}:WK S n0 (.scope c) K E H Q↔WK S n0 c K E H Q:=by
 constructor
 · rintro ⟨y,E1,H1,e,q⟩
   cases e with
   | scope e1=>exact ⟨_,_,_,e1,q⟩
 · intro h
   exact qafu h
theorem q0c {d:Bool} {l:List AOper} {K:List Fr} {E:Env} {H:Heap}:WK S n0 (.region d l) K E H Q↔WL S n0 d l K E H Q:=by
 constructor
 · rintro ⟨y,E1,H1,e,q⟩
   cases e with
   | region e1=>exact ⟨_,_,e1,q⟩
 · intro h; exact qac5 h
theorem q4k {K:List Fr} {E:Env} {H:Heap}:WK S n0 .skip K E H Q↔WP S n0 Q K .normal E H:=⟨by rintro ⟨y,E1,H1,e,q⟩; cases e; exact q,qakc⟩
theorem q4l {id:Nat} {K:List Fr} {E:Env} {H:Heap}:WK S n0 (.exit id) K E H Q↔WP S n0 Q K (.exit id) E H:=⟨by rintro ⟨y,E1,H1,e,q⟩; cases e; exact q,qake⟩
theorem q8g {K:List Fr} {E:Env} {H:Heap}:WK S n0 .ret K E H Q↔WP S n0 Q K .ret E H:=⟨by rintro ⟨y,E1,H1,e,q⟩; cases e; exact q,qani⟩
theorem q8e {d:Bool} {K:List Fr} {E:Env} {H:Heap}:WL S n0 d [] K E H Q↔WP S n0 Q K .normal E H:=q8d
def qvs (S:AProg) (n0:Nat) (d:Bool) (dst:Option Nat) (x:X) (xs:List X) (sy:Bool) (l:List AOper) (K:List Fr) (E:Env) (H:Heap) (Q:AX→Env→Heap→Prop):Prop :=
 qac1 S n0 d dst x xs none sy l E H (fun E H=>WP S n0 Q K .normal E H)
def stepL (S:AProg) (n0:Nat) (d:Bool) (dst:Option Nat) (op:AOp) (gu:Option (Nat × Bool)) (sy:Bool) (l:List AOper) (K:List Fr) (E:Env) (H:Heap) (Q:AX→Env→Heap→Prop):Prop :=
 match gd ⟨dst,op,gu,sy⟩ E with
 | some false=>WL S n0 d l K (put E dst .undef) H Q
 | some true =>
   match op with
   | .call x xs=>qvs S n0 d dst x xs sy l K E H Q
   | op =>
     match stp n0 op E H with
     | some (v,H1)=>((d&&!sy)=true→H <+: H1)∧WL S n0 d l K (put E dst v) H1 Q
     | none=>False
 | none=>False
theorem qi8 {d:Bool} {dst:Option Nat} {op:AOp} {gu:Option (Nat × Bool)} {sy:Bool} {l:List AOper} {K:List Fr} {E:Env} {H:Heap}:WL S n0 d (⟨dst,op,gu,sy⟩ :: l) K E H Q↔stepL S n0 d dst op gu sy l K E H Q:=qand
theorem qaa {d:Bool} {dst:Option Nat} {sy:Bool} {l:List AOper} {K:List Fr} {E:Env} {H:Heap} {x:X} {args caps vs:List V} {xs:List X} {g:Nat} {v:V} (hx:getX E x=.fn g caps)
   (ha:xs.map (getX E)++caps=args) (hp:prep S g H args=some (vs,H)) (h:CQ S g vs v) (k:WL S n0 d l K (put E dst v) H Q):qvs S n0 d dst x xs sy l K E H Q :=
 qvr hx ha hp (h.ct ⟨fun _=>List.prefix_refl H,k⟩)
theorem qqb {d:Bool} {dst:Option Nat} {sy:Bool} {l:List AOper} {K:List Fr} {E:Env} {H H1:Heap} {x:X} {args caps vs:List V} {xs:List X} {g:Nat} (hx:getX E x=.fn g caps)
   (ha:xs.map (getX E)++caps=args) (hp:prep S g H args=some (vs,H1)) (h:CT S g vs H1 (fun v H2=>((d&&!sy)=true→H <+: H2)∧WL S n0 d l K (put E dst v) H2 Q)):qvs S n0 d dst x xs sy l K E H Q :=
 qvr hx ha hp h
theorem qbp {c:AC} {K:List Fr} {E:Env} {H:Heap} (I:Nat→Env→Heap→Prop) (k:Nat) (h0:I k E H)
   (round:∀ k E H,I k E H→WC S n0 c E H (AX.thn (fun E1 H1=>∃ j,j<k∧I j E1 H1) (fun x E H=>WP S n0 Q K x E H))):WK S n0 (.loop c) K E H Q:=qakd I k h0 round
theorem qal {c:AC} {E:Env} {H:Heap} {J:Env→Heap→Prop} {R:AX→Env→Heap→Prop} (h:WK S n0 c [] E H (AX.thn J R)):WC S n0 c E H (AX.thn J R):=h
theorem q7b {J:Env→Heap→Prop} {R:AX→Env→Heap→Prop} {E:Env} {H:Heap}:AX.thn J R .normal E H↔J E H:=Iff.rfl
theorem qadt {J:Env→Heap→Prop} {R:AX→Env→Heap→Prop} {id:Nat} {E:Env} {H:Heap}:AX.thn J R (.exit id) E H↔R (.exit id) E H:=Iff.rfl
theorem qahs {J:Env→Heap→Prop} {R:AX→Env→Heap→Prop} {E:Env} {H:Heap}:AX.thn J R .ret E H↔R .ret E H:=Iff.rfl
theorem qah {g:Nat} {f:AFn} {args:List V} {v:V} (hf:S.fn g=some f)
   (h:∀ H,WK S H.length f.body [] (E0 args) H (fun x E1 H1=>(x=.normal∨x=.ret)∧∃ v0,resV E1 H1 f.results=some v0∧fin f.own H.length H1 v0=some (v,H))):CQ S g args v:=CQ_of hf h
end
theorem qamo {n:Nat} {H:Heap} {l:List V}:fin false n H (.sl l)=some (.sl l,H.take n):=rfl
theorem qajj {n:Nat} {H:Heap} {k:IntKind} {i:Int}:fin false n H (.int k i)=some (.int k i,H.take n):=rfl
theorem qafa {n:Nat} {H:Heap} {b:Bool}:fin false n H (.bool b)=some (.bool b,H.take n):=rfl
@[simp] theorem qak0 {cs:List V}:(V.agg cs).cells=cs:=rfl
@[simp] theorem qaho {b:Bool}:(V.bool b).cells=[.bool b]:=rfl
@[simp] theorem qakz {k:IntKind} {n:Int}:(V.int k n).cells=[.int k n]:=rfl
@[simp] theorem qala {l:List V}:(V.sl l).cells=[.sl l]:=rfl
@[simp] theorem qaky:V.nil.cells=[.nil]:=rfl
@[simp] theorem qakw {b z off len:Nat}:(V.ref b z off len).cells=[.ref b z off len]:=rfl
@[simp] theorem qakx {b i off:Nat}:(V.ptr b i off).cells=[.ptr b i off]:=rfl
@[simp] theorem qalb {g:Nat} {cs:List V}:(V.fn g cs).cells=[.fn g cs]:=rfl
@[simp] theorem qanw {cs:List V}:(V.agg cs).isTup=false:=rfl
@[simp] theorem qak9 {b:Bool}:(V.bool b).isTup=false:=rfl
@[simp] theorem qanv {k:IntKind} {n:Int}:(V.int k n).isTup=false:=rfl
@[simp] theorem qan5 {l:List V}:(V.sl l).isTup=false:=rfl
@[simp] theorem qanu:V.nil.isTup=false:=rfl
@[simp] theorem qans {b z off len:Nat}:(V.ref b z off len).isTup=false:=rfl
@[simp] theorem qant {b i off:Nat}:(V.ptr b i off).isTup=false:=rfl
@[simp] theorem qan6 {g:Nat} {cs:List V}:(V.fn g cs).isTup=false:=rfl
attribute [simp] qamo qajj qafa qanb qana q4j q8c WP_blk q8f q2u q2t q0c q4k q4l q8g q8e q7b qadt qahs
attribute [simp] getX put q8p E0 AX.outOf binV binI unV natOf qbw qla wrapC V.isNil resV resVs resV1
end Go.Abs
namespace Go.Abs
section
variable {S : AProg} {n0 : Nat} {Q : AX → Env → Heap → Prop}
def WKc (S:AProg) (n0:Nat) (v:V) (a b:AC) (K:List Fr) (E:Env) (H:Heap) (Q:AX→Env→Heap→Prop):Prop :=
 match v with
 | .bool true=>WK S n0 a K E H Q
 | .bool false=>WK S n0 b K E H Q
 | _=>False
theorem qaft {t:Bool} {a b:AC} {K:List Fr} {E:Env} {H:Heap}:WKc S n0 (.bool t) a b K E H Q↔(t=true→WK S n0 a K E H Q)∧(t=false→WK S n0 b K E H Q):=by cases t<;>simp [WKc]
theorem qafs {a b:AC} {K:List Fr} {E:Env} {H:Heap}:WKc S n0 (.bool true) a b K E H Q↔WK S n0 a K E H Q:=Iff.rfl
theorem qac3 {a b:AC} {K:List Fr} {E:Env} {H:Heap}:WKc S n0 (.bool false) a b K E H Q↔WK S n0 b K E H Q:=Iff.rfl
theorem qac4 {x:X} {a b:AC} {K:List Fr} {E:Env} {H:Heap}:WK S n0 (.cond x a b) K E H Q↔WKc S n0 (getX E x) a b K E H Q:=by
 rw [qmt]; unfold WKc; split<;>simp_all
def stepN (S:AProg) (n0:Nat) (d:Bool) (dst:Option Nat) (op:AOp) (sy:Bool) (l:List AOper) (K:List Fr) (E:Env) (H:Heap) (Q:AX→Env→Heap→Prop):Prop :=
 match op with
 | .call x xs=>qvs S n0 d dst x xs sy l K E H Q
 | op =>
   match stp n0 op E H with
   | some (v,H1)=>((d&&!sy)=true→H <+: H1)∧WL S n0 d l K (put E dst v) H1 Q
   | none=>False
theorem qaj9 {d:Bool} {dst:Option Nat} {op:AOp} {sy:Bool} {l:List AOper} {K:List Fr} {E:Env} {H:Heap} :
   WL S n0 d (⟨dst,op,none,sy⟩ :: l) K E H Q↔stepN S n0 d dst op sy l K E H Q:=qi8
theorem qadp {E:Env} {t:Nat} {v:V} (h:E t=v):upd E t v=E:=by
 funext i; unfold upd; split
 · rename_i e; rw [e,h]
 · rfl
def WLg (S:AProg) (n0:Nat) (v:V) (t:Nat) (want d:Bool) (dst:Option Nat) (op:AOp) (sy:Bool) (l:List AOper) (K:List Fr) (E:Env) (H:Heap) (Q:AX→Env→Heap→Prop):Prop :=
 match v with
 | .bool b=>if b=want then stepN S n0 d dst op sy l K (upd E t (.bool b)) H Q else WL S n0 d l K (put (upd E t (.bool b)) dst .undef) H Q
 | .tup _=>WL S n0 d l K (put E dst .undef) H Q
 | _=>False
theorem qaj8 {d:Bool} {dst:Option Nat} {op:AOp} {sy:Bool} {l:List AOper} {K:List Fr} {E:Env} {H:Heap} {t:Nat} {want:Bool} :
   WL S n0 d (⟨dst,op,some (t,want),sy⟩ :: l) K E H Q↔WLg S n0 (E t) t want d dst op sy l K E H Q:=by
 rw [qi8]
 unfold stepL WLg gd
 simp only
 cases hv:E t with
 | bool b=>cases b<;>cases want<;>(simp only [qadp hv]; exact Iff.rfl)
 | tup vs=>exact Iff.rfl
 | _=>exact Iff.rfl
variable {t : Nat} {d : Bool} {dst : Option Nat} {op : AOp} {sy : Bool} {l : List AOper} {K : List Fr} {E : Env} {H : Heap}
theorem WLg_t {b:Bool}:WLg S n0 (.bool b) t true d dst op sy l K E H Q↔(b=true→stepN S n0 d dst op sy l K (upd E t (.bool true)) H Q)∧(b=false→WL S n0 d l K (put (upd E t (.bool false)) dst .undef) H Q):=by
 cases b<;>simp [WLg]
theorem WLg_f {b:Bool}:WLg S n0 (.bool b) t false d dst op sy l K E H Q↔(b=true→WL S n0 d l K (put (upd E t (.bool true)) dst .undef) H Q)∧(b=false→stepN S n0 d dst op sy l K (upd E t (.bool false)) H Q):=by
 cases b<;>simp [WLg]
theorem qane:WLg S n0 (.bool true) t true d dst op sy l K E H Q↔stepN S n0 d dst op sy l K (upd E t (.bool true)) H Q:=Iff.rfl
theorem qang:WLg S n0 (.bool false) t true d dst op sy l K E H Q↔WL S n0 d l K (put (upd E t (.bool false)) dst .undef) H Q:=Iff.rfl
theorem qanf:WLg S n0 (.bool true) t false d dst op sy l K E H Q↔WL S n0 d l K (put (upd E t (.bool true)) dst .undef) H Q:=Iff.rfl
theorem qanh:WLg S n0 (.bool false) t false d dst op sy l K E H Q↔stepN S n0 d dst op sy l K (upd E t (.bool false)) H Q:=Iff.rfl
theorem qaj7 {want:Bool} {vs:List V}:WLg S n0 (.tup vs) t want d dst op sy l K E H Q↔WL S n0 d l K (put E dst .undef) H Q:=Iff.rfl
theorem qac2 {want:Bool}:WLg S n0 .undef t want d dst op sy l K E H Q↔WL S n0 d l K (put E dst .undef) H Q:=Iff.rfl
end
theorem WK_up {S:AProg} {n0:Nat} {Q:AX→Env→Heap→Prop} {c:AC} {K:List Fr} {E:Env} {H:Heap} (I:Nat→Env→Heap→Prop) (n:Nat) (h0:I 0 E H)
   (round:∀ i E H,i≤n→I i E H→WK S n0 c [] E H (AX.thn (fun E1 H1=>i<n∧I (i+1) E1 H1) (fun x E H=>WP S n0 Q K x E H))):WK S n0 (.loop c) K E H Q:=by
 refine qbp (fun k E H=>∃ i,i+k=n∧I i E H) n ⟨0,by omega,h0⟩ ?_
 rintro k E H ⟨i,hi,h⟩
 refine qbq (round i E H (by omega) h) ?_
 intro x E1 H1 hx
 cases x with
 | normal=>exact ⟨k-1,by have:=hx.1; omega,i+1,by have:=hx.1; omega,hx.2⟩
 | exit id=>exact hx
 | ret=>exact hx
theorem q53 {α:Type} (H l:List α) (k:Nat):(H++l)[H.length+k]?=l[k]?:=by
 rw [List.getElem?_append_right (by omega)]; congr 1; omega
theorem qabf {α:Type} (H l:List α):(H++l)[H.length]?=l[0]?:=q53 H l 0
theorem q9q {α:Type} (H l:List α) (k:Nat) (v:α):(H++l).set (H.length+k) v=H++l.set k v:=by
 rw [List.set_append_right _ _ (by omega)]; congr 2; omega
theorem qad8 {α:Type} (H l:List α) (v:α):(H++l).set H.length v=H++l.set 0 v:=q9q H l 0 v
attribute [simp low] qaft WLg_t WLg_f
attribute [simp] qac4 qafs qac3 stepN qaj9 qaj8 qane qang qanf qanh qaj7 qac2 q53 qabf q9q qad8
end Go.Abs
namespace Go.Abs
def natV:List Nat→Nat
 | []=>0
 | x :: l=>x+4294967296*natV l
def Li (l:List Nat):Prop:=∀ x ∈ l,x<4294967296
theorem Li.cons {x:Nat} {l:List Nat} (h:Li (x :: l)):x<4294967296∧Li l:=⟨h x (by simp),fun y hy=>h y (by simp [hy])⟩
theorem Li.take {l:List Nat} (h:Li l) (n:Nat):Li (l.take n):=fun x hx=>h x (List.mem_of_mem_take hx)
theorem Li.drop {l:List Nat} (h:Li l) (n:Nat):Li (l.drop n):=fun x hx=>h x (List.mem_of_mem_drop hx)
theorem Li.append {l m:List Nat} (h:Li l) (k:Li m):Li (l++m):=fun x hx=>(List.mem_append.1 hx).elim (h x) (k x)
theorem qb7:∀ (l m:List Nat),natV (l++m)=natV l+4294967296^l.length*natV m
 | [],m=>by simp [natV]
 | x :: l,m=>by
   simp only [List.cons_append,natV,qb7 l m,List.length_cons,Nat.pow_succ]
   rw [Nat.mul_add,← Nat.mul_assoc,Nat.mul_comm 4294967296 (4294967296^l.length)]
   omega
theorem qan:∀ {l:List Nat},Li l→natV l<4294967296^l.length
 | [],_=>by simp [natV]
 | x :: l,h=>by
   have h1:=qan h.cons.2
   have h2:=h.cons.1
   simp only [natV,List.length_cons,Nat.pow_succ]
   omega
theorem qfs (n:Nat):natV (List.replicate n 0)=0:=by
 induction n with
 | zero=>rfl
 | succ n ih=>simp [List.replicate_succ,natV,ih]
def trimN (l:List Nat):Nat→Nat
 | 0=>0
 | n+1=>if l[n]?=some 0 then trimN l n else n+1
def trimL (l:List Nat):List Nat:=l.take (trimN l l.length)
theorem q4w (l:List Nat):∀ n,trimN l n≤n
 | 0=>Nat.le_refl _
 | n+1=>by unfold trimN; split; exact Nat.le_succ_of_le (q4w l n); exact Nat.le_refl _
theorem qxe (l:List Nat):∀ n,n≤l.length→natV (l.take (trimN l n))=natV (l.take n)
 | 0,_=>by simp [trimN]
 | n+1,h=>by
   unfold trimN
   split
   · rename_i h0
     rw [qxe l n (by omega),List.take_add_one,h0,qb7]
     simp [natV]
   · rfl
theorem qkx (l:List Nat):natV (trimL l)=natV l:=by rw [trimL,qxe l _ (Nat.le_refl _),List.take_length]
theorem Li.trimL {l:List Nat} (h:Li l):Li (trimL l):=h.take _
def Trim (l:List Nat):Prop:=∀ x,l.getLast?=some x→x≠0
theorem q0m (l:List Nat):∀ n,n≤l.length→∀ m,trimN l n=m+1→l[m]?≠some 0
 | 0,_,m,h=>by simp [trimN] at h
 | n+1,hn,m,h=>by
   unfold trimN at h
   split at h
   · exact q0m l n (by omega) m h
   · rename_i h0
     have:n=m:=by omega
     subst this
     exact h0
theorem qn2 (l:List Nat):Trim (trimL l):=by
 intro x hx
 unfold trimL at hx
 have hle:=q4w l l.length
 rw [List.getLast?_eq_getElem?,List.length_take,Nat.min_eq_left hle] at hx
 cases hq:trimN l l.length with
 | zero=>rw [hq] at hx; simp at hx
 | succ m =>
   rw [hq] at hx
   have h1:=q0m l l.length (Nat.le_refl _) m hq
   have h2:(l.take (m+1))[m+1-1]?=l[m]?:=by rw [List.getElem?_take]; simp
   rw [h2] at hx
   intro h0
   subst h0
   exact h1 hx
theorem qx5 {l:List Nat} (h:Trim l):trimL l=l:=by
 unfold trimL
 cases hl:l.length with
 | zero=>rw [List.eq_nil_of_length_eq_zero hl]; rfl
 | succ n =>
   have h1:l[n]?≠some 0:=by
     intro h0
     exact h 0 (by rw [List.getLast?_eq_getElem?,hl]; exact h0) rfl
   unfold trimN
   rw [if_neg h1,← hl,List.take_length]
theorem qaau {l:List Nat} (h:Trim l) (hn:l≠[]):4294967296^(l.length-1)≤natV l:=by
 obtain ⟨x,hx⟩:∃ x,l.getLast?=some x:=by
   cases hq:l.getLast? with
   | none=>exact absurd (List.getLast?_eq_none_iff.1 hq) hn
   | some x=>exact ⟨x,rfl⟩
 have hx0:=h x hx
 have:l=l.dropLast++[x]:=by
   have:=List.dropLast_concat_getLast hn
   rw [List.getLast?_eq_some_getLast hn] at hx
   injection hx with hx
   rw [hx] at this
   exact this.symm
 rw [this,qb7]
 simp only [natV,List.length_append,List.length_dropLast,List.length_singleton,Nat.mul_zero,Nat.add_zero]
 have e:l.length-1+1-1=l.length-1:=by omega
 rw [e]
 have:4294967296^(l.length-1)*1≤4294967296^(l.length-1)*x:=Nat.mul_le_mul_left _ (by omega)
 omega
theorem qeg {a b:List Nat} (ha:Li a) (hb:Trim b) (h:a.length<b.length):natV a<natV b:=by
 have h1:=qan ha
 have h2:=qaau hb (fun e=>by rw [e] at h; simp at h)
 have h3:4294967296^a.length≤4294967296^(b.length-1):=Nat.pow_le_pow_right (by omega) (by omega)
 omega
theorem qf9 {a b:List Nat} (ha:Li a) {k:Nat} (hka:k<a.length) (hkb:k<b.length) (hd:a.drop (k+1)=b.drop (k+1)) (h:a[k]<b[k]):natV a<natV b:=by
 have ea:a=a.take k++(a[k] :: a.drop (k+1)):=by rw [← List.drop_eq_getElem_cons hka,List.take_append_drop]
 have eb:b=b.take k++(b[k] :: b.drop (k+1)):=by rw [← List.drop_eq_getElem_cons hkb,List.take_append_drop]
 have h1:=qan (ha.take k)
 rw [ea,eb,qb7,qb7]
 simp only [List.length_take,Nat.min_eq_left (Nat.le_of_lt hka),Nat.min_eq_left (Nat.le_of_lt hkb),natV] at h1 ⊢
 rw [hd]
 have h2:4294967296^k*(a[k]+4294967296*natV (b.drop (k+1)))+4294967296^k≤4294967296^k*(b[k]+4294967296*natV (b.drop (k+1))):=by
   rw [← Nat.mul_succ]
   exact Nat.mul_le_mul_left _ (by omega)
 omega
def cmpN (x y:Nat):Int:=if x<y then -1 else if y<x then 1 else 0
end Go.Abs
namespace Go.Abs
attribute [local simp] qmt qi8 stepL gd
def u32 (x:Nat):V:=.int .u32 (x:Int)
def lim (l:List Nat):V:=.sl (l.map u32)
def i64 (n:Int):V:=.int .i64 n
@[simp] theorem qam1 {x:Nat}:(u32 x).cells=[u32 x]:=rfl
@[simp] theorem qam3 {l:List Nat}:(lim l).cells=[lim l]:=rfl
@[simp] theorem qam5 {n:Int}:(i64 n).cells=[i64 n]:=rfl
@[simp] theorem qal8 {x:Nat}:(u32 x).isTup=false:=rfl
@[simp] theorem qama {l:List Nat}:(lim l).isTup=false:=rfl
@[simp] theorem qamc {n:Int}:(i64 n).isTup=false:=rfl
theorem qu7:prog.fn qol=some qek:=by rfl
set_option maxHeartbeats 1000000 in
theorem qb6 (l:List Nat) (hl:l.length≤9223372036854775807):CQ prog qol [lim l] (lim (trimL l)):=by
 refine qah qu7 fun H=>?_
 simp [qek,lim]
 refine qbp (fun k E H'=>H'=H∧E 0=lim l∧k≤l.length∧E 3=.int .i64 k∧trimN l k=trimN l l.length) l.length ?_ ?_
 · simp [lim]
 · rintro n E H' ⟨rfl,h0,hn,h3,ht⟩
   refine qal ?_
   simp only [lim] at h0
   rcases n with _ | n
   · simp [qdw,h0,h3,trimL,← ht,trimN]
   · have e1:IntKind.i64.wrap (n:Int)=n:=by rw [wrap_i64]<;>omega
     have hlt:n<l.length:=by omega
     have p1:(0:Int)≤(n:Int)+1:=by omega
     by_cases hx:l[n]=0
     · simp [qdw,h0,h3,e1,hlt,hx,u32]
       refine ⟨n,by omega,rfl,by omega,rfl,?_⟩
       rw [← ht,trimN,if_pos (by rw [List.getElem?_eq_getElem hlt,hx])]
     · simp [qdw,h0,h3,e1,hlt,hx,u32,p1,hn]
       rw [trimL,← ht,trimN,if_neg (by rw [List.getElem?_eq_getElem hlt]; simpa using hx),List.map_take]
@[simp] theorem qamj (H:Heap) (l:List Nat) (vs:List V):frzVs H (lim l :: vs)=(frzVs H vs).bind fun p=>some (lim l :: p.1,p.2):=rfl
@[simp] theorem qamk (H:Heap) (k:IntKind) (n:Int) (vs:List V):frzVs H (.int k n :: vs)=(frzVs H vs).bind fun p=>some (.int k n :: p.1,p.2):=rfl
@[simp] theorem qak8 (H:Heap) (b:Bool) (vs:List V):frzVs H (.bool b :: vs)=(frzVs H vs).bind fun p=>some (.bool b :: p.1,p.2):=rfl
@[simp] theorem qami (H:Heap):frzVs H []=some ([],H):=rfl
theorem qwt:prog.fn qps=some qho:=by rfl
theorem qtm (H:Heap) (l:List Nat):prep prog 111 H [lim l]=some ([lim l],H):=rfl
set_option maxHeartbeats 1000000 in
theorem qqj (a b:List Nat) (ha:a.length≤9223372036854775807) (hb:b.length≤9223372036854775807) (la:Li a) (lb:Li b):CQ prog qps [lim a,lim b] (i64 (cmpN (natV a) (natV b))):=by
 refine qah qwt fun H=>?_
 simp
 refine qaa rfl rfl (qtm H a) (qb6 a ha) ?_
 simp
 refine qaa rfl rfl (qtm H b) (qb6 b hb) ?_
 rw [← qkx a,← qkx b]
 have ta:=qn2 a
 have tb:=qn2 b
 have la':=la.trimL
 have lb':=lb.trimL
 have hla:(trimL a).length≤9223372036854775807:=by unfold trimL; simp; omega
 generalize trimL a=x at *
 generalize trimL b=y at *
 by_cases hlt:x.length<y.length
 · have h1:¬ ((x.length:Int)=(y.length:Int)):=by omega
   have h2:=qeg la' tb hlt
   simp [lim,hlt,h1,cmpN,h2,i64]
 · by_cases hgt:y.length<x.length
   · have h1:¬ ((x.length:Int)=(y.length:Int)):=by omega
     have h2:=qeg lb' ta hgt
     have h3:¬ natV x<natV y:=by omega
     simp [lim,hlt,h1,cmpN,h2,h3,i64]
   · have heq:x.length=y.length:=by omega
     simp [lim,heq]
     refine qbp (fun k E H'=>H'=H∧E 0=lim x∧E 1=lim y∧k≤x.length∧E 5=.int .i64 ((k:Int)-1)∧x.drop k=y.drop k) x.length ?_ ?_
     · have e1:IntKind.i64.wrap ((y.length:Int)-1)=(y.length:Int)-1:=by rw [wrap_i64]<;>omega
       have e2:y.drop x.length=[]:=by rw [heq]; exact List.drop_length
       simp [lim,e1,heq]
     · rintro n E H' ⟨rfl,h0,h1,hn,h5,hd⟩
       refine qal ?_
       simp only [lim] at h0 h1
       rcases n with _ | n
       · have e1:x=y:=by simpa using hd
         have e2:¬ ((0:Int)≤-1):=by omega
         simp [qc7,h5,e1,cmpN,i64]
       · have e1:(n+1:Int)-1=n:=by omega
         have hx:n<x.length:=by omega
         have hy:n<y.length:=by omega
         have p1:((0:Int)≤n):=by omega
         by_cases hlt:x[n]<y[n]
         · have h2:=qf9 la' hx hy hd hlt
           have h3:((x[n]:Int)<(y[n]:Int)):=by omega
           simp [qc7,h0,h1,h5,e1,p1,hx,hy,u32,hlt,cmpN,h2,i64]
         · by_cases hgt:y[n]<x[n]
           · have h2:=qf9 lb' hy hx hd.symm hgt
             have h3:¬ natV x<natV y:=by omega
             simp [qc7,h0,h1,h5,e1,p1,hx,hy,u32,hlt,hgt,cmpN,h2,h3,i64]
           · have e2:IntKind.i64.wrap ((n:Int)-1)=(n:Int)-1:=by rw [wrap_i64]<;>omega
             simp [qc7,h0,h1,h5,e1,p1,hx,hy,u32,hlt,hgt,e2]
             refine ⟨n,by omega,rfl,rfl,by omega,rfl,?_⟩
             rw [List.drop_eq_getElem_cons hx,List.drop_eq_getElem_cons hy,hd]
             congr 1
             omega
end Go.Abs
namespace Go.Abs
theorem qae7:prog.fn qk0=some qdy:=by rfl
def bitL (n:Nat):Nat:=if n=0 then 0 else Nat.log2 n+1
theorem qahu:∀ i:Fin 256,str_0[i.val]?=some (UInt8.ofNat (bitL i.val)):=by decide +kernel
theorem q4z {i:Nat} (h:i<256):str_0[i]?=some (UInt8.ofNat (bitL i)):=qahu ⟨i,h⟩
theorem qaco {i:Nat} (h:i<256):bitL i≤8:=by
 have:∀ i:Fin 256,bitL i.val≤8:=by decide +kernel
 exact this ⟨i,h⟩
theorem qhr {n k:Nat} (h:2^k≤n):bitL n=bitL (n/2^k)+k:=by
 have h0:0<2^k:=Nat.two_pow_pos k
 have h1:n≠0:=by omega
 have h2:n/2^k≠0:=by
   have:=(Nat.le_div_iff_mul_le h0 (x:=1) (y:=n)).2 (by omega)
   omega
 unfold bitL
 rw [if_neg h1,if_neg h2]
 have:Nat.log2 n=Nat.log2 (n/2^k)+k:=by
   rw [Nat.log2_eq_iff h1]
   have h3:=(Nat.log2_eq_iff h2).1 rfl
   rw [Nat.pow_add,show Nat.log2 (n/2^k)+k+1=(Nat.log2 (n/2^k)+1)+k by omega,Nat.pow_add]
   exact ⟨(Nat.le_div_iff_mul_le h0).1 h3.1,(Nat.div_lt_iff_lt_mul h0).1 h3.2⟩
 omega
theorem q4h {n b:Nat} (h0:n≠0) (h1:2^b≤n) (h2:n<2^(b+1)):bitL n=b+1:=by
 unfold bitL
 rw [if_neg h0,(Nat.log2_eq_iff h0).2 ⟨h1,h2⟩]
theorem qa7 {n:Nat} (h:n≠0):2^(bitL n-1)≤n∧n<2^bitL n∧0<bitL n:=by
 unfold bitL
 rw [if_neg h]
 have:=(Nat.log2_eq_iff h).1 rfl
 exact ⟨this.1,this.2,by omega⟩
theorem pow32 (n:Nat):4294967296^n=2^(32*n):=by rw [Nat.pow_mul]
theorem q6p {l:List Nat} {t:Nat} (hl:Li l) (ht:t≠0):bitL (natV (l++[t]))=32*l.length+bitL t:=by
 have h1:=qan hl
 obtain ⟨h2,h3,h4⟩:=qa7 ht
 rw [qb7]
 simp only [natV,Nat.mul_zero,Nat.add_zero]
 rw [pow32] at h1 ⊢
 have e1:2^(32*l.length)*t ≥ 2^(32*l.length)*2^(bitL t-1):=Nat.mul_le_mul_left _ h2
 have e2:2^(32*l.length)*(t+1)≤2^(32*l.length)*2^bitL t:=Nat.mul_le_mul_left _ h3
 rw [← Nat.pow_add] at e1 e2
 rw [Nat.mul_add,Nat.mul_one] at e2
 have hp:=Nat.two_pow_pos (32*l.length+(bitL t-1))
 have:=q4h (n:=natV l+2^(32*l.length)*t) (b:=32*l.length+(bitL t-1)) (by omega) (by omega) (by rw [show 32*l.length+(bitL t-1)+1=32*l.length+bitL t by omega]; omega)
 omega
theorem qra {t:Nat} (h:t<4294967296):bitL t≤32:=by
 unfold bitL
 split
 · omega
 · rename_i h0
   have:=(Nat.log2_lt h0 (k:=32)).2 (by omega)
   omega
end Go.Abs
namespace Go.Abs
attribute [local simp] qmt qi8 stepL gd qa2
theorem qsx (x k:Nat):Int.fdiv (x:Int) (k:Int)=((x/k:Nat):Int):=by
 rw [Int.fdiv_eq_ediv_of_nonneg _ (by omega)]; rfl
theorem q70 (x:Nat):Int.fdiv (x:Int) 65536=((x/65536:Nat):Int):=qsx x 65536
theorem q6a (x:Nat):Int.fdiv (x:Int) 256=((x/256:Nat):Int):=qsx x 256
theorem qahn {n:Int} (h1:0≤n) (h2:n<256):IntKind.wrap .u8 n=n:=by
 simp only [IntKind.wrap,IntKind.bits,IntKind.signed]; simp; omega
theorem qaez {y:Nat} (h:y<256):((UInt8.ofNat (bitL y)).toNat:Int)=bitL y:=by
 have:=qaco h
 simp; omega
@[simp] theorem qz7:IntKind.u32.bits=32:=rfl
@[simp] theorem q6o:IntKind.u64.bits=64:=rfl
@[simp] theorem qan4:IntKind.i64.bits=64:=rfl
theorem w8:IntKind.i64.wrap 8=8:=by decide
theorem w24:IntKind.i64.wrap 24=24:=by decide
set_option maxHeartbeats 1000000 in
theorem q66 (x:Nat) (hx:x<4294967296):CQ prog qk0 [u32 x] (i64 (bitL x)):=by
 refine qah qae7 fun H=>?_
 have fin':∀ (y k:Nat),y<256→k≤24→bitL x=bitL y+k→IntKind.i64.wrap ((k:Int)+IntKind.i64.wrap (((UInt8.ofNat (bitL y)).toNat:Nat):Int))=bitL x:=by
   intro y k hy hk he
   have:=qaco hy
   rw [qaez hy,wrap_i64 (n:=(bitL y:Int)) (by omega) (by omega),wrap_i64 (by omega) (by omega),he]
   omega
 have u8':∀ y:Nat,y<256→IntKind.u8.wrap (y:Int)=y:=fun y hy=>qahn (by omega) (by omega)
 by_cases h1:x<65536
 · have e1:¬ ((65536:Int)≤x):=by omega
   by_cases h2:x<256
   · have e2:¬ ((256:Int)≤x):=by omega
     have:=fin' x 0 h2 (by omega) rfl
     simp [u32,e1,e2,u8' x h2,q4z h2,i64]
     simpa using this
   · have e2:((256:Int)≤x):=by omega
     obtain ⟨y,hy⟩:∃ y,y=x/256:=⟨_,rfl⟩
     have f1:Int.fdiv (x:Int) 256=(y:Int):=by rw [hy]; exact q6a x
     have h3:y<256:=by omega
     have:=fin' y 8 h3 (by omega) (by rw [hy]; exact qhr (k:=8) (by omega))
     simp [u32,e1,e2,f1,w8,u8' _ h3,q4z h3,i64]
     simpa using this
 · have e1:((65536:Int)≤x):=by omega
   obtain ⟨y,hy⟩:∃ y,y=x/65536:=⟨_,rfl⟩
   have f1:Int.fdiv (x:Int) 65536=(y:Int):=by rw [hy]; exact q70 x
   have he:bitL x=bitL y+16:=by rw [hy]; exact qhr (k:=16) (by omega)
   by_cases h2:y<256
   · have e2:¬ ((256:Int)≤y):=by omega
     have:=fin' y 16 h2 (by omega) he
     simp [u32,e1,e2,f1,u8' _ h2,q4z h2,i64]
     simpa using this
   · have e2:((256:Int)≤y):=by omega
     obtain ⟨z,hz⟩:∃ z,z=y/256:=⟨_,rfl⟩
     have f2:Int.fdiv (y:Int) 256=(z:Int):=by rw [hz]; exact q6a y
     have h3:z<256:=by omega
     have he2:bitL y=bitL z+8:=by rw [hz]; exact qhr (k:=8) (by omega)
     have:=fin' z 24 h3 (by omega) (by rw [he,he2])
     simp [u32,e1,e2,f1,f2,w24,u8' _ h3,q4z h3,i64]
     simpa using this
end Go.Abs
namespace Go.Abs
attribute [local simp] qmt qi8 stepL gd
theorem qu8:prog.fn qom=some qgd:=by rfl
@[simp] theorem qanx (g:Nat) (hg:(prog.fn g).elim true (fun f=>!f.raw)=true) (H:Heap) (l:List Nat):prep prog g H [lim l]=some ([lim l],H):=by
 unfold prep
 cases hq:prog.fn g with
 | none=>rfl
 | some f=>rw [hq] at hg; simp at hg; simp [hg]
theorem qw0 (l:List Nat):l=[]∨∃ k t,l=k++[t]:=by
 cases l with
 | nil=>exact .inl rfl
 | cons x xs=>exact .inr ⟨(x :: xs).dropLast,(x :: xs).getLast (by simp),(List.dropLast_concat_getLast (by simp)).symm⟩
set_option maxHeartbeats 1000000 in
theorem qn1 (a:List Nat) (ha:a.length≤100000000) (la:Li a):CQ prog qom [lim a] (i64 (bitL (natV a))):=by
 refine qah qu8 fun H=>?_
 simp
 refine qaa rfl rfl (qtm H a) (qb6 a (by omega)) ?_
 rw [← qkx a]
 have ta:=qn2 a
 have la':=la.trimL
 have hla:(trimL a).length≤100000000:=by unfold trimL; simp; omega
 generalize trimL a=x at *
 rcases qw0 x with rfl | ⟨k,t,rfl⟩
 · simp [lim,natV,bitL,i64]
 · have hk:k.length≤100000000:=by simp at hla; omega
   have ht:t≠0:=ta t (by simp)
   have ht2:t<4294967296:=la' t (by simp)
   have lk:Li k:=fun y hy=>la' y (by simp [hy])
   have e1:¬ ((k.length:Int)+1=0):=by omega
   have e2:IntKind.i64.wrap (k.length:Int)=k.length:=by rw [wrap_i64]<;>omega
   have e3:IntKind.i64.wrap (32*(k.length:Int))=32*k.length:=by rw [wrap_i64]<;>omega
   simp [lim,e1,e2,e3]
   refine qaa rfl rfl (vs:=[u32 t]) rfl (q66 t ht2) ?_
   have e4:IntKind.i64.wrap (32*(k.length:Int)+bitL t)=bitL (natV (k++[t])):=by
     have:=qra ht2
     rw [q6p lk ht,wrap_i64]<;>omega
   simp [i64,e4]
end Go.Abs
