/- Parts of the proof: FpCode2, FpCode3, FpCode4, FpCode5, FpCode6, FpCode7, FpCode8, FpCode9, FpFuns, FpRules, FpProg, FpStpEq, FpWK, FpWX, FpNum, FpNat, FpLen, FpLen2, FpBits. -/
import Derived.Test.YtpdchdfajhbglaaGreatDoorFa
import Derived.Test.YtpdchdfajhbglaaGreatDoorF0
namespace Go.Abs
@[simp] def qht : AFn:=nG [(.cell 4 true 7)] (nS (nF [oU 2 7 0,oL 4]) (nS (nS (nF [oI 9 7 2,oP 10 (.bslice 7 1 (.agg nI) [(0,(.t 9))]),oA1 11 106 10,oW 12 11,mV 13 12,oE 14 13 1,oC1 15 13 186 14,gF 16 13 (nU 15),oX 17 13 16]) (nC 17 (nR [oA0 18 107,oK 7 4 18 false]) .skip)) (nS (nF [oQ 20 0 2,oI 21 3 20,mV 22 1,oA2 23 199 21 22,mV 19 23,oR 24 0 19,oR 25 1 19,oM 5,oK 3 5 24 false,mV 6 25]) (nS (nF [oQ 27 3 2,oI 28 3 27,mV 29 1,
 oA2 30 200 28 29,mV 26 30,oR 31 0 26,oR 32 1 26,oM 7,oK 3 7 31 false,mV 8 32]) (nR [oI 33 3 5,mV 34 6,oI 35 3 7,mV 36 8,oA4 37 189 33 34 35 36,oK 7 4 37 false])))))
@[simp] def qhv : AFn:=nG [(.cell 2 true 7)] (nS (nF [oU 1 3 0,oL 2]) (nS (nS (nF [oI 3 3 1,oA1 4 51 3,oW 5 4]) (nC 5 (nR [oA0 6 107,oK 7 2 6 false]) .skip)) (nR [oI 7 3 1,oI 8 3 1,oP 9 (.build nI [(0,3,(.t 7)),(3,3,(.t 8))]),oK 7 2 9 false])))
@[simp] def qj5 : AFn:=nG [(.cell 2 true 7)] (nS (nF [oU 1 3 0,oL 2]) (nR [oI 3 3 1,oI 4 3 1,oP 5 (.build nI [(0,3,(.t 3)),(3,3,(.t 4))]),oK 7 2 5 false]))
def qdg : AC:=(nS (nS (nF [mV 31 9,oO 32 .lss 31 4]) (nC 32 .skip (.exit 0))) (nS (.block 1 (nS (nT [mV 36 7,mV 37 9,oV 38 6 36 37,oP 39 (.aiaddr 2 3 (.t 38) (.c (.int .i64 0))),oI 40 3 39,mV 41 7,mV 42 9,oV 43 6 41 42,oP 44 (.aiaddr 2 3 (.t 43) (.c (.int .i64 1))),oI 45 3 44,mV 46 2,oP 47 (.call (.f 203) [(.t 40),(.t 45),(.t 46),(.c (.bool false))]),mV 35 47,oR 48 0 35,oR 49 1 35,oM 10,oK 3 10 48 true,mV 11 49]) (nS (nT [mV 51 7,mV 52 9,oV 53 6 51 52,oP 54 (.aiaddr 2 3 (.t 53) (.c (.int .i64 0))),oI 55 3 54,mV 56 7,mV 57 9,oV 58 6 56 57,oP 59 (.aiaddr 2 3 (.t 58) (.c (.int .i64 1))),
 oI 60 3 59,mV 61 2,oP 62 (.call (.f 203) [(.t 55),(.t 60),(.t 61),(.c (.bool true))]),mV 50 62,oR 63 0 50,oR 64 1 50,oM 12,oK 3 12 63 true,mV 13 64]) (nS (nS (nF [mV 65 11,oO 66 .neq 65 0,mV 67 66,oE 68 67 13,gF 69 67 (nX .neq 68 0),oX 70 67 69]) (nC 70 (nR [oA0 71 109,oK 7 6 71 false]) .skip)) (nS (nS (nF [mV 72 9,oO 73 .eql 72 0]) (nC 73 (nF [oI 74 3 10,oI 75 3 12,oP 76 (.build nI [(0,3,(.t 74)),(3,3,(.t 75))]),
 oK 7 8 76 false]) .skip)) (nT [oQ 77 0 8,oI 78 3 77,oI 79 3 10,oA2 80 93 78 79,oQ 81 3 8,oI 82 3 81,oI 83 3 12,oB2 84 92 82 83,oP 85 (.build nI [(0,3,(.t 80)),(3,3,(.t 84))]),oK 7 8 85 true])))))) (nF [mV 33 9,oO 34 .add 33 1,mV 9 34])))
@[simp] def qoe : AFn:=nG [(.cell 6 true 7)] (nS (nF [oU 3 7 0,oU 4 7 1,oL 6]) (nS (nS (nF [mV 14 2,oA1 15 195 14,oW 16 15,mV 17 16,oG 18 17 true 7 3,oC1 19 17 108 18,gF 20 17 (nU 19),oX 21 17 20,mV 22 21,oG 23 22 true 7 4,oC1 24 22 108 23,gF 25 22 (nU 24),oX 26 22 25]) (nC 26 (nR [oA0 27 109,oK 7 6 27 false]) .skip)) (nS (nF [oI 28 7 3,oI 29 7 4,oA2 30 202 28 29,mV 7 30]) (nS (nF [oL 8]) (nS (nS (nF [oP 9 (nV 0)]) (.block 0 (.loop qdg))) (nR [oI 86 7 8,
 oK 7 6 86 false]))))))
@[simp] def ql4 : AFn:=nG [(.cell 2 true 7)] (nS (nF [oU 1 7 0,oL 2]) (nS (nS (nF [oI 7 7 1,oP 8 (.bslice 7 1 (.agg nI) [(0,(.t 7))]),oA1 9 106 8,oW 10 9]) (nC 10 (nR [oA0 11 107,oK 7 2 11 false]) .skip)) (nS (nF [oI 13 7 1,oA1 14 165 13,mV 12 14,oR 15 0 12,oR 16 1 12,oM 3,oK 3 3 15 false,mV 4 16]) (nS (nF [oI 18 7 1,oA1 19 164 18,mV 17 19,oR 20 0 17,oR 21 1 17,oM 5,oK 3 5 20 false,mV 6 21]) (nR [oI 22 3 3,oI 23 3 5,oP 24 (.build nI [(0,3,(.t 22)),(3,3,(.t 23))]),
 oK 7 2 24 false])))))
@[simp] def qhs : AFn:=nG [(.cell 4 true 7)] (nS (nF [oU 2 7 0,oL 4]) (nS (nS (nF [oI 9 7 2,oP 10 (.bslice 7 1 (.agg nI) [(0,(.t 9))]),oA1 11 106 10,oW 12 11]) (nC 12 (nR [oA0 13 107,oK 7 4 13 false]) .skip)) (nS (nF [oQ 15 0 2,oI 16 3 15,mV 17 1,oA2 18 204 16 17,mV 14 18,oR 19 0 14,oR 20 1 14,oM 5,oK 3 5 19 false,mV 6 20]) (nS (nF [oQ 22 3 2,oI 23 3 22,mV 24 1,oA2 25 204 23 24,mV 21 25,oR 26 0 21,oR 27 1 21,oM 7,oK 3 7 26 false,mV 8 27]) (nR [oI 28 3 5,
 mV 29 6,oI 30 3 7,mV 31 8,oA4 32 189 28 29 30 31,oK 7 4 32 false])))))
@[simp] def qj4 : AFn:=nG [(.cell 4 true 7)] (nS (nF [oU 2 7 0,oL 4]) (nS (nS (nF [oI 9 7 2,oA1 10 108 9,oW 11 10,mV 12 11,oE 13 12 1,gF 14 12 (nX .lss 13 (-32768)),oX 15 12 14,mV 16 15,oE 17 16 1,gF 18 16 (nX .gtr 17 32768),oX 19 16 18]) (nC 19 (nR [oA0 20 109,oK 7 4 20 false]) .skip)) (nS (nF [oQ 22 0 2,oI 23 3 22,mV 24 1,oA2 25 182 23 24,mV 21 25,oR 26 0 21,oR 27 1 21,oM 5,oK 3 5 26 false,mV 6 27]) (nS (nF [oQ 29 3 2,oI 30 3 29,mV 31 1,oA2 32 182 30 31,
 mV 28 32,oR 33 0 28,oR 34 1 28,oM 7,oK 3 7 33 false,mV 8 34]) (nR [oI 35 3 5,mV 36 6,oI 37 3 7,mV 38 8,oA4 39 197 35 36 37 38,oK 7 4 39 false])))))
@[simp] def qhp : AFn:=nG [(.cell 4 true 3),(.tmp 5)] (nS (nF [oU 2 7 0,oM 4,oZ 5 false]) (nS (nS (nF [oI 8 7 2,oP 9 (.bslice 7 1 (.agg nI) [(0,(.t 8))]),oA1 10 106 9,oW 11 10,mV 12 11,oE 13 12 1,oC1 14 12 186 13,gF 15 12 (nU 14),oX 16 12 15]) (nC 16 (nR [oP 17 (.build nD []),oK 3 4 17 false,oZ 5 false]) .skip)) (nS (nT [oQ 19 3 2,oI 20 3 19,oQ 21 0 2,oI 22 3 21,oA1 23 198 22,mV 24 1,oA3 25 188 20 23 24,mV 18 25,
 oR 26 0 18,oR 27 1 18,oM 6,oK 3 6 26 true,mV 7 27]) (nR [oI 28 3 6,mV 29 7,oO 30 .eql 29 0,oK 3 4 28 false,mV 5 30]))))
@[simp] def ql1 : AFn:=nG [(.cell 2 true 3),(.tmp 3)] (nS (nF [oU 1 7 0,oM 2,oZ 3 false]) (nS (nS (nF [oI 4 7 1,oP 5 (.bslice 7 1 (.agg nI) [(0,(.t 4))]),oA1 6 106 5,oW 7 6]) (nC 7 (nR [oP 8 (.build nD []),oK 3 2 8 false,oZ 3 false]) .skip)) (nS (nT [oQ 9 0 1,oI 10 3 9,oA1 11 205 10,oQ 12 3 1,oI 13 3 12,oB1 14 205 13,oB2 15 104 11 14,oK 3 2 15 true,oZ 3 true]) .ret)))
@[simp] def ql0 : AFn:=nG [(.cell 2 true 3),(.tmp 3)] (nS (nF [oU 1 7 0,oM 2,oZ 3 false]) (nS (nS (nF [oI 4 7 1,oP 5 (.bslice 7 1 (.agg nI) [(0,(.t 4))]),oA1 6 106 5,oW 7 6]) (nC 7 (nR [oP 8 (.build nD []),oK 3 2 8 false,oZ 3 false]) .skip)) (nS (nS (nF [oI 9 7 1,oA1 10 173 9,oO 11 .eql 10 0]) (nC 11 (nR [oP 12 (.build nD []),oK 3 2 12 false,oZ 3 true]) .skip)) (nS (nT [oQ 13 0 1,
 oI 14 3 13,oA1 15 205 14,oQ 16 3 1,oI 17 3 16,oB1 18 205 17,oB2 19 105 15 18,oK 3 2 19 true,oZ 3 true]) .ret))))
@[simp] def qjv : AFn:=nG [(.tmp 2)] (nS (nF [oU 1 7 0,oP 2 (nV 0)]) (nS (.block 0 (nS (nF [oI 4 7 1,oP 5 (.bslice 7 1 (.agg nI) [(0,(.t 4))]),oA1 6 106 5,oW 7 6,mV 3 7]) (nC 3 (nR [oP 2 (nV 0)]) (nS (nF [oQ 9 0 1,oI 10 3 9,oA1 11 79 10,oO 12 .gtr 11 0,mV 8 12]) (nC 8 (nR [oP 2 (nV 1)]) (nS (nF [oQ 14 3 1,oI 15 3 14,oA1 16 79 15,oO 17 .lss 16 0,mV 13 17]) (nC 13 (nR [oP 2 (nV (-1))]) .skip))))))) (nR [oP 2 (nV 0)])))
@[simp] def qmb : AFn:=nG [(.tmp 2)] (nS (nF [oU 1 7 0,oP 2 (nV 0)]) (nS (nS (nF [oI 3 7 1,oA1 4 108 3,oW 5 4]) (nC 5 (nR [oP 2 (nV 0)]) .skip)) (nS (nS (nF [oQ 6 0 1,oI 7 3 6,oA1 8 54 7,oO 9 .gtr 8 0]) (nC 9 (nR [oP 2 (nV 1)]) .skip)) (nS (nS (nF [oQ 10 3 1,oI 11 3 10,oA1 12 54 11,oO 13 .lss 12 0]) (nC 13 (nR [oP 2 (nV (-1))]) .skip)) (nR [oP 2 (nV 0)])))))
def qdh : AC:=(nS (nS (nF [mV 36 9,oO 37 .lss 36 4]) (nC 37 .skip (.exit 0))) (nS (.block 1 (nS (nT [mV 41 7,mV 42 9,oV 43 6 41 42,oP 44 (.aiaddr 2 3 (.t 43) (.c (.int .i64 0))),oI 45 3 44,mV 46 7,mV 47 9,oV 48 6 46 47,oP 49 (.aiaddr 2 3 (.t 48) (.c (.int .i64 1))),oI 50 3 49,mV 51 2,oP 52 (.call (.f 206) [(.t 45),(.t 50),(.t 51),(.c (.bool false))]),mV 40 52,oR 53 0 40,oR 54 1 40,oM 10,oK 3 10 53 true,mV 11 54]) (nS (nT [mV 56 7,mV 57 9,oV 58 6 56 57,oP 59 (.aiaddr 2 3 (.t 58) (.c (.int .i64 0))),oI 60 3 59,mV 61 7,mV 62 9,oV 63 6 61 62,oP 64 (.aiaddr 2 3 (.t 63) (.c (.int .i64 1))),
 oI 65 3 64,mV 66 2,oP 67 (.call (.f 206) [(.t 60),(.t 65),(.t 66),(.c (.bool true))]),mV 55 67,oR 68 0 55,oR 69 1 55,oM 12,oK 3 12 68 true,mV 13 69]) (nS (nS (nF [mV 70 11,oO 71 .neq 70 0,mV 72 71,oE 73 72 13,gF 74 72 (nX .neq 73 0),oX 75 72 74]) (nC 75 (nR [oA0 76 109,oK 7 6 76 false]) .skip)) (nS (nS (nF [mV 77 9,oO 78 .eql 77 0]) (nC 78 (nF [oI 79 3 10,oI 80 3 12,oP 81 (.build nI [(0,3,(.t 79)),(3,3,(.t 80))]),
 oK 7 8 81 false]) .skip)) (nT [oQ 82 0 8,oI 83 3 82,oI 84 3 10,oA2 85 93 83 84,oQ 86 3 8,oI 87 3 86,oI 88 3 12,oB2 89 92 87 88,oP 90 (.build nI [(0,3,(.t 85)),(3,3,(.t 89))]),oK 7 8 90 true])))))) (nF [mV 38 9,oO 39 .add 38 1,mV 9 39])))
@[simp] def qof : AFn:=nG [(.cell 6 true 7)] (nS (nF [oU 3 7 0,oU 4 7 1,oL 6]) (nS (nS (nF [mV 14 2,oA1 15 195 14,oW 16 15,mV 17 16,oG 18 17 true 7 3,oC1 19 17 108 18,gF 20 17 (nU 19),oX 21 17 20,mV 22 21,oG 23 22 true 7 4,oC1 24 22 108 23,gF 25 22 (nU 24),oX 26 22 25,mV 27 26,oG 28 27 true 7 4,oC1 29 27 174 28,gF 30 27 (nX .eql 29 0),oX 31 27 30]) (nC 31 (nR [oA0 32 109,oK 7 6 32 false]) .skip)) (nS (nF [oI 33 7 3,oI 34 7 4,oA2 35 202 33 34,mV 7 35]) (nS (nF [oL 8]) (nS (nS (nF [oP 9 (nV 0)]) (.block 0 (.loop qdh))) (nR [oI 91 7 8,
 oK 7 6 91 false]))))))
@[simp] def qju : AFn:=nG [(.cell 4 true 7)] (nS (nF [oU 2 7 0,oL 4]) (nS (nS (nF [oI 9 7 2,oP 10 (.bslice 7 1 (.agg nI) [(0,(.t 9))]),oA1 11 106 10,oW 12 11,mV 13 12,oE 14 13 1,oC1 15 13 186 14,gF 16 13 (nU 15),oX 17 13 16,mV 18 17,gF 19 18 (nA 0 2),oG 20 18 true 3 19,oC1 21 18 79 20,gF 22 18 (nX .leq 21 0),oX 23 18 22]) (nC 23 (nR [oA0 24 107,oK 7 4 24 false]) .skip)) (nS (nF [oQ 26 0 2,oI 27 3 26,
 mV 28 1,oA2 29 207 27 28,mV 25 29,oR 30 0 25,oR 31 1 25,oM 5,oK 3 5 30 false,mV 6 31]) (nS (nF [oQ 33 3 2,oI 34 3 33,mV 35 1,oA2 36 208 34 35,mV 32 36,oR 37 0 32,oR 38 1 32,oM 7,oK 3 7 37 false,mV 8 38]) (nR [oI 39 3 5,mV 40 6,oI 41 3 7,mV 42 8,oA4 43 189 39 40 41 42,oK 7 4 43 false])))))
@[simp] def qma : AFn:=nG [(.cell 4 true 7)] (nS (nF [oU 2 7 0,oL 4]) (nS (nS (nF [mV 9 1,oA1 10 195 9,oW 11 10,mV 12 11,oG 13 12 true 7 2,oC1 14 12 174 13,gF 15 12 (nX .leq 14 0),oX 16 12 15]) (nC 16 (nR [oA0 17 109,oK 7 4 17 false]) .skip)) (nS (nF [oQ 19 0 2,oI 20 3 19,mV 21 1,oP 22 (.call (.f 209) [(.t 20),(.t 21),(.c (.bool false))]),mV 18 22,oR 23 0 18,oR 24 1 18,oM 5,oK 3 5 23 false,mV 6 24]) (nS (nF [oQ 26 3 2,oI 27 3 26,mV 28 1,oP 29 (.call (.f 209) [(.t 27),(.t 28),(.c (.bool true))]),
 mV 25 29,oR 30 0 25,oR 31 1 25,oM 7,oK 3 7 30 false,mV 8 31]) (nR [oI 32 3 5,mV 33 6,oI 34 3 7,mV 35 8,oA4 36 197 32 33 34 35,oK 7 4 36 false])))))
@[simp] def qhu : AFn:=nG [(.cell 6 true 7)] (nS (nF [oU 3 7 0,oL 6]) (nS (nS (nF [oI 11 7 3,oP 12 (.bslice 7 1 (.agg nI) [(0,(.t 11))]),oA1 13 106 12,oW 14 13,mV 15 14,oE 16 15 2,oC1 17 15 186 16,gF 18 15 (nU 17),oX 19 15 18,mV 20 19,oE 21 20 1,gF 22 20 (nX .lss 21 0),oX 23 20 22,mV 24 23,oE 25 24 1,gF 26 24 (nX .gtr 25 16),oX 27 24 26]) (nC 27 (nR [oA0 28 107,oK 7 6 28 false]) .skip)) (nS (nS (nF [mV 29 1,
 oO 30 .eql 29 0]) (nC 30 (nR [oP 31 (.call (.f 210) [(.c (.int .i64 1))]),oA1 32 152 31,oK 7 6 32 false]) .skip)) (nS (nS (nF [mV 33 1,oO 34 .rem 33 2,oO 35 .eql 34 0]) (nC 35 (nF [oI 36 7 3,oA1 37 156 36,oK 7 3 37 false]) .skip)) (nS (nF [oQ 39 0 3,oI 40 3 39,mV 41 1,mV 42 2,oP 43 (.call (.f 211) [(.t 40),(.t 41),(.t 42),(.c (.bool false))]),mV 38 43,oR 44 0 38,oR 45 1 38,oM 7,oK 3 7 44 false,mV 8 45]) (nS (nF [oQ 47 3 3,oI 48 3 47,mV 49 1,mV 50 2,oP 51 (.call (.f 211) [(.t 48),(.t 49),(.t 50),(.c (.bool true))]),
 mV 46 51,oR 52 0 46,oR 53 1 46,oM 9,oK 3 9 52 false,mV 10 53]) (nR [oI 54 3 7,mV 55 8,oI 56 3 9,mV 57 10,oA4 58 189 54 55 56 57,oK 7 6 58 false])))))))
@[simp] def qke : AFn:=nG [(.cell 4 true 3),(.tmp 5)] (nS (nF [oU 2 3 0,oM 4,oP 5 (nV 0)]) (nS (nS (nF [oI 6 3 2,oA1 7 12 6,oW 8 7,mV 9 8,oE 10 9 1,oC1 11 9 214 10,gF 12 9 (nU 11),oX 13 9 12]) (nC 13 (nR [oP 14 (.build nD []),oK 3 4 14 false,oP 5 (nV 1)]) .skip)) (nR [oQ 15 0 2,oJ 16 15,oQ 17 1 2,oJ 18 17,oQ 19 2 2,oJ 20 19,mV 21 1,oN 22 .add 20 21,oA3 23 85 16 18 22,oA1 24 184 23,oR 25 0 24,oR 26 1 24,oK 3 4 25 false,mV 5 26])))
@[simp] def qgr : AFn:=nG [(.cell 2 true 3),(.tmp 3)] (nS (nF [oU 1 3 0,oM 2,oP 3 (nV 0)]) (nS (nS (nF [oI 4 3 1,oA1 5 12 4,oW 6 5]) (nC 6 (nR [oP 7 (.build nD []),oK 3 2 7 false,oP 3 (nV 9)]) .skip)) (nR [oI 8 3 1,oK 3 2 8 false,oP 3 (nV 0)])))
@[simp] def qgq : AFn:=nG [(.cell 4 true 3)] (nS (nF [oU 2 3 0,oU 3 3 1,oM 4]) (nS (nT [oQ 5 0 2,oJ 6 5,oQ 7 0 3,oJ 8 7,oP 9 (.bin .bool .neq (.t 6) (.t 8)),oQ 10 1 2,oJ 11 10,oQ 12 1 3,oJ 13 12,oA2 14 215 11 13,oQ 15 2 2,oJ 16 15,oQ 17 2 3,oJ 18 17,oN 19 .add 16 18,oB3 20 85 9 14 19,oK 3 4 20 true]) .ret))
@[simp] def qen : AFn:=nG [(.tmp 2)] (nS (nF [oZ 2 false]) (nR [mV 3 0,oO 4 .geq 3 8,mV 5 4,oF 6 5 0,gT 7 5 (nX .leq 6 512),oY 8 5 7,mV 2 8]))
@[simp] def qjl : AFn:=nG [(.cell 6 true 3),(.tmp 7)] (nS (nF [oU 3 3 0,oU 4 3 1,oM 6,oP 7 (nV 0)]) (nR [oI 8 3 3,oI 9 3 4,mV 10 2,oP 11 (.call (.f 216) [(.t 8),(.t 9),(.t 10),(.c (.bool false))]),oR 12 0 11,oR 13 1 11,oK 3 6 12 false,mV 7 13]))
@[simp] def qny : AFn:=nG [(.cell 6 true 3),(.tmp 7)] (nS (nF [oU 3 3 0,oU 4 3 1,oM 6,oP 7 (nV 0)]) (nR [oI 8 3 3,oI 9 3 4,mV 10 2,oP 11 (.call (.f 216) [(.t 8),(.t 9),(.t 10),(.c (.bool true))]),oR 12 0 11,oR 13 1 11,oK 3 6 12 false,mV 7 13]))
@[simp] def qjr : AFn:=nG [(.cell 8 true 7)] (nS (nF [oU 4 3 0,oU 6 3 2,oL 8]) (nS (nS (nF [mV 9 1,oO 10 .neq 9 0,mV 11 10,oE 12 11 3,gF 13 11 (nX .neq 12 0),oX 14 11 13]) (nC 14 (nR [oA0 15 107,oK 7 8 15 false]) .skip)) (nR [oI 16 3 4,oI 17 3 6,oP 18 (.build nI [(0,3,(.t 16)),(3,3,(.t 17))]),oK 7 8 18 false])))
def qdo : AC:=(nS (nF [oO 42 .lss 41 4]) (nS (nC 42 .skip (.exit 0)) (nS (.block 1 (nS (nF [mV 43 41,oP 44 (.index true 4 6 (.t 40) (.t 41)),oP 14 (.new 6 (.agg [(.bool false),.nil,(.int .i64 0),(.bool false),.nil,(.int .i64 0)])),mV 13 43,oK 6 14 44 false]) (nS (nF [mV 46 3,oP 47 (.aiaddr 2 3 (.t 14) (.c (.int .i64 0))),oI 48 3 47,oP 49 (.aiaddr 2 3 (.t 14) (.c (.int .i64 1))),oI 50 3 49,mV 51 2,oP 52 (.call (.t 46) [(.t 48),(.t 50),(.t 51)]),mV 45 52,oR 53 0 45,oR 54 1 45,oM 15,oK 3 15 53 false,mV 16 54]) (nS (nF [mV 56 4,oP 57 (.aiaddr 2 3 (.t 14) (.c (.int .i64 0))),
 oI 58 3 57,oP 59 (.aiaddr 2 3 (.t 14) (.c (.int .i64 1))),oI 60 3 59,mV 61 2,oP 62 (.call (.t 56) [(.t 58),(.t 60),(.t 61)]),mV 55 62,oR 63 0 55,oR 64 1 55,oM 17,oK 3 17 63 false,mV 18 64]) (nS (nS (nF [mV 65 16,oO 66 .neq 65 0,mV 67 66,oE 68 67 18,gF 69 67 (nX .neq 68 0),oX 70 67 69]) (nC 70 (nR [oA0 71 107,oK 7 10 71 false]) .skip)) (nS (nS (nF [mV 72 13,oO 73 .eql 72 0,mV 74 73,oG 75 74 true 3 15,gF 76 74 (nA 0 12),oG 77 74 true 3 76,oC2 78 74 52 75 77,gF 79 74 (nX .lss 78 0),
 oX 80 74 79]) (nC 80 (nF [oI 81 3 15,oQ 82 0 12,oK 3 82 81 false]) .skip)) (nS (nF [mV 83 13,oO 84 .eql 83 0,mV 85 84,oG 86 85 true 3 17,gF 87 85 (nA 3 12),oG 88 85 true 3 87,oC2 89 85 52 86 88,gF 90 85 (nX .gtr 89 0),oX 91 85 90]) (nC 91 (nF [oI 92 3 17,oQ 93 3 12,oK 3 93 92 false]) .skip)))))))) (nF [oO 94 .add 41 1,mV 41 94]))))
@[simp] def qjt : AFn:=nG [(.cell 10 true 7)] (nS (nF [oU 5 7 0,oU 6 7 1,oL 10]) (nS (nF [oQ 19 0 5,oI 20 3 19,oQ 21 0 6,oI 22 3 21,oP 23 (.build [(.bool false),.nil,(.int .i64 0),(.bool false),.nil,(.int .i64 0)] [(0,3,(.t 20)),(3,3,(.t 22))]),oQ 24 0 5,oI 25 3 24,oQ 26 3 6,oI 27 3 26,oP 28 (.build [(.bool false),.nil,(.int .i64 0),(.bool false),.nil,(.int .i64 0)] [(0,3,(.t 25)),(3,3,(.t 27))]),oQ 29 3 5,oI 30 3 29,oQ 31 0 6,oI 32 3 31,oP 33 (.build [(.bool false),.nil,(.int .i64 0),(.bool false),.nil,(.int .i64 0)] [(0,3,(.t 30)),(3,3,(.t 32))]),oQ 34 3 5,oI 35 3 34,
 oQ 36 3 6,oI 37 3 36,oP 38 (.build [(.bool false),.nil,(.int .i64 0),(.bool false),.nil,(.int .i64 0)] [(0,3,(.t 35)),(3,3,(.t 37))]),oP 39 (.build [(.bool false),.nil,(.int .i64 0),(.bool false),.nil,(.int .i64 0),(.bool false),.nil,(.int .i64 0),(.bool false),.nil,(.int .i64 0),(.bool false),.nil,(.int .i64 0),(.bool false),.nil,(.int .i64 0),(.bool false),.nil,(.int .i64 0),(.bool false),.nil,(.int .i64 0)] [(0,6,(.t 23)),(6,6,(.t 28)),(12,6,(.t 33)),(18,6,(.t 38))]),oP 11 (.new 24 (.agg [(.bool false),.nil,(.int .i64 0),(.bool false),.nil,(.int .i64 0),(.bool false),.nil,(.int .i64 0),(.bool false),.nil,(.int .i64 0),(.bool false),.nil,(.int .i64 0),(.bool false),.nil,(.int .i64 0),(.bool false),.nil,(.int .i64 0),(.bool false),.nil,(.int .i64 0)])),
 oK 24 11 39 false]) (nS (nF [oL 12]) (nS (nS (nF [oI 40 24 11,oP 41 (nV 0)]) (.block 0 (.loop qdo))) (nR [oI 95 7 12,oK 7 10 95 false])))))
@[simp] def qjj : AFn:=nG [(.cell 6 true 3),(.tmp 7)] (nS (nF [oU 3 3 0,oU 4 3 1,oM 6,oP 7 (nV 0)]) (nR [oI 8 3 3,oI 9 3 4,mV 10 2,oP 11 (.call (.f 217) [(.t 8),(.t 9),(.t 10),(.c (.bool false))]),oR 12 0 11,oR 13 1 11,oK 3 6 12 false,mV 7 13]))
@[simp] def qnw : AFn:=nG [(.cell 6 true 3),(.tmp 7)] (nS (nF [oU 3 3 0,oU 4 3 1,oM 6,oP 7 (nV 0)]) (nR [oI 8 3 3,oI 9 3 4,mV 10 2,oP 11 (.call (.f 217) [(.t 8),(.t 9),(.t 10),(.c (.bool true))]),oR 12 0 11,oR 13 1 11,oK 3 6 12 false,mV 7 13]))
@[simp] def qjk : AFn:=nG [(.cell 6 true 3),(.tmp 7)] (nS (nF [oU 3 3 0,oU 4 3 1,oM 6,oP 7 (nV 0)]) (nR [oI 8 3 3,oI 9 3 4,mV 10 2,oP 11 (.call (.f 218) [(.t 8),(.t 9),(.t 10),(.c (.bool false))]),oR 12 0 11,oR 13 1 11,oK 3 6 12 false,mV 7 13]))
@[simp] def qnx : AFn:=nG [(.cell 6 true 3),(.tmp 7)] (nS (nF [oU 3 3 0,oU 4 3 1,oM 6,oP 7 (nV 0)]) (nR [oI 8 3 3,oI 9 3 4,mV 10 2,oP 11 (.call (.f 218) [(.t 8),(.t 9),(.t 10),(.c (.bool true))]),oR 12 0 11,oR 13 1 11,oK 3 6 12 false,mV 7 13]))
@[simp] def qmc : AFn:=nG [(.tmp 2)] (nS (nF [oZ 2 false]) (nR [mV 3 0,oO 4 .geq 3 8,mV 5 4,oF 6 5 0,gT 7 5 (nX .leq 6 512),oY 8 5 7,mV 2 8]))
@[simp] def qoj : AFn:=nG [(.cell 8 true 3),(.tmp 9)] (nS (nF [oU 4 3 0,oU 5 3 1,oM 8,oP 9 (nV 0)]) (nS (nF [oI 11 3 4,oI 12 3 5,mV 13 2,oA3 14 219 11 12 13,mV 10 14]) (nS (nS (nF [mV 15 10,oO 16 .neq 15 0]) (nC 16 (nR [oP 17 (.build nD []),mV 18 10,oK 3 8 17 false,mV 9 18]) .skip)) (nR [oI 19 3 4,oI 20 3 5,oA2 21 56 19 20,mV 22 2,mV 23 3,oA3 24 220 21 22 23,oR 25 0 24,oR 26 1 24,oK 3 8 25 false,mV 9 26]))))
@[simp] def ql8 : AFn:=nG [(.cell 8 true 7)] (nS (nF [oU 4 3 0,oU 6 3 2,oL 8]) (nS (nS (nF [mV 9 1,oO 10 .neq 9 0,mV 11 10,oE 12 11 3,gF 13 11 (nX .neq 12 0),oX 14 11 13]) (nC 14 (nR [oA0 15 109,oK 7 8 15 false]) .skip)) (nR [oI 16 3 4,oI 17 3 6,oP 18 (.build nI [(0,3,(.t 16)),(3,3,(.t 17))]),oK 7 8 18 false])))
@[simp] def qqb : AFn:=nG [(.cell 2 true 3)] (nS (nF [oU 1 3 0,oM 2]) (nS (nS (nF [oI 3 3 1,oA1 4 51 3,oW 5 4,mV 6 5,gF 7 6 (nA 1 1),oG 8 6 false 1 7,gF 9 6 (.len (.t 8)),gF 10 6 (nX .eql 9 0),oX 11 6 10]) (nC 11 (nR [oP 12 (.build nD []),oK 3 2 12 false]) .skip)) (nS (nT [oQ 13 0 1,oJ 14 13,oW 15 14,oQ 16 1 1,oJ 17 16,oA1 18 221 17,oQ 19 2 1,oJ 20 19,oP 21 (.build nD [(0,1,(.t 15)),(1,1,(.t 18)),(2,1,(.t 20))]),oK 3 2 21 true]) .ret)))
@[simp] def qp6 : AFn:=nG [(.cell 4 true 3),(.tmp 5)] (nS (nF [oU 2 3 0,oM 4,oP 5 (nV 0)]) (nR [oI 6 3 2,mV 7 1,oP 8 (.call (.f 222) [(.t 6),(.t 7),(.c (.bool false))]),oR 9 0 8,oR 10 1 8,oK 3 4 9 false,mV 5 10]))
@[simp] def qt2 : AFn:=nG [(.cell 4 true 3),(.tmp 5)] (nS (nF [oU 2 3 0,oM 4,oP 5 (nV 0)]) (nR [oI 6 3 2,mV 7 1,oP 8 (.call (.f 222) [(.t 6),(.t 7),(.c (.bool true))]),oR 9 0 8,oR 10 1 8,oK 3 4 9 false,mV 5 10]))
@[simp] def ql9 : AFn:=nG [(.tmp 4)] (nS (nF [oU 2 7 0,oU 3 7 1,oP 4 (.mv (.c .nil))]) (nR [oQ 5 0 2,oI 6 3 5,oQ 7 0 3,oI 8 3 7,oP 9 (.build [(.bool false),.nil,(.int .i64 0),(.bool false),.nil,(.int .i64 0)] [(0,3,(.t 6)),(3,3,(.t 8))]),oQ 10 0 2,oI 11 3 10,oQ 12 3 3,oI 13 3 12,oP 14 (.build [(.bool false),.nil,(.int .i64 0),(.bool false),.nil,(.int .i64 0)] [(0,3,(.t 11)),(3,3,(.t 13))]),oQ 15 3 2,oI 16 3 15,oQ 17 0 3,oI 18 3 17,oP 19 (.build [(.bool false),.nil,(.int .i64 0),(.bool false),.nil,(.int .i64 0)] [(0,3,(.t 16)),(3,3,(.t 18))]),oQ 20 3 2,oI 21 3 20,oQ 22 3 3,
 oI 23 3 22,oP 24 (.build [(.bool false),.nil,(.int .i64 0),(.bool false),.nil,(.int .i64 0)] [(0,3,(.t 21)),(3,3,(.t 23))]),oP 25 (.bslice 6 4 (.agg [(.bool false),.nil,(.int .i64 0),(.bool false),.nil,(.int .i64 0)]) [(0,(.t 9)),(1,(.t 14)),(2,(.t 19)),(3,(.t 24))]),mV 4 25]))
@[simp] def qoh : AFn:=nG [(.cell 8 true 3),(.tmp 9)] (nS (nF [oU 4 3 0,oU 5 3 1,oM 8,oP 9 (nV 0)]) (nS (nF [oI 11 3 4,oI 12 3 5,mV 13 2,oA3 14 219 11 12 13,mV 10 14]) (nS (nS (nF [mV 15 10,oO 16 .neq 15 0]) (nC 16 (nR [oP 17 (.build nD []),mV 18 10,oK 3 8 17 false,mV 9 18]) .skip)) (nR [oI 19 3 4,oI 20 3 5,oA2 21 185 19 20,mV 22 2,mV 23 3,oA3 24 220 21 22 23,oR 25 0 24,oR 26 1 24,oK 3 8 25 false,mV 9 26]))))
@[simp] def qms : AFn:=nG [(.cell 4 true 3),(.tmp 5)] (nS (nF [oU 2 3 0,oM 4,oP 5 (nV 0)]) (nS (nS (nF [oI 6 3 2,oA1 7 51 6,oW 8 7,mV 9 8,oE 10 9 1,oC1 11 9 223 10,gF 12 9 (nU 11),oX 13 9 12]) (nC 13 (nR [oP 14 (.build nD []),oK 3 4 14 false,oP 5 (nV 1)]) .skip)) (nR [oQ 15 0 2,oJ 16 15,oQ 17 1 2,oJ 18 17,oQ 19 2 2,oJ 20 19,mV 21 1,oN 22 .add 20 21,oA3 23 225 16 18 22,oA1 24 224 23,oR 25 0 24,oR 26 1 24,oK 3 4 25 false,mV 5 26])))
@[simp] def qqe : AFn:=nG [(.cell 2 true 3)] (nS (nF [oU 1 3 0,oM 2]) (nS (nS (nF [oI 3 3 1,oA1 4 51 3,oW 5 4,mV 6 5,gF 7 6 (nA 1 1),oG 8 6 false 1 7,gF 9 6 (.len (.t 8)),gF 10 6 (nX .eql 9 0),oX 11 6 10]) (nC 11 (nR [oP 12 (.build nD []),oK 3 2 12 false]) .skip)) (nS (nT [oQ 13 1 1,oJ 14 13,oA1 15 221 14,oQ 16 2 1,oJ 17 16,oP 18 (.build nD [(1,1,(.t 15)),(2,1,(.t 17))]),oK 3 2 18 true]) .ret)))
@[simp] def qoi : AFn:=nG [(.cell 8 true 3),(.tmp 9)] (nS (nF [oU 4 3 0,oU 5 3 1,oM 8,oP 9 (nV 0)]) (nS (nF [oI 14 3 4,oI 15 3 5,mV 16 2,oA3 17 219 14 15 16,mV 10 17]) (nS (nS (nF [mV 18 10,oO 19 .neq 18 0]) (nC 19 (nR [oP 20 (.build nD []),mV 21 10,oK 3 8 20 false,mV 9 21]) .skip)) (nS (nS (nF [oQ 22 1 5,oJ 23 22,oT 24 23,oO 25 .eql 24 0]) (nC 25 (nR [oP 26 (.build nD []),oK 3 8 26 false,oP 9 (nV 10)]) .skip)) (nS (nS (nF [oQ 27 1 4,
 oJ 28 27,oT 29 28,oO 30 .eql 29 0]) (nC 30 (nR [oP 31 (.build nD []),oK 3 8 31 false,oP 9 (nV 0)]) .skip)) (nS (nT [mV 32 2,oO 33 .add 32 2,oQ 34 1 5,oJ 35 34,oA1 36 226 35,oN 37 .add 33 36,oQ 38 1 4,oJ 39 38,oB1 40 226 39,oN 41 .sub 37 40,oP 42 (.max (.c (.int .i64 0)) (.t 41)),mV 11 42]) (nS (nT [oQ 44 1 4,oJ 45 44,mV 46 11,oA2 47 228 45 46,oQ 48 1 5,oJ 49 48,oB2 50 227 47 49,mV 43 50,oR 51 0 43,oR 52 1 43,mV 12 51,mV 13 52]) (nS (nT [oQ 53 0 4,oJ 54 53,oQ 55 0 5,oJ 56 55,oP 57 (.bin .bool .neq (.t 54) (.t 56)),
 mV 58 12,oQ 59 2 4,oJ 60 59,oQ 61 2 5,oJ 62 61,oN 63 .sub 60 62,mV 64 11,oN 65 .sub 63 64,mV 66 13,oA1 67 226 66,oO 68 .gtr 67 0,mV 69 2,mV 70 3,oB6 71 229 57 58 65 68 69 70,oR 72 0 71,oR 73 1 71,oK 3 8 72 true,mV 9 73]) .ret))))))))
@[simp] def qhh : AFn:=nG [(.cell 4 true 3),(.tmp 5)] (nS (nF [oU 2 3 0,oM 4,oP 5 (nV 0)]) (nR [oI 6 3 2,mV 7 1,oP 8 (.call (.f 230) [(.t 6),(.t 7),(.c (.bool false))]),oR 9 0 8,oR 10 1 8,oK 3 4 9 false,mV 5 10]))
@[simp] def qls : AFn:=nG [(.cell 4 true 3),(.tmp 5)] (nS (nF [oU 2 3 0,oM 4,oP 5 (nV 0)]) (nR [oI 6 3 2,mV 7 1,oP 8 (.call (.f 230) [(.t 6),(.t 7),(.c (.bool true))]),oR 9 0 8,oR 10 1 8,oK 3 4 9 false,mV 5 10]))
@[simp] def qmd : AFn:=nG [(.cell 6 true 3),(.tmp 7)] (nS (nF [oU 3 3 0,oM 6,oP 7 (nV 0)]) (nS (nF [oI 12 3 3,oI 13 3 3,mV 14 1,oA3 15 219 12 13 14,mV 8 15]) (nS (nS (nF [mV 16 8,oO 17 .neq 16 0]) (nC 17 (nR [oP 18 (.build nD []),mV 19 8,oK 3 6 18 false,mV 7 19]) .skip)) (nS (nS (nF [oQ 20 0 3,oJ 21 20]) (nC 21 (nR [oP 22 (.build nD []),oK 3 6 22 false,oP 7 (nV 2)]) .skip)) (nS (nS (nF [oQ 23 1 3,
 oJ 24 23,oT 25 24,oO 26 .eql 25 0]) (nC 26 (nR [oP 27 (.build nD []),oK 3 6 27 false,oP 7 (nV 0)]) .skip)) (nS (nF [mV 28 1,oP 29 (.bin .num .mul (.c (.int .i64 2)) (.t 28)),oO 30 .add 29 4,oQ 31 1 3,oJ 32 31,oA1 33 226 32,oN 34 .sub 30 33,oP 35 (.max (.c (.int .i64 0)) (.t 34)),mV 9 35]) (nS (nS (nF [oQ 36 2 3,oJ 37 36,mV 38 9,oN 39 .sub 37 38,oO 40 .rem 39 2,oO 41 .neq 40 0]) (nC 41 (nF [mV 42 9,oO 43 .add 42 1,mV 9 43]) .skip)) (nS (nF [oQ 44 1 3,oJ 45 44,
 mV 46 9,oA2 47 228 45 46,mV 10 47]) (nS (nF [mV 48 10,oA1 49 231 48,mV 11 49]) (nS (nT [mV 50 11,oQ 51 2 3,oJ 52 51,mV 53 9,oN 54 .sub 52 53,oO 55 .quo 54 2,mV 56 11,mV 57 11,oA2 58 233 56 57,mV 59 10,oA2 60 232 58 59,oO 61 .neq 60 0,mV 62 1,mV 63 2,oS 64 (.call (.f 229) [(.c (.bool false)),(.t 50),(.t 55),(.t 61),(.t 62),(.t 63)]),oR 65 0 64,oR 66 1 64,oK 3 6 65 true,mV 7 66]) .ret))))))))))
@[simp] def qqc : AFn:=nG [(.cell 2 true 3)] (nS (nF [oM 2]) (nS (nF [mV 4 0,oP 5 (.conv .u64 (.t 4)),mV 3 5]) (nS (nS (nF [mV 6 0,oO 7 .lss 6 0]) (nC 7 (nF [mV 8 3,oP 9 (.un .neg (.t 8)),mV 3 9]) .skip)) (nR [mV 10 0,oO 11 .lss 10 0,mV 12 3,oP 13 (.conv .u32 (.t 12)),mV 14 3,oP 15 (.bin .num .shr (.t 14) (.c (.int .u64 32))),oP 16 (.conv .u32 (.t 15)),oP 17 (.bslice 1 2 (.int .u32 0) [(0,(.t 13)),(1,(.t 16))]),oP 18 (.call (.f 225) [(.t 11),(.t 17),(.c (.int .i64 0))]),oK 3 2 18 false]))))
@[simp] def qlw : AFn:=nG [(.cell 8 true 3),(.tmp 9)] (nS (nF [oU 4 3 0,oM 8,oP 9 (nV 0)]) (nS (nS (nF [oI 12 3 4,oA1 13 79 12,oO 14 .lss 13 0]) (nC 14 (nS (nF [oI 16 3 4,oA1 17 198 16,mV 18 1,mV 19 2,mV 20 3,oW 21 20,oA4 22 211 17 18 19 21,mV 15 22,oR 23 0 15,oR 24 1 15,oM 10,oK 3 10 23 false,mV 11 24]) (nR [oI 25 3 10,oA1 26 198 25,mV 27 11,oK 3 8 26 false,mV 9 27])) .skip)) (nS (nS (nF [mV 28 3]) (nC 28 (nR [oI 29 3 4,mV 30 1,mV 31 2,oP 32 (.call (.f 234) [(.t 29),(.t 30),(.t 31),(.f 200),(.f 192)]),
 oR 33 0 32,oR 34 1 32,oK 3 8 33 false,mV 9 34]) .skip)) (nR [oI 35 3 4,mV 36 1,mV 37 2,oP 38 (.call (.f 234) [(.t 35),(.t 36),(.t 37),(.f 199),(.f 191)]),oR 39 0 38,oR 40 1 38,oK 3 8 39 false,mV 9 40]))))
@[simp] def qf6 : AFn:=nG [(.tmp 2)] (nS (nF [oZ 2 false]) (nR [mV 3 0,oP 4 (nX .geq 3 (-32768)),mV 5 4,oF 6 5 0,gT 7 5 (nX .leq 6 32768),oY 8 5 7,mV 2 8]))
def qf5 : AC:=(nS (nS (nF [mV 25 8,mV 26 1,oT 27 26,oN 28 .lss 25 27]) (nC 28 .skip (.exit 2))) (nS (.block 3 (nS (nT [mV 31 0,mV 32 6,oV 33 1 31 32,oJ 34 33,oP 35 (.conv .u64 (.t 34)),mV 36 1,mV 37 8,oV 38 1 36 37,oJ 39 38,oP 40 (.conv .u64 (.t 39)),oN 41 .mul 35 40,mV 42 5,mV 43 6,mV 44 8,oN 45 .add 43 44,oV 46 1 42 45,oJ 47 46,oP 48 (.conv .u64 (.t 47)),oN 49 .add 41 48,mV 50 7,oN 51 .add 49 50,mV 9 51]) (nS (nF [mV 52 5,mV 53 6,mV 54 8,oN 55 .add 53 54,mV 56 9,oP 57 (.bin .num .and (.t 56) (.c (.int .u64 4294967295))),oP 58 (.conv .u32 (.t 57)),
 oV 59 1 52 55,oK 1 59 58 false]) (nF [mV 60 9,oP 61 (.bin .num .shr (.t 60) (.c (.int .u64 32))),mV 7 61])))) (nF [mV 29 8,oO 30 .add 29 1,mV 8 30])))
def qf4 : AC:=(nS (nS (nF [mV 66 7,oP 67 (.bin .num .gtr (.t 66) (.c (.int .u64 0)))]) (nC 67 .skip (.exit 4))) (nS (.block 5 (nS (nF [mV 70 5,mV 71 10,oV 72 1 70 71,oJ 73 72,oP 74 (.conv .u64 (.t 73)),mV 75 7,oN 76 .add 74 75,mV 11 76]) (nS (nF [mV 77 5,mV 78 10,mV 79 11,oP 80 (.bin .num .and (.t 79) (.c (.int .u64 4294967295))),oP 81 (.conv .u32 (.t 80)),oV 82 1 77 78,oK 1 82 81 false]) (nF [mV 83 11,oP 84 (.bin .num .shr (.t 83) (.c (.int .u64 32))),mV 7 84])))) (nF [mV 68 10,oO 69 .add 68 1,mV 10 69])))
def qf3 : AC:=(nS (nS (nF [mV 19 6,mV 20 0,oT 21 20,oN 22 .lss 19 21]) (nC 22 .skip (.exit 0))) (nS (.block 1 (nS (nF [oP 7 (.mv (.c (.int .u64 0)))]) (nS (nS (nF [oP 8 (nV 0)]) (.block 2 (.loop qf5))) (nS (nF [mV 62 6,mV 63 1,oT 64 63,oN 65 .add 62 64,mV 10 65]) (.block 4 (.loop qf4)))))) (nF [mV 23 6,oO 24 .add 23 1,mV 6 24])))
@[simp] def qka : AFn:=nG [(.tmp 4)] (nS (nF [oP 4 (.mv (.c .nil))]) (nS (nF [mV 12 0,oT 13 12,mV 14 1,oT 15 14,oN 16 .add 13 15,oO 17 .add 16 1,oP 18 (.mkslice 1 4 (.int .u32 0) (.t 17) (.t 17)),mV 5 18]) (nS (nS (nF [oP 6 (nV 0)]) (.block 0 (.loop qf3))) (nR [mV 85 5,oA1 86 101 85,mV 4 86]))))
@[simp] def c_round_add : AFn:=nG [(.cell 8 true 3),(.tmp 9)] (nS (nF [oU 4 3 0,oU 5 3 1,oM 8,oP 9 (nV 0)]) (nS (nS (nF [mV 13 2,oI 14 3 4,oI 15 3 5,oP 16 (.bslice 3 2 (.agg nD) [(0,(.t 14)),(1,(.t 15))]),oA2 17 235 13 16,mV 10 17]) (nS (nF [mV 18 10,oO 19 .neq 18 0]) (nC 19 (nR [oP 20 (.build nD []),mV 21 10,oK 3 8 20 false,mV 9 21]) .skip))) (nS (.block 0 (nS (nF [oQ 23 1 4,oJ 24 23,oT 25 24,oO 26 .eql 25 0,mV 22 26]) (nC 22 (nR [oI 27 3 5,
 mV 28 2,mV 29 3,oA3 30 222 27 28 29,oR 31 0 30,oR 32 1 30,oK 3 8 31 false,mV 9 32]) (nS (nF [oQ 34 1 5,oJ 35 34,oT 36 35,oO 37 .eql 36 0,mV 33 37]) (nC 33 (nR [oI 38 3 4,mV 39 2,mV 40 3,oA3 41 222 38 39 40,oR 42 0 41,oR 43 1 41,oK 3 8 42 false,mV 9 43]) .skip))))) (nS (nS (nT [oI 44 3 4,oA1 45 98 44,oI 46 3 5,oB1 47 98 46,oN 48 .lss 45 47]) (nC 48 (nF [oI 49 3 5,oI 50 3 4,oK 3 4 49 false,oK 3 5 50 false]) .skip)) (nS (nF [oI 52 3 4,oI 53 3 5,mV 54 2,oA3 55 236 52 53 54,mV 51 55,oR 56 0 51,oR 57 1 51,
 oP 11 (.new 3 (.agg [.nil,(.int .i64 0),(.bool false)])),oK 3 11 56 false,mV 12 57]) (nS (nS (nF [oQ 58 0 11,oJ 59 58,oT 60 59,oO 61 .eql 60 0,mV 62 61,gT 63 62 (nA 2 11),oH 64 62 false 1 63,gT 65 62 (nU 64),oY 66 62 65]) (nC 66 (nR [oP 67 (.build nD []),oK 3 8 67 false,oP 9 (nV 0)]) .skip)) (nR [oQ 68 0 4,oJ 69 68,mV 70 12,oP 71 (.bin .bool .neq (.t 69) (.t 70)),oI 72 3 11,mV 73 2,mV 74 3,oA4 75 237 71 72 73 74,oR 76 0 75,oR 77 1 75,oK 3 8 76 false,mV 9 77])))))))
@[simp] def qrz : AFn:=nG [(.cell 8 true 3),(.tmp 9)] (nS (nF [oU 4 3 0,oU 5 3 1,oM 8,oP 9 (nV 0)]) (nS (nS (nF [mV 13 2,oI 14 3 4,oI 15 3 5,oP 16 (.bslice 3 2 (.agg nD) [(0,(.t 14)),(1,(.t 15))]),oA2 17 235 13 16,mV 10 17]) (nS (nF [mV 18 10,oO 19 .neq 18 0]) (nC 19 (nR [oP 20 (.build nD []),mV 21 10,oK 3 8 20 false,mV 9 21]) .skip))) (nS (nS (nF [oQ 22 1 4,oJ 23 22,oT 24 23,oO 25 .eql 24 0,mV 26 25,gF 27 26 (nA 1 5),oG 28 26 false 1 27,
 gF 29 26 (.len (.t 28)),gF 30 26 (nX .eql 29 0),oX 31 26 30]) (nC 31 (nR [oP 32 (.build nD []),oK 3 8 32 false,oP 9 (nV 0)]) .skip)) (nS (nF [oQ 34 1 4,oJ 35 34,oQ 36 1 5,oJ 37 36,oA2 38 238 35 37,mV 33 38,oR 39 0 33,oR 40 1 33,mV 11 39,mV 12 40]) (nR [oQ 41 0 4,oJ 42 41,oQ 43 0 5,oJ 44 43,oP 45 (.bin .bool .neq (.t 42) (.t 44)),mV 46 11,oQ 47 2 4,oJ 48 47,oQ 49 2 5,oJ 50 49,oN 51 .add 48 50,oP 52 (.build [.nil,(.int .i64 0),(.bool false)] [(0,1,(.t 46)),(1,1,(.t 51))]),
 mV 53 2,mV 54 3,oA4 55 237 45 52 53 54,oR 56 0 55,oR 57 1 55,oK 3 8 56 false,mV 9 57])))))
@[simp] def qr0 : AFn:=nG [(.cell 8 true 3),(.tmp 9)] (nS (nF [oU 4 3 0,oU 5 3 1,oM 8,oP 9 (nV 0)]) (nS (nS (nF [mV 15 2,oI 16 3 4,oI 17 3 5,oP 18 (.bslice 3 2 (.agg nD) [(0,(.t 16)),(1,(.t 17))]),oA2 19 235 15 18,mV 10 19]) (nS (nF [mV 20 10,oO 21 .neq 20 0]) (nC 21 (nR [oP 22 (.build nD []),mV 23 10,oK 3 8 22 false,mV 9 23]) .skip))) (nS (.block 0 (nS (nF [oQ 25 1 5,oJ 26 25,oT 27 26,oO 28 .eql 27 0,mV 24 28]) (nC 24 (nR [oP 29 (.build nD []),
 oK 3 8 29 false,oP 9 (nV 10)]) (nS (nF [oQ 31 1 4,oJ 32 31,oT 33 32,oO 34 .eql 33 0,mV 30 34]) (nC 30 (nR [oP 35 (.build nD []),oK 3 8 35 false,oP 9 (nV 0)]) .skip))))) (nS (nT [mV 36 2,oO 37 .add 36 3,oI 38 3 5,oA1 39 239 38,oN 40 .add 37 39,oI 41 3 4,oB1 42 239 41,oN 43 .sub 40 42,oP 44 (.max (.c (.int .i64 0)) (.t 43)),mV 11 44]) (nS (nT [oQ 46 1 4,oJ 47 46,mV 48 11,oA2 49 241 47 48,oQ 50 1 5,oJ 51 50,oB2 52 240 49 51,mV 45 52,oR 53 0 45,oR 54 1 45,oR 55 2 45,
 mV 12 53,mV 13 54,mV 14 55]) (nS (nT [oQ 56 0 4,oJ 57 56,oQ 58 0 5,oJ 59 58,oP 60 (.bin .bool .neq (.t 57) (.t 59)),mV 61 12,oQ 62 2 4,oJ 63 62,mV 64 11,oN 65 .sub 63 64,oQ 66 2 5,oJ 67 66,oN 68 .sub 65 67,mV 69 13,oA1 70 110 69,oO 71 .gtr 70 0,oP 72 (.build [.nil,(.int .i64 0),(.bool false)] [(0,1,(.t 61)),(1,1,(.t 68)),(2,1,(.t 71))]),mV 73 2,mV 74 3,oB4 75 237 60 72 73 74,oR 76 0 75,oR 77 1 75,oK 3 8 76 true,mV 9 77]) .ret))))))
@[simp] def qj7 : AFn:=nG [(.tmp 6)] (nS (nF [oU 3 3 0,oU 4 3 1,oP 6 (nV 0)]) (nS (nS (nF [oI 7 3 3,oA1 8 12 7,oW 9 8,mV 10 9,oG 11 10 true 3 4,oC1 12 10 12 11,gF 13 10 (nU 12),oX 14 10 13]) (nC 14 (nR [oP 6 (nV 1)]) .skip)) (nS (nS (nF [mV 15 2,oA1 16 242 15,oW 17 16]) (nC 17 (nR [oP 6 (nV 2)]) .skip)) (nR [oP 6 (nV 0)]))))
@[simp] def qj8 : AFn:=nG [(.cell 6 true 3),(.tmp 7)] (nS (nF [oU 3 3 0,oM 6,oP 7 (nV 0)]) (nR [oQ 8 0 3,oJ 9 8,oQ 10 1 3,oJ 11 10,oQ 12 2 3,oJ 13 12,mV 14 1,mV 15 2,oP 16 (.call (.f 229) [(.t 9),(.t 11),(.t 13),(.c (.bool false)),(.t 14),(.t 15)]),oR 17 0 16,oR 18 1 16,oK 3 6 17 false,mV 7 18]))
@[simp] def qdx : AFn:=nG [(.tmp 2)] (nS (nF [oP 2 (.mv (.c .nil))]) (nS (nS (nF [mV 3 0,oP 4 (.bin .slice .eql (.t 3) (.c .nil))]) (nC 4 (nR [oP 2 (.mv (.c .nil))]) .skip)) (nR [oP 5 (.bslice 1 0 (.int .u32 0) []),mV 6 0,oP 7 (.append 1 4 (.t 5) (.t 6)),mV 2 7])))
@[simp] def qnu : AFn:=nG [(.cell 6 true 3),(.tmp 7)] (nS (nF [oU 3 3 0,oM 6,oP 7 (nV 0)]) (nS (nS (nF [mV 9 1,oI 10 3 3,oP 11 (.bslice 3 1 (.agg nD) [(0,(.t 10))]),oA2 12 235 9 11,mV 8 12]) (nS (nF [mV 13 8,oO 14 .neq 13 0]) (nC 14 (nR [oP 15 (.build nD []),mV 16 8,oK 3 6 15 false,mV 7 16]) .skip))) (nS (nT [oQ 17 0 3,oJ 18 17,oI 19 3 3,oA1 20 243 19,mV 21 1,mV 22 2,oB4 23 237 18 20 21 22,oR 24 0 23,oR 25 1 23,oK 3 6 24 true,mV 7 25]) .ret)))
@[simp] def qgv : AFn:=nG [(.tmp 2)] (nS (nF [oZ 2 false]) (nR [mV 3 0,oP 4 (nX .geq 3 (-32768)),mV 5 4,oF 6 5 0,gT 7 5 (nX .leq 6 32768),oY 8 5 7,mV 2 8]))
@[simp] def qie : AFn:=nG [(.cell 2 true 3),(.tmp 3)] (nS (nF [oU 1 3 0,oM 2,oP 3 (nV 0)]) (nS (nS (nF [oI 4 3 1,oA1 5 78 4,oW 6 5]) (nC 6 (nR [oP 7 (.build nD []),oK 3 2 7 false,oP 3 (nV 9)]) .skip)) (nR [oI 8 3 1,oK 3 2 8 false,oP 3 (nV 0)])))
@[simp] def qf7 : AFn:=nG [(.cell 6 true 3)] (nS (nF [oM 6]) (nS (nF [mV 10 1,oA1 11 244 10,mV 1 11]) (nS (nS (nF [mV 12 1,oT 13 12,oO 14 .eql 13 0]) (nC 14 (nR [oP 15 (.build nD []),oK 3 6 15 false]) .skip)) (nS (nF [mV 16 1,oA1 17 245 16,mV 7 17]) (nS (nF [mV 19 1,mV 20 7,oA2 21 246 19 20,mV 18 21,oR 22 0 18,oR 23 1 18,mV 8 22,mV 9 23]) (nR [mV 24 0,mV 25 8,oA1 26 221 25,oA1 27 119 26,mV 28 2,mV 29 7,oN 30 .add 28 29,oP 31 (.build nD [(0,1,(.t 24)),(1,1,(.t 27)),(2,1,(.t 30))]),
 oK 3 6 31 false]))))))
def qgs : AC:=(nS (nS (nF [mV 24 5,oP 25 (.bin .num .gtr (.t 24) (.c (.int .u32 0)))]) (nC 25 .skip (.exit 2))) (nS (.block 3 (nF [mV 28 4,oO 29 .add 28 1,mV 4 29])) (nF [mV 26 5,oP 27 (.bin .num .shr (.t 26) (.c (.int .u64 1))),mV 5 27])))
def qei : AC:=(nS (nS (nF [mV 9 3,oO 10 .geq 9 0]) (nC 10 .skip (.exit 0))) (nS (.block 1 (nS (nF [mV 13 0,mV 14 3,oV 15 1 13 14,oJ 16 15,oP 17 (.bin .num .neq (.t 16) (.c (.int .u32 0)))]) (nC 17 (nS (nF [mV 18 3,oP 19 (.bin .num .mul (.c (.int .i64 32)) (.t 18)),mV 4 19]) (nS (nS (nF [mV 20 0,mV 21 3,oV 22 1 20 21,oJ 23 22,mV 5 23]) (.block 2 (.loop qgs))) (nR [mV 30 4,mV 2 30]))) .skip))) (nF [mV 11 3,oO 12 .sub 11 1,mV 3 12])))
@[simp] def qmn : AFn:=nG [(.tmp 2)] (nS (nF [oP 2 (nV 0)]) (nS (nS (nF [mV 6 0,oT 7 6,oO 8 .sub 7 1,mV 3 8]) (.block 0 (.loop qei))) (nR [oP 2 (nV 0)])))
def qc8 : AC:=(nS (nS (nF [mV 40 10,mV 41 7,oT 42 41,oN 43 .lss 40 42]) (nC 43 .skip (.exit 2))) (nS (.block 3 (nS (nF [mV 46 7,mV 47 10,oV 48 1 46 47,oJ 49 48,mV 11 49]) (nS (nF [mV 50 7,mV 51 10,mV 52 11,oP 53 (.bin .num .shl (.t 52) (.c (.int .u64 1))),mV 54 9,oN 55 .or 53 54,oV 56 1 50 51,oK 1 56 55 false]) (nF [mV 57 11,oP 58 (.bin .num .shr (.t 57) (.c (.int .u64 31))),mV 9 58])))) (nF [mV 44 10,oO 45 .add 44 1,mV 10 45])))
def qc7 : AC:=(nS (nS (nF [mV 62 13,mV 63 7,oT 64 63,oN 65 .lss 62 64]) (nC 65 .skip (.exit 4))) (nS (.block 5 (nS (nT [mV 68 7,mV 69 13,oV 70 1 68 69,oJ 71 70,oP 72 (.conv .u64 (.t 71)),oP 73 (.bin .num .add (.t 72) (.c (.int .u64 4294967296))),mV 74 1,mV 75 13,oA2 76 249 74 75,oN 77 .sub 73 76,mV 78 12,oN 79 .sub 77 78,mV 14 79]) (nS (nF [mV 80 7,mV 81 13,mV 82 14,oP 83 (.bin .num .and (.t 82) (.c (.int .u64 4294967295))),oP 84 (.conv .u32 (.t 83)),oV 85 1 80 81,oK 1 85 84 false]) (nF [mV 86 14,oP 87 (.bin .num .shr (.t 86) (.c (.int .u64 32))),
 oP 88 (.bin .num .sub (.c (.int .u64 1)) (.t 87)),mV 12 88])))) (nF [mV 66 13,oO 67 .add 66 1,mV 13 67])))
def qfa : AC:=(nS (nS (nF [mV 27 8,oO 28 .geq 27 0]) (nC 28 .skip (.exit 0))) (nS (.block 1 (nS (nF [mV 31 0,mV 32 8,oO 33 .quo 32 32,oV 34 1 31 33,oJ 35 34,mV 36 8,oO 37 .rem 36 32,oN 38 .shr 35 37,oP 39 (.bin .num .and (.t 38) (.c (.int .u32 1))),mV 9 39]) (nS (nS (nF [oP 10 (nV 0)]) (.block 2 (.loop qc8))) (nS (nS (nF [mV 59 7,mV 60 1,oA2 61 248 59 60]) (nC 61 (.exit 1) .skip)) (nS (nF [oP 12 (.mv (.c (.int .u64 0)))]) (nS (nS (nF [oP 13 (nV 0)]) (.block 4 (.loop qc7))) (nT [mV 89 6,
 mV 90 8,oO 91 .quo 90 32,mV 92 6,mV 93 8,oO 94 .quo 93 32,oV 95 1 92 94,oJ 96 95,mV 97 8,oO 98 .rem 97 32,oP 99 (.bin .num .shl (.c (.int .u32 1)) (.t 98)),oN 100 .or 96 99,oV 101 1 89 91,oK 1 101 100 true]))))))) (nF [mV 29 8,oO 30 .sub 29 1,mV 8 30])))
@[simp] def qh6 : AFn:=nG [(.tmp 4),(.tmp 5)] (nS (nF [oP 4 (.mv (.c .nil)),oP 5 (.mv (.c .nil))]) (nS (nF [mV 15 1,oA1 16 247 15,mV 1 16]) (nS (nF [mV 17 0,oT 18 17,oP 19 (.mkslice 1 4 (.int .u32 0) (.t 18) (.t 18)),mV 6 19]) (nS (nF [mV 20 1,oT 21 20,oO 22 .add 21 1,oP 23 (.mkslice 1 4 (.int .u32 0) (.t 22) (.t 22)),mV 7 23]) (nS (nS (nF [mV 24 0,oA1 25 226 24,oO 26 .sub 25 1,mV 8 26]) (.block 0 (.loop qfa))) (nR [mV 102 6,oA1 103 247 102,mV 104 7,oA1 105 247 104,mV 4 103,mV 5 105]))))))
def qh4 : AC:=(nS (nS (nF [mV 17 6,mV 18 0,oT 19 18,oN 20 .lss 17 19]) (nC 20 .skip (.exit 0))) (nS (.block 1 (nS (nF [mV 23 0,mV 24 6,oV 25 1 23 24,oJ 26 25,oP 27 (.conv .u64 (.t 26)),mV 28 1,oO 29 .rem 28 32,oN 30 .shl 27 29,mV 7 30]) (nS (nF [mV 31 5,mV 32 6,mV 33 1,oO 34 .quo 33 32,oN 35 .add 32 34,mV 36 5,mV 37 6,mV 38 1,oO 39 .quo 38 32,oN 40 .add 37 39,oV 41 1 36 40,oJ 42 41,mV 43 7,oP 44 (.bin .num .and (.t 43) (.c (.int .u64 4294967295))),oP 45 (.conv .u32 (.t 44)),oN 46 .or 42 45,oV 47 1 31 35,oK 1 47 46 false]) (nF [mV 48 5,
 mV 49 6,mV 50 1,oO 51 .quo 50 32,oN 52 .add 49 51,oO 53 .add 52 1,mV 54 7,oP 55 (.bin .num .shr (.t 54) (.c (.int .u64 32))),oP 56 (.conv .u32 (.t 55)),oV 57 1 48 53,oK 1 57 56 false])))) (nF [mV 21 6,oO 22 .add 21 1,mV 6 22])))
@[simp] def qor : AFn:=nG [(.tmp 4)] (nS (nF [oP 4 (.mv (.c .nil))]) (nS (nF [mV 8 0,oA1 9 247 8,mV 0 9]) (nS (nF [mV 10 1,oO 11 .quo 10 32,mV 12 0,oT 13 12,oN 14 .add 11 13,oO 15 .add 14 1,oP 16 (.mkslice 1 4 (.int .u32 0) (.t 15) (.t 15)),mV 5 16]) (nS (nS (nF [oP 6 (nV 0)]) (.block 0 (.loop qh4))) (nR [mV 58 5,oA1 59 247 58,mV 4 59])))))
@[simp] def c_fpref03_Cut : AFn:=nG [(.cell 12 true 3),(.tmp 13)] (nS (nF [oM 12,oP 13 (nV 0)]) (nS (nF [mV 18 1,oA1 19 247 18,mV 1 19]) (nS (nF [mV 20 1,oA1 21 226 20,mV 14 21]) (nS (nF [mV 22 14,mV 23 4,oN 24 .sub 22 23,mV 25 2,oP 26 (.bin .num .sub (.c (.int .i64 (-16384))) (.t 25)),oP 27 (.max3 (.t 24) (.t 26) (.c (.int .i64 0))),mV 15 27]) (nS (nF [mV 28 1,mV 29 15,oA2 30 250 28 29,mV 16 30]) (nS (nS (nF [mV 31 15,oO 32 .gtr 31 0,mV 33 32,oF 34 33 16,oF 35 33 15,oD2 36 33 228 34 35,oF 37 33 1,oD2 38 33 232 36 37,
 gT 39 33 (nX .neq 38 0),oY 40 33 39]) (nC 40 (nF [oZ 3 true]) .skip)) (nS (nF [mV 41 0,mV 42 5,oP 43 (.bin .bool .neq (.t 41) (.t 42)),mV 17 43]) (nS (nS (nF [mV 44 3,mV 45 44,oF 46 45 17,oY 47 45 46]) (nC 47 (nF [mV 48 16,oP 49 (.bslice 1 1 (.int .u32 0) [(0,(.c (.int .u32 1)))]),oA2 50 251 48 49,mV 16 50]) .skip)) (nS (nS (nF [mV 51 16,oA1 52 226 51,oO 53 .gtr 52 0,mV 54 53,oF 55 54 16,oD1 56 54 226 55,oF 57 54 2,gT 58 54 (nY .add 56 57),oF 59 54 15,gT 60 54 (nY .add 58 59),
 gT 61 54 (nX .gtr 60 16384),oY 62 54 61]) (nC 62 (nS (nS (nF [mV 63 17]) (nC 63 (nR [oP 64 (.build nD []),oK 3 12 64 false,oP 13 (nV 9)]) .skip)) (nR [mV 65 0,mV 66 4,oA2 67 252 65 66,oK 3 12 67 false,oP 13 (nV 0)])) .skip)) (nR [mV 68 0,mV 69 16,mV 70 2,mV 71 15,oN 72 .add 70 71,oA3 73 85 68 69 72,oK 3 12 73 false,oP 13 (nV 0)]))))))))))
@[simp] def qp5 : AFn:=nG [(.cell 6 true 3),(.tmp 7)] (nS (nF [oU 3 3 0,oM 6,oP 7 (nV 0)]) (nS (nF [mV 15 1,oI 16 3 3,oP 17 (.bslice 3 1 (.agg nD) [(0,(.t 16))]),oA2 18 235 15 17,mV 8 18]) (nS (nS (nF [mV 19 8,oO 20 .eql 19 0,mV 21 20,gT 22 21 (nA 0 3),oH 23 21 false 1 22,oY 24 21 23]) (nC 24 (nF [oP 8 (nV 2)]) .skip)) (nS (nS (nF [mV 25 8,oO 26 .neq 25 0,mV 27 26,gF 28 27 (nA 1 3),oG 29 27 false 1 28,gF 30 27 (.len (.t 29)),gF 31 27 (nX .eql 30 0),
 oX 32 27 31]) (nC 32 (nR [oP 33 (.build nD []),mV 34 8,oK 3 6 33 false,mV 7 34]) .skip)) (nS (nF [mV 35 1,oP 36 (.bin .num .mul (.c (.int .i64 2)) (.t 35)),oO 37 .add 36 4,oI 38 3 3,oA1 39 239 38,oN 40 .sub 37 39,oP 41 (.max (.c (.int .i64 0)) (.t 40)),mV 9 41]) (nS (nS (nF [oQ 42 2 3,oJ 43 42,mV 44 9,oN 45 .sub 43 44,oO 46 .rem 45 2,oO 47 .neq 46 0]) (nC 47 (nF [mV 48 9,oO 49 .add 48 1,mV 9 49]) .skip)) (nS (nF [oQ 50 1 3,oJ 51 50,mV 52 9,oA2 53 241 51 52,mV 10 53]) (nS (nF [mV 55 10,
 oA1 56 253 55,mV 54 56,oR 57 0 54,oR 58 1 54,mV 11 57,mV 12 58]) (nS (nF [mV 60 11,mV 61 11,oA2 62 238 60 61,mV 59 62,oR 63 0 59,oR 64 1 59,mV 13 63,mV 14 64]) (nS (nT [mV 65 11,oQ 66 2 3,oJ 67 66,mV 68 9,oN 69 .sub 67 68,oO 70 .quo 69 2,mV 71 13,mV 72 10,oA2 73 99 71 72,oO 74 .neq 73 0,oP 75 (.build [.nil,(.int .i64 0),(.bool false)] [(0,1,(.t 65)),(1,1,(.t 70)),(2,1,(.t 74))]),mV 76 1,mV 77 2,oB3 78 254 75 76 77,oR 79 0 78,oR 80 1 78,oK 3 6 79 true,mV 7 80]) .ret))))))))))
def qeh : AC:=(nS (nS (nF [mV 10 4,oO 11 .geq 10 0]) (nC 11 .skip (.exit 0))) (nS (.block 1 (nS (nF [mV 14 3,oP 15 (.bslice 1 1 (.int .u32 0) [(0,(.c (.int .u32 1)))]),mV 16 4,oA2 17 228 15 16,oA2 18 251 14 17,mV 5 18]) (nS (nF [mV 19 5,mV 20 5,oA2 21 233 19 20,mV 22 0,oA2 23 232 21 22,oO 24 .leq 23 0]) (nC 24 (nF [mV 25 5,mV 3 25]) .skip)))) (nF [mV 12 4,oO 13 .sub 12 1,mV 4 13])))
@[simp] def qmm : AFn:=nG [(.tmp 2)] (nS (nF [oP 2 (.mv (.c .nil))]) (nS (nF [oP 3 (.mv (.c .nil))]) (nS (nS (nF [mV 6 0,oA1 7 226 6,oO 8 .add 7 1,oO 9 .quo 8 2,mV 4 9]) (.block 0 (.loop qeh))) (nR [mV 26 3,mV 2 26]))))
def qe2 : AC:=(nS (nS (nF [mV 12 5,oO 13 .geq 12 0]) (nC 13 .skip (.exit 0))) (nS (.block 1 (nS (nS (nF [mV 16 0,mV 17 5,oA2 18 249 16 17,mV 19 1,mV 20 5,oA2 21 249 19 20,oN 22 .lss 18 21]) (nC 22 (nR [oP 4 (nV (-1))]) .skip)) (nS (nF [mV 23 0,mV 24 5,oA2 25 249 23 24,mV 26 1,mV 27 5,oA2 28 249 26 27,oN 29 .gtr 25 28]) (nC 29 (nR [oP 4 (nV 1)]) .skip)))) (nF [mV 14 5,oO 15 .sub 14 1,mV 5 15])))
@[simp] def qot : AFn:=⟨[(.tmp 4)],(nS (nF [oP 4 (nV 0)]) (nS (nS (nF [mV 6 0,oT 7 6,mV 8 1,oT 9 8,oP 10 (.max (.t 7) (.t 9)),oO 11 .sub 10 1,mV 5 11]) (.block 0 (.loop qe2))) (nR [oP 4 (nV 0)]))),false,true⟩
def qe1 : AC:=(nS (nS (nF [mV 23 8,mV 24 1,oT 25 24,oN 26 .lss 23 25,mV 27 26,oE 28 27 7,gF 29 27 (.bin .num .gtr (.t 28) (.c (.int .u64 0))),oX 30 27 29]) (nC 30 .skip (.exit 2))) (nS (.block 3 (nS (nT [mV 33 0,mV 34 6,oV 35 1 33 34,oJ 36 35,oP 37 (.conv .u64 (.t 36)),mV 38 1,mV 39 8,oA2 40 249 38 39,oN 41 .mul 37 40,mV 42 5,mV 43 6,mV 44 8,oN 45 .add 43 44,oV 46 1 42 45,oJ 47 46,oP 48 (.conv .u64 (.t 47)),oN 49 .add 41 48,mV 50 7,oN 51 .add 49 50,mV 9 51]) (nS (nF [mV 52 5,mV 53 6,mV 54 8,oN 55 .add 53 54,mV 56 9,oP 57 (.bin .num .and (.t 56) (.c (.int .u64 4294967295))),
 oP 58 (.conv .u32 (.t 57)),oV 59 1 52 55,oK 1 59 58 false]) (nF [mV 60 9,oP 61 (.bin .num .shr (.t 60) (.c (.int .u64 32))),mV 7 61])))) (nF [mV 31 8,oO 32 .add 31 1,mV 8 32])))
def qh5 : AC:=(nS (nS (nF [mV 17 6,mV 18 0,oT 19 18,oN 20 .lss 17 19]) (nC 20 .skip (.exit 0))) (nS (.block 1 (nS (nF [oP 7 (.mv (.c (.int .u64 0)))]) (nS (nF [oP 8 (nV 0)]) (.block 2 (.loop qe1))))) (nF [mV 21 6,oO 22 .add 21 1,mV 6 22])))
@[simp] def qos : AFn:=nG [(.tmp 4)] (nS (nF [oP 4 (.mv (.c .nil))]) (nS (nF [mV 10 0,oT 11 10,mV 12 1,oT 13 12,oN 14 .add 11 13,oO 15 .add 14 1,oP 16 (.mkslice 1 4 (.int .u32 0) (.t 15) (.t 15)),mV 5 16]) (nS (nS (nF [oP 6 (nV 0)]) (.block 0 (.loop qh5))) (nR [mV 62 5,oA1 63 247 62,mV 4 63]))))
def qc5 : AC:=(nS (nS (nF [mV 22 14,mV 23 1,oN 24 .lss 22 23,mV 25 24,oF 26 25 13,gT 27 25 (nX .eql 26 0),oY 28 25 27]) (nC 28 .skip (.exit 0))) (nS (.block 1 (nF [mV 32 4,oI 33 3 12,oI 34 3 5,mV 35 2,oP 36 (.call (.t 32) [(.t 33),(.t 34),(.t 35)]),mV 31 36,oR 37 0 31,oR 38 1 31,oK 3 12 37 false,mV 13 38])) (nF [mV 29 14,oO 30 .add 29 1,mV 14 30])))
@[simp] def qhn : AFn:=nG [(.cell 10 true 3),(.tmp 11)] (nS (nF [oU 5 3 0,oM 10,oP 11 (nV 0)]) (nS (nF [mV 16 3,oI 17 3 5,mV 18 2,oP 19 (.call (.t 16) [(.t 17),(.t 18)]),mV 15 19,oR 20 0 15,oR 21 1 15,oM 12,oK 3 12 20 false,mV 13 21]) (nS (nS (nF [oP 14 (nV 1)]) (.block 0 (.loop qc5))) (nR [oI 39 3 12,mV 40 13,oK 3 10 39 false,mV 11 40]))))
def qhg : AC:=(nS (nF [oN 10 .lss 9 8]) (nS (nC 10 .skip (.exit 0)) (nS (.block 1 (nS (nF [oV 11 3 7 9,oI 12 3 11,oM 6,oK 3 6 12 false]) (nS (nF [oI 13 3 6,oA1 14 51 13,oW 15 14]) (nC 15 (nR [oP 4 (nV 1)]) .skip)))) (nF [oO 16 .add 9 1,mV 9 16]))))
@[simp] def qnv : AFn:=nG [(.tmp 4)] (nS (nF [oP 4 (nV 0)]) (nS (nS (nF [mV 7 1,oT 8 7,oP 9 (nV 0)]) (.block 0 (.loop qhg))) (nS (nS (nF [mV 17 0,oA1 18 255 17,oW 19 18]) (nC 19 (nR [oP 4 (nV 2)]) .skip)) (nR [oP 4 (nV 0)]))))
@[simp] def c_round_sum : AFn:=nG [(.cell 6 true 3),(.tmp 7)] (nS (nF [oU 3 3 0,oU 4 3 1,oP 6 (.new 3 (.agg [.nil,(.int .i64 0),(.bool false)])),oZ 7 false]) (nS (nT [oQ 18 2 3,oJ 19 18,oI 20 3 3,oA1 21 98 20,mV 22 2,oN 23 .sub 21 22,oO 24 .sub 23 8,oP 25 (.min (.t 19) (.t 24)),mV 8 25]) (nS (nS (nT [oI 26 3 3,oA1 27 98 26,oI 28 3 4,oB1 29 98 28,oN 30 .sub 27 29,oO 31 .leq 30 2]) (nC 31 (nF [mV 32 8,oQ 33 2 4,oJ 34 33,oP 35 (.min (.t 32) (.t 34)),mV 8 35]) .skip)) (nS (nF [oQ 36 1 3,oJ 37 36,oQ 38 2 3,oJ 39 38,mV 40 8,oN 41 .sub 39 40,
 oA2 42 241 37 41,mV 9 42]) (nS (nF [oP 10 (.mv (.c .nil))]) (nS (nF [oZ 11 false]) (nS (nS (nF [oQ 43 2 4,oJ 44 43,mV 45 8,oN 46 .geq 44 45]) (nC 46 (nF [oQ 47 1 4,oJ 48 47,oQ 49 2 4,oJ 50 49,mV 51 8,oN 52 .sub 50 51,oA2 53 241 48 52,mV 10 53]) (nF [oQ 55 1 4,oJ 56 55,mV 57 8,oQ 58 2 4,oJ 59 58,oN 60 .sub 57 59,oA2 61 256 56 60,mV 54 61,oR 62 0 54,oR 63 1 54,mV 10 62,mV 11 63]))) (nS (nS (nF [oQ 64 0 3,oJ 65 64,oQ 66 0 4,oJ 67 66,oP 68 (.bin .bool .eql (.t 65) (.t 67))]) (nC 68 (nS (nF [mV 70 9,
 mV 71 10,oA2 72 257 70 71,mV 69 72,oR 73 0 69,oR 74 1 69,mV 12 73,mV 13 74]) (nR [mV 75 12,mV 76 8,mV 77 11,oP 78 (.build [.nil,(.int .i64 0),(.bool false)] [(0,1,(.t 75)),(1,1,(.t 76)),(2,1,(.t 77))]),oK 3 6 78 false,oZ 7 false])) .skip)) (nS (nS (nF [mV 79 11]) (nC 79 (nF [mV 81 10,oP 82 (.bslice 1 1 (.int .u32 0) [(0,(.c (.int .u32 1)))]),oA2 83 257 81 82,mV 80 83,oR 84 0 80,oR 85 1 80,mV 10 84]) .skip)) (nS (nS (nF [mV 86 9,mV 87 10,oA2 88 99 86 87,oO 89 .lss 88 0]) (nC 89 (nS (nF [mV 91 10,mV 92 9,
 oA2 93 258 91 92,mV 90 93,oR 94 0 90,oR 95 1 90,mV 14 94,mV 15 95]) (nR [mV 96 14,mV 97 8,oP 98 (.build [.nil,(.int .i64 0),(.bool false)] [(0,1,(.t 96)),(1,1,(.t 97)),(2,1,(.c (.bool false)))]),oK 3 6 98 false,oZ 7 true])) .skip)) (nS (nF [mV 100 9,mV 101 10,oA2 102 258 100 101,mV 99 102,oR 103 0 99,oR 104 1 99,mV 16 103,mV 17 104]) (nR [mV 105 16,mV 106 8,mV 107 11,oP 108 (.build [.nil,(.int .i64 0),(.bool false)] [(0,1,(.t 105)),(1,1,(.t 106)),(2,1,(.t 107))]),oK 3 6 108 false,oZ 7 false]))))))))))))
@[simp] def qlr : AFn:=nG [(.cell 8 true 3),(.tmp 9)] (nS (nF [oU 5 3 1,oM 8,oP 9 (nV 0)]) (nS (nF [oI 13 3 5,mV 14 2,mV 15 3,mV 16 0,oP 17 (.bin .bool .neq (.t 15) (.t 16)),oA3 18 254 13 14 17,mV 12 18,oR 19 0 12,oR 20 1 12,oM 10,oK 3 10 19 false,mV 11 20]) (nS (nS (nF [mV 21 11,oO 22 .eql 21 0,mV 23 22,oF 24 23 0,oY 25 23 24]) (nC 25 (nF [oI 26 3 10,oA1 27 198 26,oK 3 10 27 false]) .skip)) (nR [oI 28 3 10,mV 29 11,oK 3 8 28 false,mV 9 29]))))
@[simp] def qn6 : AFn:=nG [(.tmp 4),(.tmp 5)] (nS (nF [oP 4 (.mv (.c .nil)),oP 5 (nV 0)]) (nS (nS (nF [mV 6 0,mV 7 1,oP 8 (.bslice 1 2 .nil [(0,(.t 6)),(1,(.t 7))]),oA1 9 114 8]) (nC 9 (nR [oP 4 (.mv (.c .nil)),oP 5 (nV 9)]) .skip)) (nR [mV 10 0,oA1 11 111 10,mV 12 1,oA1 13 111 12,oA2 14 259 11 13,oA1 15 115 14,oR 16 0 15,oR 17 1 15,mV 4 16,mV 5 17])))
@[simp] def qoy : AFn:=nG [(.tmp 2)] (nS (nF [oU 1 3 0,oP 2 (nV 0)]) (nS (nS (nF [oI 3 3 1,oA1 4 51 3,oW 5 4]) (nC 5 (nR [oP 2 (nV 0)]) .skip)) (nR [oQ 6 1 1,oJ 7 6,oA1 8 97 7,mV 2 8])))
@[simp] def qhm : AFn:=nG [(.tmp 4),(.tmp 5),(.tmp 6)] (nS (nF [oP 4 (.mv (.c .nil)),oP 5 (.mv (.c .nil)),oP 6 (nV 0)]) (nS (.block 0 (nS (nF [mV 10 0,mV 11 1,oP 12 (.bslice 1 2 .nil [(0,(.t 10)),(1,(.t 11))]),oA1 13 114 12,mV 9 13]) (nC 9 (nR [oP 4 (.mv (.c .nil)),oP 5 (.mv (.c .nil)),oP 6 (nV 9)]) (nS (nF [mV 15 1,oA1 16 111 15,oT 17 16,oO 18 .eql 17 0,mV 14 18]) (nC 14 (nR [oP 4 (.mv (.c .nil)),oP 5 (.mv (.c .nil)),oP 6 (nV 10)]) .skip))))) (nS (nF [mV 20 0,
 mV 21 1,oA2 22 260 20 21,mV 19 22,oR 23 0 19,oR 24 1 19,mV 7 23,mV 8 24]) (nR [mV 25 7,oA1 26 111 25,oA1 27 119 26,mV 28 8,oA1 29 111 28,oA1 30 119 29,mV 4 27,mV 5 30,oP 6 (nV 0)]))))
@[simp] def qry : AFn:=nG [(.tmp 4)] (nS (nF [oP 4 (.mv (.c .nil))]) (nS (nF [mV 8 0,mV 9 1,oA2 10 112 8 9,mV 7 10,oR 11 0 7,oR 12 1 7,mV 5 11,mV 6 12]) (nR [mV 13 5,mV 4 13])))
@[simp] def qme : AFn:=nG [(.tmp 2)] (nS (nF [oZ 2 false]) (nR [mV 3 0,oO 4 .geq 3 8,mV 5 4,oF 6 5 0,gT 7 5 (nX .leq 6 512),oY 8 5 7,mV 2 8]))
@[simp] def qt1 : AFn:=nG [(.cell 2 true 3)] (nS (nF [oU 1 3 0,oP 2 (.new 3 (.agg [.nil,(.int .i64 0),(.bool false)]))]) (nR [oQ 3 1 1,oJ 4 3,oQ 5 2 1,oJ 6 5,oP 7 (.build [.nil,(.int .i64 0),(.bool false)] [(0,1,(.t 4)),(1,1,(.t 6))]),oK 3 2 7 false]))
def qda : AC:=(nS (nS (nF [mV 6 3,oO 7 .gtr 6 0,mV 8 7,oF 9 8 0,oF 10 8 3,gT 11 8 (nX .sub 10 1),gT 12 8 (.iaddr 1 (.t 9) (.t 11)),oH 13 8 false 1 12,gT 14 8 (.bin .num .eql (.t 13) (.c (.int .u32 0))),oY 15 8 14]) (nC 15 .skip (.exit 0))) (.block 1 (nF [mV 16 3,oO 17 .sub 16 1,mV 3 17])))
@[simp] def qia : AFn:=nG [(.tmp 2)] (nS (nF [oP 2 (.mv (.c .nil))]) (nS (nF [mV 4 0,oT 5 4,mV 3 5]) (nS (.block 0 (.loop qda)) (nR [mV 18 0,mV 19 3,oP 20 (.slice 1 (.t 18) none (some (.t 19)) none),mV 2 20]))))
def qkl : AC:=(nS (nF [oN 9 .lss 8 7]) (nS (nC 9 .skip (.exit 0)) (nS (.block 1 (nS (nF [oV 10 1 6 8,oJ 11 10,mV 5 11]) (nS (nS (nF [mV 12 5,oP 13 (.bin .num .neq (.t 12) (.c (.int .u32 0)))]) (nC 13 (nR [mV 14 3,mV 15 5,oA1 16 261 15,oN 17 .add 14 16,mV 2 17]) .skip)) (nF [mV 18 3,oO 19 .add 18 32,mV 3 19])))) (nF [oO 20 .add 8 1,mV 8 20]))))
@[simp] def qp9 : AFn:=nG [(.tmp 2)] (nS (nF [oP 2 (nV 0)]) (nS (nF [oP 3 (nV 0)]) (nS (nS (nF [mV 6 0,oT 7 6,oP 8 (nV 0)]) (.block 0 (.loop qkl))) (nR [mV 21 3,mV 2 21]))))
@[simp] def qn4 : AFn:=nG [(.tmp 4),(.tmp 5)] (nS (nF [oP 4 (.mv (.c .nil)),oP 5 (nV 0)]) (nS (.block 0 (nS (nF [mV 7 0,oP 8 (.bslice 1 1 .nil [(0,(.t 7))]),oA1 9 114 8,mV 6 9]) (nC 6 (nR [oP 4 (.mv (.c .nil)),oP 5 (nV 9)]) (nS (nF [mV 11 1,oO 12 .lss 11 0,mV 13 12,oE 14 13 1,gF 15 13 (nX .gtr 14 65536),oX 16 13 15,mV 10 16]) (nC 10 (nR [oP 4 (.mv (.c .nil)),oP 5 (nV 2)]) .skip))))) (nR [mV 17 0,
 mV 18 1,oA2 19 262 17 18,oA1 20 115 19,oR 21 0 20,oR 22 1 20,mV 4 21,mV 5 22])))
def qeg : AC:=(nS (nS (nF [mV 6 3,oO 7 .gtr 6 0,mV 8 7,oF 9 8 0,oF 10 8 3,gT 11 8 (nX .sub 10 1),gT 12 8 (.iaddr 1 (.t 9) (.t 11)),oH 13 8 false 1 12,gT 14 8 (.bin .num .eql (.t 13) (.c (.int .u32 0))),oY 15 8 14]) (nC 15 .skip (.exit 0))) (.block 1 (nF [mV 16 3,oO 17 .sub 16 1,mV 3 17])))
@[simp] def qml : AFn:=nG [(.tmp 2)] (nS (nF [oP 2 (.mv (.c .nil))]) (nS (nF [mV 4 0,oT 5 4,mV 3 5]) (nS (.block 0 (.loop qeg)) (nR [oP 18 (.bslice 1 0 (.int .u32 0) []),mV 19 0,mV 20 3,oP 21 (.slice 1 (.t 19) none (some (.t 20)) none),oP 22 (.append 1 4 (.t 18) (.t 21)),mV 2 22]))))
@[simp] def qmk : AFn:=⟨[(.tmp 4)],(nS (nF [oZ 4 false]) (nR [mV 5 0,mV 6 1,oA2 7 232 5 6,oO 8 .lss 7 0,mV 4 8])),false,true⟩
@[simp] def qp8 : AFn:=⟨[(.tmp 4)],(nS (nF [oP 4 (.mv (.c (.int .u64 0)))]) (nS (nS (nF [mV 5 1,mV 6 0,oT 7 6,oN 8 .lss 5 7]) (nC 8 (nR [mV 9 0,mV 10 1,oV 11 1 9 10,oJ 12 11,oP 13 (.conv .u64 (.t 12)),mV 4 13]) .skip)) (nR [oP 4 (.mv (.c (.int .u64 0)))]))),false,true⟩
def qh3 : AC:=(nS (nS (nF [mV 10 6,mV 11 0,oT 12 11,oN 13 .lss 10 12]) (nC 13 .skip (.exit 0))) (nS (.block 1 (nS (nF [mV 16 0,mV 17 6,oA2 18 249 16 17,mV 19 0,mV 20 6,oO 21 .add 20 1,oA2 22 249 19 21,oP 23 (.bin .num .shl (.t 22) (.c (.int .u64 32))),oN 24 .add 18 23,mV 7 24]) (nF [mV 25 5,mV 26 7,mV 27 1,oO 28 .rem 27 32,oN 29 .shr 26 28,oP 30 (.bin .num .and (.t 29) (.c (.int .u64 4294967295))),oP 31 (.conv .u32 (.t 30)),oP 32 (.bslice 1 1 (.int .u32 0) [(0,(.t 31))]),oP 33 (.append 1 4 (.t 25) (.t 32)),mV 5 33]))) (nF [mV 14 6,oO 15 .add 14 1,
 mV 6 15])))
@[simp] def qoq : AFn:=nG [(.tmp 4)] (nS (nF [oP 4 (.mv (.c .nil))]) (nS (nF [oP 5 (.mv (.c .nil))]) (nS (nS (nF [mV 8 1,oO 9 .quo 8 32,mV 6 9]) (.block 0 (.loop qh3))) (nR [mV 34 5,oA1 35 247 34,mV 4 35]))))
def qe3 : AC:=(nS (nS (nF [mV 9 7,mV 10 0,oT 11 10,mV 12 1,oT 13 12,oP 14 (.max (.t 11) (.t 13)),oN 15 .lss 9 14,mV 16 15,oE 17 16 6,gF 18 16 (.bin .num .gtr (.t 17) (.c (.int .u64 0))),oX 19 16 18]) (nC 19 .skip (.exit 0))) (nS (.block 1 (nS (nF [mV 22 0,mV 23 7,oA2 24 249 22 23,mV 25 1,mV 26 7,oA2 27 249 25 26,oN 28 .add 24 27,mV 29 6,oN 30 .add 28 29,mV 8 30]) (nS (nF [mV 31 5,mV 32 8,oP 33 (.bin .num .and (.t 32) (.c (.int .u64 4294967295))),oP 34 (.conv .u32 (.t 33)),oP 35 (.bslice 1 1 (.int .u32 0) [(0,(.t 34))]),oP 36 (.append 1 4 (.t 31) (.t 35)),
 mV 5 36]) (nF [mV 37 8,oP 38 (.bin .num .shr (.t 37) (.c (.int .u64 32))),mV 6 38])))) (nF [mV 20 7,oO 21 .add 20 1,mV 7 21])))
@[simp] def qou : AFn:=nG [(.tmp 4)] (nS (nF [oP 4 (.mv (.c .nil))]) (nS (nF [oP 5 (.mv (.c .nil))]) (nS (nF [oP 6 (.mv (.c (.int .u64 0)))]) (nS (nS (nF [oP 7 (nV 0)]) (.block 0 (.loop qe3))) (nR [mV 39 5,oA1 40 247 39,mV 4 40])))))
@[simp] def qf1 : AFn:=nG [(.cell 4 true 3)] (nS (nF [oM 4]) (nS (nF [oP 6 (.bslice 1 1 (.int .u32 0) [(0,(.c (.int .u32 1)))]),mV 7 1,oA2 8 228 6 7,oP 9 (.bslice 1 1 (.int .u32 0) [(0,(.c (.int .u32 1)))]),oA2 10 263 8 9,mV 5 10]) (nR [mV 11 0,mV 12 5,mV 13 1,oP 14 (.bin .num .sub (.c (.int .i64 16384)) (.t 13)),oA3 15 85 11 12 14,oK 3 4 15 false])))
def qm8 : AC:=(.block 1 (nS (nF [mV 23 0,mV 24 5,oA2 25 260 23 24,mV 22 25,oR 26 0 22,oR 27 1 22,mV 6 26,mV 7 27]) (nS (nF [mV 28 5,mV 29 6,oA1 30 111 29,oA2 31 264 28 30,oP 32 (.call (.f 262) [(.t 31),(.c (.int .i64 1))]),oA1 33 111 32,mV 8 33]) (nS (nS (nF [mV 34 8,mV 35 5,oA2 36 99 34 35,oO 37 .geq 36 0]) (nC 37 (nR [mV 38 5,oA1 39 115 38,oR 40 0 39,oR 41 1 39,mV 2 40,mV 3 41]) .skip)) (nF [mV 42 8,mV 5 42])))))
@[simp] def qlv : AFn:=nG [(.tmp 2),(.tmp 3)] (nS (nF [oP 2 (.mv (.c .nil)),oP 3 (nV 0)]) (nS (nS (nF [mV 9 0,oP 10 (.bslice 1 1 .nil [(0,(.t 9))]),oA1 11 114 10]) (nC 11 (nR [oP 2 (.mv (.c .nil)),oP 3 (nV 9)]) .skip)) (nS (nF [mV 12 0,oA1 13 110 12,mV 4 13]) (nS (nS (nF [mV 14 4,oO 15 .eql 14 0]) (nC 15 (nR [oP 2 (.mv (.c .nil)),oP 3 (nV 0)]) .skip)) (nS (nF [oP 16 (.bslice 1 1 (.int .u32 0) [(0,(.c (.int .u32 1)))]),
 mV 17 4,oO 18 .add 17 1,oO 19 .quo 18 2,oA2 20 116 16 19,oA1 21 111 20,mV 5 21]) (.block 0 (.loop qm8)))))))
@[simp] def c_round_cut : AFn:=nG [(.cell 6 true 3),(.tmp 7)] (nS (nF [oU 3 3 0,oM 6,oP 7 (nV 0)]) (nS (nT [oQ 13 1 3,oJ 14 13,oQ 15 0 3,oJ 16 15,oA1 17 110 16,oN 18 .add 14 17,mV 19 1,oN 20 .sub 18 19,oP 21 (.max (.t 20) (.c (.int .i64 (-16384)))),mV 8 21]) (nS (nT [oQ 22 0 3,oJ 23 22,oQ 24 2 3,oJ 25 24,mV 9 23,mV 10 25]) (nS (nS (nF [oQ 26 1 3,oJ 27 26,mV 28 8,oN 29 .geq 27 28]) (nC 29 (nF [oQ 30 0 3,oJ 31 30,oQ 32 1 3,oJ 33 32,mV 34 8,oN 35 .sub 33 34,oA2 36 241 31 35,mV 9 36]) (nS (nF [oQ 38 0 3,
 oJ 39 38,mV 40 8,oQ 41 1 3,oJ 42 41,oN 43 .sub 40 42,oA2 44 256 39 43,mV 37 44,oR 45 0 37,oR 46 1 37,mV 11 45,mV 12 46]) (nF [mV 47 11,mV 48 10,mV 49 48,oE 50 49 12,oX 51 49 50,mV 9 47,mV 10 51])))) (nS (nS (nF [mV 52 2,mV 53 52,oF 54 53 10,oY 55 53 54]) (nC 55 (nF [mV 57 9,oP 58 (.bslice 1 1 (.int .u32 0) [(0,(.c (.int .u32 1)))]),oA2 59 257 57 58,mV 56 59,oR 60 0 56,oR 61 1 56,mV 9 60]) .skip)) (nS (nS (nF [mV 62 9,oA1 63 110 62,mV 64 8,oN 65 .add 63 64,oO 66 .gtr 65 16384]) (nC 66 (nS (nS (nF [mV 67 2]) (nC 67 (nR [oP 68 (.build nD []),
 oK 3 6 68 false,oP 7 (nV 9)]) .skip)) (nS (nF [oP 70 (.bslice 1 1 (.int .u32 0) [(0,(.c (.int .u32 1)))]),mV 71 1,oA2 72 241 70 71,oP 73 (.bslice 1 1 (.int .u32 0) [(0,(.c (.int .u32 1)))]),oA2 74 258 72 73,mV 69 74,oR 75 0 69,oR 76 1 69,mV 9 75]) (nF [mV 77 1,oP 78 (.bin .num .sub (.c (.int .i64 16384)) (.t 77)),mV 8 78]))) .skip)) (nR [mV 79 9,mV 80 8,oP 81 (.call (.f 265) [(.c (.bool false)),(.t 79),(.t 80)]),oR 82 0 81,oR 83 1 81,oK 3 6 82 false,mV 7 83])))))))
@[simp] def qji : AFn:=nG [(.tmp 2)] (nS (nF [oZ 2 false]) (nR [mV 3 0,oO 4 .geq 3 8,mV 5 4,oF 6 5 0,gT 7 5 (nX .leq 6 512),oY 8 5 7,mV 2 8]))
@[simp] def qrx : AFn:=nG [(.tmp 4),(.tmp 5)] (nS (nF [oP 4 (.mv (.c .nil)),oZ 5 false]) (nS (nS (nF [mV 8 1,mV 9 0,oA1 10 110 9,oN 11 .gtr 8 10]) (nC 11 (nF [mV 12 0,oA1 13 110 12,mV 1 13]) .skip)) (nS (nF [mV 15 0,mV 16 1,oA2 17 246 15 16,mV 14 17,oR 18 0 14,oR 19 1 14,mV 6 18,mV 7 19]) (nR [mV 20 6,mV 21 6,mV 22 1,oA2 23 241 21 22,mV 24 0,oA2 25 99 23 24,oO 26 .neq 25 0,mV 4 20,mV 5 26]))))
@[simp] def qn7 : AFn:=nG [(.tmp 4),(.tmp 5)] (nS (nF [oP 4 (.mv (.c .nil)),oP 5 (nV 0)]) (nS (nS (nF [mV 6 0,mV 7 1,oP 8 (.bslice 1 2 .nil [(0,(.t 6)),(1,(.t 7))]),oA1 9 114 8]) (nC 9 (nR [oP 4 (.mv (.c .nil)),oP 5 (nV 9)]) .skip)) (nR [mV 10 0,mV 11 1,oA2 12 264 10 11,oA1 13 115 12,oR 14 0 13,oR 15 1 13,mV 4 14,mV 5 15])))
@[simp] def qn3 : AFn:=nG [(.tmp 4),(.tmp 5)] (nS (nF [oP 4 (.mv (.c .nil)),oP 5 (nV 0)]) (nS (.block 0 (nS (nF [mV 7 0,mV 8 1,oP 9 (.bslice 1 2 .nil [(0,(.t 7)),(1,(.t 8))]),oA1 10 114 9,mV 6 10]) (nC 6 (nR [oP 4 (.mv (.c .nil)),oP 5 (nV 9)]) (nS (nF [mV 12 0,mV 13 1,oA2 14 99 12 13,oO 15 .lss 14 0,mV 11 15]) (nC 11 (nR [oP 4 (.mv (.c .nil)),oP 5 (nV 2)]) .skip))))) (nR [mV 16 0,mV 17 1,oA2 18 266 16 17,oA1 19 115 18,oR 20 0 19,
 oR 21 1 19,mV 4 20,mV 5 21])))
def qe0 : AC:=(nS (nF [oN 28 .lss 27 26]) (nS (nC 28 .skip (.exit 2)) (nS (.block 3 (nS (nF [mV 29 27,oV 30 1 25 27,oJ 31 30,mV 9 29,mV 10 31]) (nS (nF [mV 32 7,oP 33 (.conv .u64 (.t 32)),mV 34 10,oP 35 (.conv .u64 (.t 34)),oN 36 .mul 33 35,mV 37 5,mV 38 6,mV 39 9,oN 40 .add 38 39,oV 41 1 37 40,oJ 42 41,oP 43 (.conv .u64 (.t 42)),oN 44 .add 36 43,mV 45 8,oN 46 .add 44 45,mV 11 46]) (nF [mV 47 5,mV 48 6,mV 49 9,oN 50 .add 48 49,mV 51 11,oP 52 (.conv .u32 (.t 51)),mV 53 11,oP 54 (.bin .num .shr (.t 53) (.c (.int .u64 32))),oV 55 1 47 50,
 oK 1 55 52 false,mV 8 54])))) (nF [oO 56 .add 27 1,mV 27 56]))))
def qhj : AC:=(nS (nF [oN 21 .lss 20 19]) (nS (nC 21 .skip (.exit 0)) (nS (.block 1 (nS (nF [mV 22 20,oV 23 1 18 20,oJ 24 23,mV 6 22,mV 7 24]) (nS (nF [oP 8 (.mv (.c (.int .u64 0)))]) (nS (nS (nF [mV 25 1,oT 26 25,oP 27 (nV 0)]) (.block 2 (.loop qe0))) (nF [mV 57 5,mV 58 6,mV 59 1,oT 60 59,oN 61 .add 58 60,mV 62 8,oP 63 (.conv .u32 (.t 62)),oV 64 1 57 61,oK 1 64 63 false]))))) (nF [oO 65 .add 20 1,mV 20 65]))))
@[simp] def qn1 : AFn:=nG [(.tmp 4)] (nS (nF [oP 4 (.mv (.c .nil))]) (nS (nF [mV 12 0,oT 13 12,mV 14 1,oT 15 14,oN 16 .add 13 15,oP 17 (.mkslice 1 4 (.int .u32 0) (.t 16) (.t 16)),mV 5 17]) (nS (nS (nF [mV 18 0,oT 19 18,oP 20 (nV 0)]) (.block 0 (.loop qhj))) (nR [mV 66 5,mV 4 66]))))
def qjo : AC:=(nS (nS (nF [mV 56 9,oT 57 56,mV 58 0,oT 59 58,oN 60 .leq 57 59]) (nC 60 .skip (.exit 0))) (.block 1 (nF [mV 61 9,oP 62 (.bslice 1 1 (.int .u32 0) [(0,(.c (.int .u32 0)))]),oP 63 (.append 1 4 (.t 61) (.t 62)),mV 9 63])))
def qc4 : AC:=(nS (nF [oN 126 .lss 125 124]) (nS (nC 126 .skip (.exit 4)) (nS (.block 5 (nS (nF [mV 127 125,oV 128 1 123 125,oJ 129 128,mV 16 127,mV 17 129]) (nF [mV 131 9,mV 132 13,mV 133 16,oN 134 .add 132 133,mV 135 9,mV 136 13,mV 137 16,oN 138 .add 136 137,oV 139 1 135 138,oJ 140 139,mV 141 17,mV 142 15,oA3 143 271 140 141 142,mV 130 143,oR 144 0 130,oR 145 1 130,oV 146 1 131 134,oK 1 146 144 false,mV 15 145]))) (nF [oO 147 .add 125 1,mV 125 147]))))
def qc3 : AC:=(nS (nS (nF [mV 76 13,oO 77 .geq 76 0]) (nC 77 .skip (.exit 2))) (nS (.block 3 (nS (nT [mV 80 9,mV 81 13,mV 82 11,oN 83 .add 81 82,oV 84 1 80 83,oJ 85 84,mV 86 9,mV 87 13,mV 88 11,oN 89 .add 87 88,oO 90 .sub 89 1,oV 91 1 86 90,oJ 92 91,mV 93 9,mV 94 13,mV 95 11,oN 96 .add 94 95,oO 97 .sub 96 2,oV 98 1 93 97,oJ 99 98,mV 100 10,mV 101 11,oO 102 .sub 101 1,oV 103 1 100 102,oJ 104 103,mV 105 10,mV 106 11,oO 107 .sub 106 2,oV 108 1 105 107,oJ 109 108,oB5 110 269 85 92 99 104 109,mV 14 110]) (nS (nS (nF [mV 111 9,mV 112 13,mV 113 13,mV 114 11,
 oN 115 .add 113 114,oO 116 .add 115 1,oP 117 (.slice 1 (.t 111) (some (.t 112)) (some (.t 116)) none),mV 118 10,mV 119 14,oA3 120 270 117 118 119]) (nC 120 (nS (nF [mV 121 14,oP 122 (.bin .num .sub (.t 121) (.c (.int .u64 1))),mV 14 122]) (nS (nF [oP 15 (.mv (.c (.int .u32 0)))]) (nS (nS (nF [mV 123 10,oT 124 123,oP 125 (nV 0)]) (.block 4 (.loop qc4))) (nF [mV 148 9,mV 149 13,mV 150 11,oN 151 .add 149 150,oV 152 1 148 151,oJ 153 152,mV 154 15,oN 155 .add 153 154,oV 156 1 148 151,oK 1 156 155 false])))) .skip)) (nF [mV 157 12,
 mV 158 13,mV 159 14,oP 160 (.conv .u32 (.t 159)),oV 161 1 157 158,oK 1 161 160 false])))) (nF [mV 78 13,oO 79 .sub 78 1,mV 13 79])))
@[simp] def qhl : AFn:=nG [(.tmp 4),(.tmp 5)] (nS (nF [oP 4 (.mv (.c .nil)),oP 5 (.mv (.c .nil))]) (nS (nF [mV 18 0,oA1 19 111 18,mV 20 1,oA1 21 111 20,mV 0 19,mV 1 21]) (nS (nS (nF [mV 22 0,mV 23 1,oA2 24 99 22 23,oO 25 .lss 24 0]) (nC 25 (nR [mV 26 0,oA1 27 221 26,oP 4 (.mv (.c .nil)),mV 5 27]) .skip)) (nS (nS (nF [mV 28 1,oT 29 28,oO 30 .eql 29 1]) (nC 30 (nS (nF [mV 32 0,mV 33 1,oP 34 (.iaddr 1 (.t 33) (.c (.int .i64 0))),oJ 35 34,oA2 36 267 32 35,mV 31 36,oR 37 0 31,oR 38 1 31,mV 6 37,
 mV 7 38]) (nR [mV 39 6,mV 40 7,oP 41 (.bslice 1 1 (.int .u32 0) [(0,(.t 40))]),mV 4 39,mV 5 41])) .skip)) (nS (nF [mV 42 1,mV 43 1,oT 44 43,oO 45 .sub 44 1,oV 46 1 42 45,oJ 47 46,oA1 48 268 47,mV 8 48]) (nS (nF [mV 49 0,mV 50 8,oA2 51 116 49 50,mV 52 1,mV 53 8,oA2 54 116 52 53,oA1 55 111 54,mV 9 51,mV 10 55]) (nS (.block 0 (.loop qjo)) (nS (nF [mV 64 10,oT 65 64,mV 11 65]) (nS (nF [mV 66 9,oT 67 66,mV 68 11,oN 69 .sub 67 68,oP 70 (.mkslice 1 4 (.int .u32 0) (.t 69) (.t 69)),mV 12 70]) (nS (nS (nF [mV 71 9,
 oT 72 71,mV 73 11,oN 74 .sub 72 73,oO 75 .sub 74 1,mV 13 75]) (.block 2 (.loop qc3))) (nR [mV 162 12,mV 163 9,mV 164 11,oP 165 (.slice 1 (.t 163) none (some (.t 164)) none),mV 166 8,oA2 167 262 165 166,mV 4 162,mV 5 167])))))))))))
@[simp] def qcf : AFn:=nG [(.tmp 2)] (nS (nF [oP 2 (nV 0)]) (nS (nS (nF [mV 3 0,oP 4 (.bin .num .eql (.t 3) (.c (.int .u32 0)))]) (nC 4 (nR [oP 2 (nV 32)]) .skip)) (nR [mV 5 0,mV 6 0,oP 7 (.un .neg (.t 6)),oN 8 .and 5 7,oP 9 (.bin .num .mul (.t 8) (.c (.int .u32 125613361))),oP 10 (.bin .num .shr (.t 9) (.c (.int .u64 27))),oP 11 (.aiaddr 32 1 (.c (.eptr [(.int .u8 0),(.int .u8 1),(.int .u8 28),(.int .u8 2),(.int .u8 29),(.int .u8 14),(.int .u8 24),(.int .u8 3),(.int .u8 30),(.int .u8 22),(.int .u8 20),(.int .u8 15),(.int .u8 25),(.int .u8 17),(.int .u8 4),(.int .u8 8),(.int .u8 31),(.int .u8 27),(.int .u8 13),(.int .u8 23),(.int .u8 21),(.int .u8 19),(.int .u8 16),(.int .u8 7),(.int .u8 26),(.int .u8 12),(.int .u8 18),(.int .u8 6),(.int .u8 11),(.int .u8 5),(.int .u8 10),(.int .u8 9)])) (.t 10)),
 oJ 12 11,oP 13 (.conv .i64 (.t 12)),mV 2 13])))
def qez : AC:=(nS (nF [oN 26 .lss 25 24]) (nS (nC 26 .skip (.exit 0)) (nS (.block 1 (nS (nF [mV 27 25,oV 28 1 23 25,oJ 29 28,mV 6 27,mV 7 29]) (nS (nF [mV 30 7,oP 31 (.conv .u64 (.t 30)),mV 8 31]) (nS (nS (nF [mV 32 6,oO 33 .add 32 1,mV 34 0,oT 35 34,oN 36 .lss 33 35]) (nC 36 (nF [mV 37 8,mV 38 0,mV 39 6,oO 40 .add 39 1,oV 41 1 38 40,oJ 42 41,oP 43 (.conv .u64 (.t 42)),oP 44 (.bin .num .shl (.t 43) (.c (.int .u64 32))),oN 45 .or 37 44,mV 8 45]) .skip)) (nF [mV 46 5,mV 47 6,mV 48 8,mV 49 1,oO 50 .rem 49 32,
 oN 51 .shr 48 50,oP 52 (.conv .u32 (.t 51)),oV 53 1 46 47,oK 1 53 52 false]))))) (nF [oO 54 .add 25 1,mV 25 54]))))
@[simp] def qn0 : AFn:=nG [(.tmp 4)] (nS (nF [oP 4 (.mv (.c .nil))]) (nS (nF [mV 9 0,oA1 10 111 9,mV 0 10]) (nS (nS (nF [mV 11 1,oO 12 .quo 11 32,mV 13 0,oT 14 13,oN 15 .geq 12 14]) (nC 15 (nR [oP 4 (.mv (.c .nil))]) .skip)) (nS (nF [mV 16 0,mV 17 1,oO 18 .quo 17 32,oP 19 (.slice 1 (.t 16) (some (.t 18)) none none),mV 0 19]) (nS (nF [mV 20 0,oT 21 20,oP 22 (.mkslice 1 4 (.int .u32 0) (.t 21) (.t 21)),mV 5 22]) (nS (nS (nF [mV 23 0,oT 24 23,oP 25 (nV 0)]) (.block 0 (.loop qez))) (nR [mV 55 5,
 mV 4 55])))))))
def qh2 : AC:=(nS (nS (nF [mV 9 7,mV 10 0,oT 11 10,oN 12 .lss 9 11]) (nC 12 .skip (.exit 0))) (nS (.block 1 (nS (nF [mV 15 0,mV 16 7,oA2 17 249 15 16,oP 18 (.bin .num .add (.t 17) (.c (.int .u64 4294967296))),mV 19 1,mV 20 7,oA2 21 249 19 20,oN 22 .sub 18 21,mV 23 6,oN 24 .sub 22 23,mV 8 24]) (nS (nF [mV 25 5,mV 26 8,oP 27 (.bin .num .and (.t 26) (.c (.int .u64 4294967295))),oP 28 (.conv .u32 (.t 27)),oP 29 (.bslice 1 1 (.int .u32 0) [(0,(.t 28))]),oP 30 (.append 1 4 (.t 25) (.t 29)),mV 5 30]) (nF [mV 31 8,oP 32 (.bin .num .shr (.t 31) (.c (.int .u64 32))),
 oP 33 (.bin .num .sub (.c (.int .u64 1)) (.t 32)),mV 6 33])))) (nF [mV 13 7,oO 14 .add 13 1,mV 7 14])))
@[simp] def qop : AFn:=nG [(.tmp 4)] (nS (nF [oP 4 (.mv (.c .nil))]) (nS (nF [oP 5 (.mv (.c .nil))]) (nS (nF [oP 6 (.mv (.c (.int .u64 0)))]) (nS (nS (nF [oP 7 (nV 0)]) (.block 0 (.loop qh2))) (nR [mV 34 5,oA1 35 247 34,mV 4 35])))))
def qde : AC:=(nS (nF [oN 24 .lss 23 22]) (nS (nC 24 .skip (.exit 0)) (nS (.block 1 (nS (nF [mV 25 23,oV 26 1 21 23,oJ 27 26,mV 7 25,mV 8 27]) (nS (nF [oP 9 (.mv (.c (.int .u32 0)))]) (nS (nS (nF [mV 28 7,mV 29 1,oT 30 29,oN 31 .lss 28 30]) (nC 31 (nF [mV 32 1,mV 33 7,oV 34 1 32 33,oJ 35 34,mV 9 35]) .skip)) (nF [mV 37 5,mV 38 7,mV 39 8,mV 40 9,mV 41 6,oA3 42 271 39 40 41,mV 36 42,oR 43 0 36,oR 44 1 36,oV 45 1 37 38,oK 1 45 43 false,mV 6 44]))))) (nF [oO 46 .add 23 1,mV 23 46]))))
@[simp] def qn2 : AFn:=nG [(.tmp 4)] (nS (nF [oP 4 (.mv (.c .nil))]) (nS (nS (nF [mV 10 0,oT 11 10,mV 12 1,oT 13 12,oN 14 .lss 11 13]) (nC 14 (nF [mV 15 1,mV 16 0,mV 0 15,mV 1 16]) .skip)) (nS (nF [mV 17 0,oT 18 17,oO 19 .add 18 1,oP 20 (.mkslice 1 4 (.int .u32 0) (.t 19) (.t 19)),mV 5 20]) (nS (nF [oP 6 (.mv (.c (.int .u32 0)))]) (nS (nS (nF [mV 21 0,oT 22 21,oP 23 (nV 0)]) (.block 0 (.loop qde))) (nS (nF [mV 47 5,mV 48 0,oT 49 48,mV 50 6,oV 51 1 47 49,oK 1 51 50 false]) (nR [mV 52 5,
 mV 4 52])))))))
@[simp] def qox : AFn:=nG [(.cell 6 true 3),(.tmp 7)] (nS (nF [oM 6,oP 7 (nV 0)]) (nS (nS (nF [mV 8 1,oT 9 8,oO 10 .gtr 9 256,mV 11 10,oE 12 11 2,oC1 13 11 223 12,gF 14 11 (nU 13),oX 15 11 14]) (nC 15 (nR [oP 16 (.build nD []),oK 3 6 16 false,oP 7 (nV 1)]) .skip)) (nR [mV 17 0,mV 18 1,mV 19 2,oA3 20 225 17 18 19,oA1 21 224 20,oR 22 0 21,oR 23 1 21,oK 3 6 22 false,mV 7 23])))
def qey : AC:=(nS (nF [oN 20 .lss 19 18]) (nS (nC 20 .skip (.exit 0)) (nS (.block 1 (nS (nF [mV 21 19,oV 22 1 17 19,oJ 23 22,mV 7 21,mV 8 23]) (nS (nF [oP 9 (.mv (.c (.int .u32 0)))]) (nS (nS (nF [mV 24 7,mV 25 1,oT 26 25,oN 27 .lss 24 26]) (nC 27 (nF [mV 28 1,mV 29 7,oV 30 1 28 29,oJ 31 30,mV 9 31]) .skip)) (nF [mV 33 5,mV 34 7,mV 35 8,mV 36 9,mV 37 6,oA3 38 272 35 36 37,mV 32 38,oR 39 0 32,oR 40 1 32,oV 41 1 33 34,oK 1 41 39 false,mV 6 40]))))) (nF [oO 42 .add 19 1,mV 19 42]))))
@[simp] def qnz : AFn:=nG [(.tmp 4)] (nS (nF [oP 4 (.mv (.c .nil))]) (nS (nF [mV 10 0,oA1 11 111 10,mV 12 1,oA1 13 111 12,mV 0 11,mV 1 13]) (nS (nF [mV 14 0,oT 15 14,oP 16 (.mkslice 1 4 (.int .u32 0) (.t 15) (.t 15)),mV 5 16]) (nS (nF [oP 6 (.mv (.c (.int .u32 0)))]) (nS (nS (nF [mV 17 0,oT 18 17,oP 19 (nV 0)]) (.block 0 (.loop qey))) (nR [mV 43 5,mV 4 43]))))))
def qfz : AC:=(nS (nS (nF [mV 15 8,oO 16 .geq 15 0]) (nC 16 .skip (.exit 0))) (nS (.block 1 (nF [mV 20 6,mV 21 8,mV 22 7,mV 23 0,mV 24 8,oV 25 1 23 24,oJ 26 25,mV 27 1,oA3 28 273 22 26 27,mV 19 28,oR 29 0 19,oR 30 1 19,oV 31 1 20 21,oK 1 31 29 false,mV 7 30])) (nF [mV 17 8,oO 18 .sub 17 1,mV 8 18])))
@[simp] def qjm : AFn:=nG [(.tmp 4),(.tmp 5)] (nS (nF [oP 4 (.mv (.c .nil)),oP 5 (.mv (.c (.int .u32 0)))]) (nS (nF [mV 9 0,oT 10 9,oP 11 (.mkslice 1 4 (.int .u32 0) (.t 10) (.t 10)),mV 6 11]) (nS (nF [oP 7 (.mv (.c (.int .u32 0)))]) (nS (nS (nF [mV 12 0,oT 13 12,oO 14 .sub 13 1,mV 8 14]) (.block 0 (.loop qfz))) (nR [mV 32 6,mV 33 7,mV 4 32,mV 5 33])))))
@[simp] def qci : AFn:=nG [(.tmp 2)] (nS (nF [oP 2 (nV 0)]) (nR [mV 3 0,oA1 4 113 3,oP 5 (.bin .num .sub (.c (.int .i64 32)) (.t 4)),mV 2 5]))
@[simp] def qjn : AFn:=nG [(.tmp 10)] (nS (nF [oP 10 (.mv (.c (.int .u64 0)))]) (nS (nS (nF [mV 12 0,mV 13 3,oN 14 .geq 12 13]) (nC 14 (nR [mV 15 0,mV 16 3,oN 17 .sub 15 16,oP 18 (.conv .u64 (.t 17)),oP 19 (.bin .num .shl (.t 18) (.c (.int .u64 32))),mV 20 1,oP 21 (.conv .u64 (.t 20)),oN 22 .add 19 21,mV 23 3,oP 24 (.conv .u64 (.t 23)),oN 25 .add 22 24,mV 26 2,mV 27 3,mV 28 4,oP 29 (.call (.f 274) [(.c (.int .u64 4294967295)),(.t 25),(.t 26),(.t 27),(.t 28)]),mV 10 29]) .skip)) (nS (nF [mV 30 0,oP 31 (.conv .u64 (.t 30)),oP 32 (.bin .num .shl (.t 31) (.c (.int .u64 32))),
 mV 33 1,oP 34 (.conv .u64 (.t 33)),oN 35 .or 32 34,mV 11 35]) (nS (nT [mV 36 11,mV 37 3,oP 38 (.conv .u64 (.t 37)),oN 39 .quo 36 38,mV 40 11,mV 41 3,oP 42 (.conv .u64 (.t 41)),oN 43 .rem 40 42,mV 44 2,mV 45 3,mV 46 4,oB5 47 274 39 43 44 45 46,mV 10 47]) .ret))))
def qed : AC:=(nS (nF [oN 17 .lss 16 15]) (nS (nC 17 .skip (.exit 0)) (nS (.block 1 (nS (nF [mV 18 16,oV 19 1 14 16,oJ 20 19,mV 9 18,mV 10 20]) (nS (nF [mV 21 2,mV 22 10,oP 23 (.conv .u64 (.t 22)),oN 24 .mul 21 23,mV 25 7,oN 26 .add 24 25,mV 11 26]) (nS (nF [mV 27 11,oP 28 (.bin .num .shr (.t 27) (.c (.int .u64 32))),mV 7 28]) (nS (nF [mV 29 0,mV 30 9,oV 31 1 29 30,oJ 32 31,oP 33 (.conv .u64 (.t 32)),mV 34 11,oP 35 (.bin .num .and (.t 34) (.c (.int .u64 4294967295))),oN 36 .sub 33 35,mV 37 8,oN 38 .sub 36 37,mV 12 38]) (nF [mV 39 0,
 mV 40 9,mV 41 12,oP 42 (.conv .u32 (.t 41)),mV 43 12,oP 44 (.bin .num .shr (.t 43) (.c (.int .u64 63))),oV 45 1 39 40,oK 1 45 42 false,mV 8 44])))))) (nF [oO 46 .add 16 1,mV 16 46]))))
@[simp] def qg2 : AFn:=⟨[(.tmp 6)],(nS (nF [oZ 6 false]) (nS (nF [oP 7 (.mv (.c (.int .u64 0))),oP 8 (.mv (.c (.int .u64 0)))]) (nS (nS (nF [mV 14 1,oT 15 14,oP 16 (nV 0)]) (.block 0 (.loop qed))) (nS (nF [mV 47 0,mV 48 1,oT 49 48,oV 50 1 47 49,oJ 51 50,oP 52 (.conv .u64 (.t 51)),mV 53 7,oN 54 .sub 52 53,mV 55 8,oN 56 .sub 54 55,mV 13 56]) (nS (nF [mV 57 0,mV 58 1,oT 59 58,mV 60 13,oP 61 (.conv .u32 (.t 60)),oV 62 1 57 59,oK 1 62 61 false]) (nR [mV 63 13,oP 64 (.bin .num .shr (.t 63) (.c (.int .u64 63))),
 oP 65 (.bin .num .eql (.t 64) (.c (.int .u64 1))),mV 6 65])))))),false,true⟩
@[simp] def qgj : AFn:=nG [(.tmp 6),(.tmp 7)] (nS (nF [oP 6 (.mv (.c (.int .u32 0))),oP 7 (.mv (.c (.int .u32 0)))]) (nS (nF [mV 9 0,oP 10 (.conv .u64 (.t 9)),mV 11 1,oP 12 (.conv .u64 (.t 11)),oN 13 .add 10 12,mV 14 2,oP 15 (.conv .u64 (.t 14)),oN 16 .add 13 15,mV 8 16]) (nS (nF [mV 17 8,oP 18 (.conv .u32 (.t 17)),mV 6 18]) (nR [mV 19 8,oP 20 (.bin .num .shr (.t 19) (.c (.int .u64 32))),oP 21 (.conv .u32 (.t 20)),mV 7 21]))))
@[simp] def qgh : AFn:=nG [(.tmp 6),(.tmp 7)] (nS (nF [oP 6 (.mv (.c (.int .u32 0))),oP 7 (.mv (.c (.int .u32 0)))]) (nS (nF [mV 8 0,mV 9 1,oN 10 .sub 8 9,mV 11 2,oN 12 .sub 10 11,mV 6 12]) (nR [mV 13 0,oP 14 (.un .xor (.t 13)),mV 15 1,oN 16 .and 14 15,mV 17 0,mV 18 1,oN 19 .xor 17 18,oP 20 (.un .xor (.t 19)),mV 21 6,oN 22 .and 20 21,oN 23 .or 16 22,oP 24 (.bin .num .shr (.t 23) (.c (.int .u64 31))),mV 7 24])))
@[simp] def qgi : AFn:=nG [(.tmp 6),(.tmp 7)] (nS (nF [oP 6 (.mv (.c (.int .u32 0))),oP 7 (.mv (.c (.int .u32 0)))]) (nS (nS (nF [mV 9 2,oP 10 (.bin .num .neq (.t 9) (.c (.int .u32 0))),mV 11 10,oF 12 11 2,oF 13 11 0,gT 14 11 (nY .leq 12 13),oY 15 11 14]) (nC 15 .stop .skip)) (nS (nF [mV 17 0,oP 18 (.conv .u64 (.t 17)),oP 19 (.bin .num .shl (.t 18) (.c (.int .u64 32))),mV 20 1,oP 21 (.conv .u64 (.t 20)),oN 22 .or 19 21,mV 8 22]) (nS (nT [mV 23 8,mV 24 2,oP 25 (.conv .u64 (.t 24)),oN 26 .quo 23 25,oP 27 (.conv .u32 (.t 26)),
 mV 28 8,mV 29 2,oP 30 (.conv .u64 (.t 29)),oN 31 .rem 28 30,oP 32 (.conv .u32 (.t 31)),mV 6 27,mV 7 32]) .ret))))
def qdn : AC:=(nS (nS (nF [mV 11 1,oP 12 (.bin .num .lss (.t 11) (.c (.int .u64 4294967296))),mV 13 12,oF 14 13 0,oF 15 13 4,gT 16 13 (.conv .u64 (.t 15)),gT 17 13 (nY .mul 14 16),oF 18 13 1,gT 19 13 (.bin .num .shl (.t 18) (.c (.int .u64 32))),oF 20 13 2,gT 21 13 (.conv .u64 (.t 20)),gT 22 13 (nY .or 19 21),gT 23 13 (nY .gtr 17 22),oY 24 13 23]) (nC 24 .skip (.exit 0))) (.block 1 (nS (nF [mV 25 0,oP 26 (.bin .num .sub (.t 25) (.c (.int .u64 1))),mV 0 26]) (nF [mV 27 1,mV 28 3,oP 29 (.conv .u64 (.t 28)),
 oN 30 .add 27 29,mV 1 30]))))
@[simp] def qjp : AFn:=nG [(.tmp 10)] (nS (nF [oP 10 (.mv (.c (.int .u64 0)))]) (nS (.block 0 (.loop qdn)) (nR [mV 31 0,mV 10 31])))
@[simp] def qkh : AFn:=nG [(.tmp 0)] (nS (nF [oZ 0 false]) (nS (nF [oP 5 (.call (.f 293) [(.c (.int .i64 1))]),oP 6 (.call (.f 291) [(.t 5),(.c (.int .i64 2))]),mV 1 6]) (nS (nF [oP 7 (.call (.f 293) [(.c (.int .i64 1))]),oP 8 (.call (.f 158) [(.t 7),(.c (.int .i64 (-1)))]),oL 2,oK 7 2 8 false]) (nS (nF [mV 9 1,oP 10 (.call (.f 311) [(.t 9),(.c (.int .i64 24))]),mV 3 10]) (nS (nF [oP 11 (.call (.f 293) [(.c (.int .i64 1))]),oP 12 (.call (.f 290) [(.t 11),(.c (.int .i64 2))]),mV 13 1,oP 14 (.call (.f 303) [(.t 12),(.t 13),(.c (.int .i64 24))]),
 mV 4 14]) (nS (nT [mV 15 3,oP 16 (.call (.f 293) [(.c (.int .i64 1))]),oI 17 7 2,oP 18 (.call (.f 293) [(.c (.int .i64 (-1)))]),oP 19 (.call (.f 158) [(.t 18),(.c (.int .i64 (-3)))]),oS 20 (.bslice 7 3 (.agg nI) [(0,(.t 16)),(1,(.t 17)),(2,(.t 19))]),oB2 21 286 15 20,mV 22 21,oF 23 22 4,⟨some 24,.call (.f 293) [(.c (.int .i64 1))],some (22,true),true⟩,⟨some 25,.call (.f 293) [(.c (.int .i64 (-1)))],some (22,true),true⟩,⟨some 26,.call (.f 293) [(.c (.int .i64 1))],some (22,true),true⟩,⟨some 27,.bslice 7 3 (.agg nI) [(0,(.t 24)),(1,(.t 25)),(2,(.t 26))],some (22,true),true⟩,
 ⟨some 28,.call (.f 286) [(.t 23),(.t 27)],some (22,true),true⟩,oY 29 22 28,mV 0 29]) .ret))))))
@[simp] def qkg : AFn:=nG [(.tmp 4)] (nS (nF [oZ 4 false]) (nR [mV 5 0,oO 6 .gtr 5 64,mV 7 6,oF 8 7 0,gT 9 7 (nX .leq 8 512),oY 10 7 9,mV 11 10,oE 12 11 1,gF 13 11 (.call (.f 312) [(.t 12),(.f 313)]),oX 14 11 13,mV 4 14]))
@[simp] def qjz : AFn:=nG [(.tmp 2)] (nS (nF [oZ 2 false]) (nR [mV 3 0,oT 4 3,oO 5 .geq 4 1,mV 6 5,oF 7 6 0,gT 8 6 (.len (.t 7)),gT 9 6 (nX .leq 8 17),oY 10 6 9,mV 2 10]))
@[simp] def qmo : AFn:=nG [(.tmp 4)] (nS (nF [oZ 4 false]) (nR [mV 5 0,mV 6 1,oP 7 (.call (.f 82) [(.t 5),(.t 6),(.f 60)]),mV 4 7]))
@[simp] def qeb : AFn:=⟨[(.tmp 4)],(nS (nF [oU 2 7 0,oP 4 (.mv (.c .nil))]) (nS (nS (nF [mV 6 1,oO 7 .lss 6 0,mV 8 7,oE 9 8 1,gF 10 8 (nX .gtr 9 16),oX 11 8 10]) (nC 11 (nR [oP 4 (.mv (.c .nil))]) .skip)) (nS (nF [mV 12 1,oO 13 .add 12 1,oP 14 (.mkslice 7 88 (.agg [(.bool false),(.sl []),(.int .i64 0),(.bool false),(.sl []),(.int .i64 0),(.bool false)]) (.t 13) (.t 13)),mV 5 14]) (nS (nF [mV 15 5,oI 16 7 2,oP 17 (.iaddr 7 (.t 15) (.c (.int .i64 0))),oK 7 17 16 false]) (nR [mV 18 5,
 mV 4 18]))))),true,false⟩
@[simp] def qgf : AFn:=nG [(.tmp 4)] (nS (nF [oU 2 7 0,oP 4 (.mv (.c .nil))]) (nS (nF [oI 6 7 2,mV 7 1,oA2 8 290 6 7,mV 5 8]) (nS (nS (nF [mV 9 1,oO 10 .gtr 9 0,mV 11 10,oF 12 11 5,gT 13 11 (.bin .slice .neq (.t 12) (.c .nil)),oY 14 11 13]) (nC 14 (nF [mV 15 5,oP 16 (.call (.f 316) [(.c (.int .i64 1))]),oP 17 (.iaddr 7 (.t 15) (.c (.int .i64 1))),oK 7 17 16 false]) .skip)) (nR [mV 18 5,mV 4 18]))))
@[simp] def qn8 : AFn:=nG [(.cell 2 true 7)] (nS (nF [oL 2]) (nR [mV 3 0,oA1 4 74 3,oA1 5 153 4,oK 7 2 5 false]))
@[simp] def qp4 : AFn:=nG [(.tmp 6)] (nS (nF [oU 5 1 2,oP 6 (.mv (.c .nil))]) (nR [mV 7 0,mV 8 1,oP 9 (.mkfn 319 [(.t 5)]),oA3 10 318 7 8 9,mV 6 10]))
@[simp] def qp0 : AFn:=nG [(.tmp 6)] (nS (nF [oU 5 1 2,oP 6 (.mv (.c .nil))]) (nR [mV 7 0,mV 8 1,oP 9 (.mkfn 320 [(.t 5)]),oA3 10 318 7 8 9,mV 6 10]))
def qjd : AC:=(nS (nF [oN 20 .lss 19 18]) (nS (nC 20 .skip (.exit 0)) (nS (.block 1 (nS (nF [mV 21 19,oP 8 (.new 1 (.int .i64 0)),oK 1 8 21 false]) (nF [mV 22 7,oJ 23 8,oJ 24 5,oP 25 (.mkfn 323 [(.t 3),(.t 4),(.t 8),(.t 5)]),oP 26 (.call (.f 322) [(.c (.int .i64 0)),(.t 23),(.t 24),(.t 25)]),oP 27 (.bslice 7 1 (.agg nI) [(0,(.t 26))]),oP 28 (.append 7 88 (.t 22) (.t 27)),mV 7 28]))) (nF [oO 29 .add 19 1,mV 19 29]))))
@[simp] def qk7 : AFn:=⟨[(.tmp 6)],(nS (nF [oU 3 1 0,oU 4 1 1,oU 5 1 2,oP 6 (.mv (.c .nil))]) (nS (nS (nF [oJ 9 3,oJ 10 4,oP 11 (.bslice 1 2 .nil [(0,(.t 9)),(1,(.t 10))]),oA1 12 315 11,oW 13 12]) (nC 13 (nR [oP 6 (.mv (.c .nil))]) .skip)) (nS (nF [oJ 14 3,oT 15 14,oP 16 (.mkslice 7 88 (.agg [(.bool false),(.sl []),(.int .i64 0),(.bool false),(.sl []),(.int .i64 0),(.bool false)]) (.c (.int .i64 0)) (.t 15)),mV 7 16]) (nS (nS (nF [oJ 17 3,oT 18 17,oP 19 (nV 0)]) (.block 0 (.loop qjd))) (nR [mV 30 7,
 mV 6 30]))))),true,false⟩
def qjh : AC:=(nS (nF [oN 21 .lss 20 19]) (nS (nC 21 .skip (.exit 0)) (nS (.block 1 (nS (nF [mV 22 20,oP 8 (.new 1 (.int .i64 0)),oK 1 8 22 false]) (nS (nT [mV 23 0,oJ 24 8,oV 25 7 23 24,oI 26 7 25,oJ 27 8,oO 28 .sub 27 1,oJ 29 5,oP 30 (.mkfn 325 [(.t 7),(.t 4),(.t 8),(.t 5)]),oP 31 (.call (.f 324) [(.t 26),(.c (.int .i64 0)),(.t 28),(.t 29),(.t 30)]),oL 9,oK 7 9 31 true]) (nT [oJ 32 7,oI 33 7 9,oJ 34 4,oP 35 (.iaddr 7 (.t 34) (.c (.int .i64 0))),oI 36 7 35,oJ 37 5,oA3 38 142 33 36 37,oP 39 (.bslice 7 1 (.agg nI) [(0,(.t 38))]),
 oS 40 (.append 7 88 (.t 32) (.t 39)),oK 1 7 40 true])))) (nF [oO 41 .add 20 1,mV 20 41]))))
@[simp] def qp3 : AFn:=nG [(.tmp 6)] (nS (nF [oU 4 1 1,oU 5 1 2,oP 6 (.mv (.c .nil))]) (nS (nS (nF [mV 10 0,oJ 11 4,oP 12 (.bslice 1 2 .nil [(0,(.t 10)),(1,(.t 11))]),oA1 13 315 12,oW 14 13]) (nC 14 (nR [oP 6 (.mv (.c .nil))]) .skip)) (nS (nF [mV 15 0,oT 16 15,oP 17 (.mkslice 7 88 (.agg [(.bool false),(.sl []),(.int .i64 0),(.bool false),(.sl []),(.int .i64 0),(.bool false)]) (.c (.int .i64 0)) (.t 16)),oP 7 (.new 1 .nil),oK 1 7 17 false]) (nS (nS (nF [mV 18 0,oT 19 18,oP 20 (nV 0)]) (.block 0 (.loop qjh))) (nR [oJ 42 7,
 mV 6 42])))))
def qea : AC:=(nS (nF [oN 26 .lss 25 24]) (nS (nC 26 .skip (.exit 1)) (nS (.block 2 (nS (nF [mV 27 25,mV 8 27]) (nF [mV 28 7,mV 29 8,oA0 30 107,oV 31 7 28 29,oK 7 31 30 false]))) (nF [oO 32 .add 25 1,mV 25 32]))))
def qd9 : AC:=(nS (nF [oN 40 .lss 39 38]) (nS (nC 40 .skip (.exit 3)) (nS (.block 4 (nS (nF [mV 41 39,mV 9 41]) (nT [mV 42 7,mV 43 9,oP 44 (.call (.f 316) [(.c (.int .i64 0))]),mV 45 0,mV 46 9,oV 47 7 45 46,oI 48 7 47,mV 49 2,oB3 50 140 44 48 49,oV 51 7 42 43,oK 7 51 50 true]))) (nF [oO 52 .add 39 1,mV 39 52]))))
def qd8 : AC:=(nS (nF [oN 56 .lss 55 54]) (nS (nC 56 .skip (.exit 5)) (nS (.block 6 (nF [mV 57 7,mV 58 0,mV 59 2,oA3 60 302 57 58 59,mV 7 60])) (nF [oO 61 .add 55 1,mV 55 61]))))
@[simp] def qk6 : List AOper:=
 [mV 62 7,mV 63 0,oP 64 (.iaddr 7 (.t 63) (.c (.int .i64 0))),oI 65 7 64,mV 66 1,mV 67 2,oA3 68 178 65 66 67,oP 69 (.iaddr 7 (.t 62) (.c (.int .i64 0))),oK 7 69 68 false]
@[simp] def qk5 : List AOper:=
 [mV 70 7,mV 6 70]
@[simp] def qlm : AFn:=nG [(.tmp 6)] (nS (nF [oP 6 (.mv (.c .nil))]) (nS (nS (nF [mV 10 0,oP 11 (.bslice 1 1 .nil [(0,(.t 10))]),oA1 12 315 11,oW 13 12]) (nC 13 (nR [oP 6 (.mv (.c .nil))]) .skip)) (nS (nF [mV 14 0,oA1 15 330 14,mV 7 15]) (nS (.block 0 (nS (nF [mV 17 1,oO 18 .lss 17 0,mV 19 18,oE 20 19 1,gF 21 19 (nX .gtr 20 16),oX 22 19 21,mV 16 22]) (nC 16 (nS (nS (nF [mV 23 7,oT 24 23,oP 25 (nV 0)]) (.block 1 (.loop qea))) (nR [mV 33 7,
 mV 6 33])) (nS (nF [mV 35 1,oO 36 .eql 35 0,mV 34 36]) (nC 34 (nS (nF [mV 37 7,oT 38 37,oP 39 (nV 0)]) (.block 3 (.loop qd9))) .skip))))) (nS (nS (nF [mV 53 1,oO 54 .sub 53 1,oP 55 (nV 0)]) (.block 5 (.loop qd8))) (nS (.region false qk6) (nS (.region false qk5) .ret)))))))
def qhf : AC:=(nS (nS (nF [oJ 28 7,mV 29 0,oT 30 29,oN 31 .lss 28 30]) (nC 31 .skip (.exit 0))) (nS (.block 1 (nS (nT [mV 34 0,oJ 35 7,oV 36 7 34 35,oI 37 7 36,oJ 38 7,oO 39 .sub 38 1,oJ 40 3,oP 41 (.mkfn 326 [(.t 5),(.t 7),(.t 3)]),oP 42 (.call (.f 324) [(.t 37),(.c (.int .i64 1)),(.t 39),(.t 40),(.t 41)]),oL 8,oK 7 8 42 true]) (nT [oJ 43 5,oI 44 7 8,oI 45 7 6,oJ 46 3,oA3 47 142 44 45 46,oP 48 (.bslice 7 1 (.agg nI) [(0,(.t 47))]),oS 49 (.append 7 88 (.t 43) (.t 48)),oK 1 5 49 true]))) (nS (nS (nF [oJ 50 7]) (nF [oP 7 (.new 1 (.int .i64 0)),
 oK 1 7 50 false])) (nF [oJ 32 7,oO 33 .add 32 1,oK 1 7 33 false]))))
@[simp] def qnt : AFn:=nG [(.tmp 4)] (nS (nF [oU 3 1 1,oP 4 (.mv (.c .nil))]) (nS (nS (nF [mV 9 0,oP 10 (.bslice 1 1 .nil [(0,(.t 9))]),oA1 11 315 10,oW 12 11]) (nC 12 (nR [oP 4 (.mv (.c .nil))]) .skip)) (nS (nF [mV 13 0,oT 14 13,oP 15 (.mkslice 7 88 (.agg [(.bool false),(.sl []),(.int .i64 0),(.bool false),(.sl []),(.int .i64 0),(.bool false)]) (.c (.int .i64 0)) (.t 14)),oP 5 (.new 1 .nil),oK 1 5 15 false]) (nS (nT [oJ 16 5,mV 17 0,oP 18 (.iaddr 7 (.t 17) (.c (.int .i64 0))),oI 19 7 18,oJ 20 3,oA2 21 176 19 20,
 oP 22 (.bslice 7 1 (.agg nI) [(0,(.t 21))]),oS 23 (.append 7 88 (.t 16) (.t 22)),oK 1 5 23 true]) (nS (nF [oJ 24 5,oP 25 (.iaddr 7 (.t 24) (.c (.int .i64 0))),oI 26 7 25,oP 27 (.call (.f 158) [(.t 26),(.c (.int .i64 1))]),oL 6,oK 7 6 27 false]) (nS (nS (nF [oP 7 (.new 1 (.int .i64 0)),⟨none,.store 1 (.t 7) (.c (.int .i64 1)),none,false⟩]) (.block 0 (.loop qhf))) (nR [oJ 51 5,mV 4 51])))))))
@[simp] def qbr : AFn:=nG [(.tmp 4)] (nS (nF [oZ 4 false]) (nR [mV 5 0,mV 6 1,oA2 7 327 5 6,oO 8 .geq 7 0,mV 4 8]))
@[simp] def qgt : AFn:=nG [(.tmp 2)] (nS (nF [oZ 2 false]) (nR [mV 3 0,oT 4 3,oO 5 .gtr 4 30,mV 6 5,oE 7 6 0,gF 8 6 (.call (.f 67) [(.t 7),(.f 314)]),oX 9 6 8,mV 2 9]))
@[simp] def qfb : AFn:=nG [(.tmp 2)] (nS (nF [oU 1 7 0,oZ 2 false]) (nR [oQ 3 0 1,oQ 4 1 3,oJ 5 4,oT 6 5,oO 7 .gtr 6 20,mV 8 7,gF 9 8 (nA 3 1),gF 10 8 (nA 1 9),oG 11 8 false 1 10,gF 12 8 (.len (.t 11)),gF 13 8 (nX .gtr 12 20),oX 14 8 13,mV 2 14]))
def qja : AC:=(nS (nF [oN 8 .lss 7 6]) (nS (nC 8 .skip (.exit 0)) (nS (.block 1 (nS (nF [oV 9 1 5 7,oJ 10 9,mV 4 10]) (nS (nF [mV 11 4,oT 12 11,oO 13 .lss 12 1,mV 14 13,oE 15 14 4,gF 16 14 (.len (.t 15)),gF 17 14 (nX .gtr 16 17),oX 18 14 17,mV 19 18,oE 20 19 4,gF 21 19 (.len (.t 20)),oE 22 19 0,gF 23 19 (.iaddr 1 (.t 22) (.c (.int .i64 0))),oG 24 19 false 1 23,gF 25 19 (.len (.t 24)),gF 26 19 (nY .neq 21 25),oX 27 19 26]) (nC 27 (nR [oZ 2 false]) .skip)))) (nF [oO 28 .add 7 1,
 mV 7 28]))))
@[simp] def qpz : AFn:=nG [(.tmp 2)] (nS (nF [oZ 2 false]) (nS (nS (nF [mV 5 0,oT 6 5,oP 7 (nV 0)]) (.block 0 (.loop qja))) (nR [oZ 2 true])))
@[simp] def qlj : AFn:=nG [(.cell 2 true 7)] (nS (nF [oL 2]) (nR [mV 3 0,oA1 4 210 3,oA1 5 152 4,oK 7 2 5 false]))
def qhe : AC:=(nS (nF [oN 20 .lss 19 18]) (nS (nC 20 .skip (.exit 0)) (nS (.block 1 (nS (nF [mV 21 19,mV 8 21]) (nT [mV 22 7,mV 23 2,mV 24 0,mV 25 8,oV 26 7 24 25,oI 27 7 26,mV 28 1,mV 29 8,oV 30 7 28 29,oI 31 7 30,oS 32 (.call (.t 23) [(.t 27),(.t 31)]),oS 33 (.bslice 7 1 (.agg nI) [(0,(.t 32))]),oS 34 (.append 7 88 (.t 22) (.t 33)),mV 7 34]))) (nF [oO 35 .add 19 1,mV 19 35]))))
@[simp] def qns : AFn:=nG [(.tmp 6)] (nS (nF [oP 6 (.mv (.c .nil))]) (nS (nS (nF [mV 9 0,mV 10 1,oP 11 (.bslice 1 2 .nil [(0,(.t 9)),(1,(.t 10))]),oA1 12 315 11,oW 13 12]) (nC 13 (nR [oP 6 (.mv (.c .nil))]) .skip)) (nS (nF [mV 14 0,oT 15 14,oP 16 (.mkslice 7 88 (.agg [(.bool false),(.sl []),(.int .i64 0),(.bool false),(.sl []),(.int .i64 0),(.bool false)]) (.c (.int .i64 0)) (.t 15)),mV 7 16]) (nS (nS (nF [mV 17 0,oT 18 17,oP 19 (nV 0)]) (.block 0 (.loop qhe))) (nR [mV 36 7,mV 6 36])))))
@[simp] def qlq : AFn:=nG [(.cell 5 true 7)] (nS (nF [oU 3 7 0,oU 4 7 1,oL 5]) (nR [oI 6 7 3,oI 7 7 4,oJ 8 2,oA3 9 138 6 7 8,oK 7 5 9 false]))
@[simp] def qll : AFn:=nG [(.cell 5 true 7)] (nS (nF [oU 3 7 0,oU 4 7 1,oL 5]) (nR [oI 6 7 3,oI 7 7 4,oJ 8 2,oA3 9 139 6 7 8,oK 7 5 9 false]))
def qi9 : AC:=(nS (nS (nF [mV 16 10,mV 17 1,oN 18 .leq 16 17]) (nC 18 .skip (.exit 0))) (nS (.block 1 (nT [oI 21 7 9,mV 22 3,mV 23 10,oP 24 (.call (.t 22) [(.t 23)]),mV 25 2,oB3 26 138 21 24 25,oK 7 9 26 true])) (nF [mV 19 10,oO 20 .add 19 1,mV 10 20])))
@[simp] def qpx : AFn:=nG [(.cell 8 true 7)] (nS (nF [oL 8]) (nS (nF [mV 11 3,mV 12 0,oP 13 (.call (.t 11) [(.t 12)]),oL 9,oK 7 9 13 false]) (nS (nS (nF [mV 14 0,oO 15 .add 14 1,mV 10 15]) (.block 0 (.loop qi9))) (nR [oI 27 7 9,oK 7 8 27 false]))))
@[simp] def qln : AFn:=nG [(.cell 6 true 7)] (nS (nF [oL 6]) (nS (nT [oJ 7 1,mV 8 0,oV 9 7 7 8,oI 10 7 9,oJ 11 2,oJ 12 3,mV 13 0,oN 14 .sub 12 13,oV 15 7 11 14,oI 16 7 15,oJ 17 4,oB3 18 140 10 16 17,oK 7 6 18 true]) .ret))
def qhd : AC:=(nS (nS (nF [mV 13 11,mV 14 2,oN 15 .leq 13 14]) (nC 15 .skip (.exit 0))) (nS (.block 1 (nT [oI 18 7 5,mV 19 4,mV 20 11,oP 21 (.call (.t 19) [(.t 20)]),mV 22 3,oB3 23 139 18 21 22,oK 7 5 23 true])) (nF [mV 16 11,oO 17 .add 16 1,mV 11 17])))
@[simp] def qnr : AFn:=nG [(.cell 10 true 7)] (nS (nF [oU 5 7 0,oL 10]) (nS (nS (nF [mV 12 1,mV 11 12]) (.block 0 (.loop qhd))) (nR [oI 24 7 5,oK 7 10 24 false])))
@[simp] def qlo : AFn:=nG [(.cell 6 true 7)] (nS (nF [oL 6]) (nS (nT [oJ 7 1,mV 8 0,oV 9 7 7 8,oI 10 7 9,oJ 11 2,oJ 12 3,mV 13 0,oN 14 .sub 12 13,oV 15 7 11 14,oI 16 7 15,oJ 17 4,oB3 18 140 10 16 17,oK 7 6 18 true]) .ret))
@[simp] def qjb : AFn:=nG [(.cell 5 true 7)] (nS (nF [oL 5]) (nS (nT [oJ 6 1,mV 7 0,oV 8 7 6 7,oI 9 7 8,oJ 10 1,oJ 11 2,mV 12 0,oN 13 .sub 11 12,oV 14 7 10 13,oI 15 7 14,oJ 16 3,oB3 17 140 9 15 16,oK 7 5 17 true]) .ret))
def qbq : AC:=(nS (nF [oN 9 .lss 8 7]) (nS (nC 9 .skip (.exit 0)) (nS (.block 1 (nS (nF [mV 10 8,mV 5 10]) (nS (nF [mV 11 1,mV 12 0,mV 13 5,oV 14 1 12 13,oJ 15 14,oP 16 (.call (.t 11) [(.t 15)])]) (nC 16 (nR [mV 17 5,mV 4 17]) .skip)))) (nF [oO 18 .add 8 1,mV 8 18]))))
@[simp] def qb5 : AFn:=nG [(.tmp 4)] (nS (nF [oP 4 (nV 0)]) (nS (nS (nF [mV 6 0,oT 7 6,oP 8 (nV 0)]) (.block 0 (.loop qbq))) (nR [oP 4 (nV (-1))])))
@[simp] def qbx : AFn:=⟨[(.tmp 2)],(nS (nF [oP 2 (.mv (.c .nil))]) (nS (nS (nF [mV 3 0,oP 4 (.bin .slice .eql (.t 3) (.c .nil))]) (nC 4 (nR [oP 2 (.mv (.c .nil))]) .skip)) (nR [oP 5 (.bslice 7 0 (.agg nI) []),mV 6 0,oP 7 (.append 7 88 (.t 5) (.t 6)),mV 2 7]))),true,false⟩
@[simp] def qmp : AFn:=nG [(.cell 4 true 7)] (nS (nF [oU 2 7 0,oL 4]) (nS (nS (nF [oI 5 7 2,mV 6 1,oA2 7 429 5 6,oW 8 7,mV 9 8,gF 10 9 (nA 0 2),oG 11 9 true 3 10,oC1 12 9 79 11,gF 13 9 (nX .leq 12 0),oX 14 9 13]) (nC 14 (nR [oA0 15 107,oK 7 4 15 false]) .skip)) (nS (nT [oQ 16 0 2,oI 17 3 16,mV 18 1,oA2 19 431 17 18,oQ 20 3 2,oI 21 3 20,mV 22 1,oB2 23 431 21 22,oB2 24 430 19 23,oK 7 4 24 true]) .ret)))
@[simp] def qmq : AFn:=nG [(.cell 4 true 7)] (nS (nF [oU 2 7 0,oL 4]) (nS (nS (nF [oI 5 7 2,mV 6 1,oA2 7 429 5 6,oW 8 7,mV 9 8,gF 10 9 (nA 0 2),oG 11 9 true 3 10,oC1 12 9 437 11,gF 13 9 (nU 12),oX 14 9 13,mV 15 14,gF 16 15 (nA 3 2),oG 17 15 true 3 16,oC1 18 15 437 17,gF 19 15 (nU 18),oX 20 15 19]) (nC 20 (nR [oA0 21 107,oK 7 4 21 false]) .skip)) (nS (nT [oQ 22 0 2,oI 23 3 22,mV 24 1,oA2 25 438 23 24,oQ 26 3 2,oI 27 3 26,mV 28 1,oB2 29 438 27 28,oB2 30 430 25 29,oK 7 4 30 true]) .ret)))
@[simp] def qkk : AFn:=nG [(.cell 2 true 7)] (nS (nF [oL 2]) (nS (nS (nF [mV 4 0,oO 5 .lss 4 8,mV 6 5,oE 7 6 0,gF 8 6 (nX .gtr 7 512),oX 9 6 8]) (nC 9 (nR [oA0 10 107,oK 7 2 10 false]) .skip)) (nS (nF [mV 11 0,oP 12 (.call (.f 442) [(.t 11),(.c (.int .i64 16))]),oP 3 (.new 1 (.agg [(.int .i64 0)])),oK 1 3 12 false]) (nS (nT [oI 13 1 3,oI 14 1 3,oP 15 (.call (.f 445) [(.c (.int .i64 1))]),oP 16 (.call (.f 445) [(.c (.int .i64 3))]),oA3 17 444 14 15 16,oB2 18 443 13 17,mV 19 0,oB2 20 149 18 19,
 oK 7 2 20 true]) .ret))))
@[simp] def qki : AFn:=nG [(.tmp 4)] (nS (nF [oU 2 7 0,oZ 4 false]) (nR [oQ 5 6 2,oJ 6 5,oW 7 6,mV 8 7,oH 9 8 true 7 2,oD1 10 8 77 9,oY 11 8 10,mV 12 11,oF 13 12 1,gT 14 12 (nX .geq 13 8),oY 15 12 14,mV 16 15,oF 17 16 1,gT 18 16 (nX .leq 17 512),oY 19 16 18,mV 4 19]))
@[simp] def qkj : AFn:=nG [(.cell 4 true 7)] (nS (nF [oU 2 7 0,oU 3 7 1,oL 4]) (nS (nS (nF [oQ 5 6 2,oJ 6 5,mV 7 6,gF 8 7 (nA 6 3),oG 9 7 false 1 8,oX 10 7 9]) (nC 10 (nR [oA0 11 107,oK 7 4 11 false]) .skip)) (nR [oQ 12 0 2,oI 13 3 12,oQ 14 3 3,oI 15 3 14,oP 16 (.build nI [(0,3,(.t 13)),(3,3,(.t 15))]),oK 7 4 16 false])))
@[simp] def qeo : AFn:=nG [(.cell 4 true 7)] (nS (nF [oU 2 3 0,oL 4]) (nS (nS (nT [oI 9 3 2,oP 10 (.call (.f 210) [(.c (.int .i64 1))]),oB2 11 52 9 10,oO 12 .eql 11 0]) (nC 12 (nR [oP 13 (.build nI []),oK 7 4 13 false]) .skip)) (nS (nF [mV 14 1,oP 15 (.call (.f 442) [(.t 14),(.c (.int .i64 40))]),oP 5 (.new 1 (.agg [(.int .i64 0)])),oK 1 5 15 false]) (nS (nF [oI 16 3 2,oA1 17 98 16,mV 6 17]) (nS (nT [oI 18 3 2,oA1 19 152 18,
 oQ 20 0 5,oJ 21 20,oA2 22 149 19 21,mV 23 6,oP 24 (.un .neg (.t 23)),oA2 25 158 22 24,oL 7,oK 7 7 25 true]) (nS (nT [oI 26 1 5,oI 27 1 5,oI 28 7 7,oP 29 (.call (.f 445) [(.c (.int .i64 (-1)))]),oA3 30 446 27 28 29,oI 31 1 5,oI 32 7 7,oP 33 (.call (.f 445) [(.c (.int .i64 1))]),oA3 34 446 31 32 33,oA3 35 444 26 30 34,oL 8,oK 7 8 35 true]) (nS (nT [oI 36 1 5,oI 37 1 5,oI 38 7 8,oA2 39 443 37 38,oI 40 1 5,mV 41 6,oA1 42 445 41,oQ 43 0 5,oJ 44 43,oA1 45 423 44,oA3 46 447 40 42 45,oB3 47 446 36 39 46,mV 48 1,oB2 49 149 47 48,oK 7 4 49 true]) .ret)))))))
@[simp] def qfc : AFn:=nG [(.tmp 2)] (nS (nF [oU 1 3 0,oZ 2 false]) (nR [oI 3 3 1,oA1 4 205 3,oP 5 (.call (.f 210) [(.c (.int .i64 1000))]),oA2 6 52 4 5,oO 7 .leq 6 0,mV 2 7]))
@[simp] def qh8 : AFn:=nG [(.cell 4 true 7)] (nS (nF [oU 2 3 0,oL 4]) (nS (nS (nF [oI 7 3 2,oA1 8 79 7,oO 9 .eql 8 0]) (nC 9 (nR [oP 10 (.call (.f 445) [(.c (.int .i64 1))]),oK 7 4 10 false]) .skip)) (nS (nF [oI 11 3 2,oA1 12 98 11,oO 13 .add 12 1,oP 14 (.max (.t 13) (.c (.int .i64 0))),mV 5 14]) (nS (nF [mV 15 1,mV 16 5,oO 17 .add 16 24,oA2 18 442 15 17,oP 6 (.new 1 (.agg [(.int .i64 0)])),oK 1 6 18 false]) (nS (nT [oI 19 1 6,oI 20 3 2,oA1 21 152 20,oQ 22 0 6,oJ 23 22,oA2 24 149 21 23,mV 25 5,oB3 26 448 19 24 25,
 mV 27 1,oB2 28 149 26 27,oK 7 4 28 true]) .ret)))))
@[simp] def qh9 : AFn:=nG [(.cell 4 true 1)] (nS (nF [oP 4 (.new 1 (.agg [(.int .i64 0)]))]) (nR [mV 5 0,mV 6 1,oN 7 .add 5 6,oP 8 (.min (.t 7) (.c (.int .i64 512))),oP 9 (.build [(.int .i64 0)] [(0,1,(.t 8))]),oK 1 4 9 false]))
def qfi : AC:=(nS (nS (nF [oI 15 1 2,oI 16 7 6,oA2 17 449 15 16,oW 18 17]) (nC 18 .skip (.exit 0))) (nS (.block 1 (nS (nF [oI 21 1 2,oI 22 7 6,oI 23 7 5,oA3 24 447 21 22 23,oK 7 6 24 false]) (nT [oI 25 1 2,oI 26 7 7,oI 27 1 2,oI 28 7 6,mV 29 8,oA1 30 445 29,oA3 31 444 27 28 30,oB3 32 446 25 26 31,oK 7 7 32 true]))) (nF [mV 19 8,oO 20 .add 19 2,mV 8 20])))
@[simp] def qdz : AFn:=nG [(.cell 4 true 7)] (nS (nF [oU 2 1 0,oU 3 7 1,oL 4]) (nS (nF [oI 9 7 3,oQ 10 0 2,oJ 11 10,oA2 12 141 9 11,oL 5,oK 7 5 12 false]) (nS (nT [oI 13 7 3,oP 14 (.sload true 7 3),oL 6,oL 7,⟨none,.storeN 7 (.t 6) (.t 13) [3],none,true⟩,oK 7 7 14 true]) (nS (nS (nF [oP 8 (nV 3)]) (.block 0 (.loop qfi))) (nS (nT [oI 33 1 2,oI 34 7 7,oI 35 7 6,oA1 36 450 35,oB3 37 446 33 34 36,oS 38 (.call (.f 158) [(.t 37),(.c (.int .i64 1))]),oK 7 4 38 true]) .ret)))))
@[simp] def qd1 : AFn:=nG [(.cell 6 true 7)] (nS (nF [oU 3 1 0,oU 4 7 1,oU 5 7 2,oL 6]) (nR [oI 7 7 4,oI 8 7 5,oQ 9 0 3,oJ 10 9,oA3 11 142 7 8 10,oK 7 6 11 false]))
@[simp] def qh7 : AFn:=nG [(.cell 2 true 7)] (nS (nF [oL 2]) (nR [mV 3 0,oA1 4 210 3,oA1 5 152 4,oK 7 2 5 false]))
@[simp] def qd2 : AFn:=nG [(.cell 6 true 7)] (nS (nF [oU 3 1 0,oU 4 7 1,oU 5 7 2,oL 6]) (nR [oI 7 7 4,oI 8 7 5,oQ 9 0 3,oJ 10 9,oA3 11 138 7 8 10,oK 7 6 11 false]))
@[simp] def qdy : AFn:=nG [(.cell 6 true 7)] (nS (nF [oU 3 1 0,oU 4 7 1,oU 5 7 2,oL 6]) (nR [oI 7 7 4,oI 8 7 5,oQ 9 0 3,oJ 10 9,oA3 11 140 7 8 10,oK 7 6 11 false]))
@[simp] def qcw : AFn:=nG [(.cell 6 true 7)] (nS (nF [oU 3 1 0,oU 4 7 1,oL 6]) (nS (nS (nF [mV 7 2,oO 8 .eql 7 0]) (nC 8 (nR [oI 9 1 3,oI 10 7 4,oA2 11 451 9 10,oK 7 6 11 false]) .skip)) (nS (nT [oI 12 1 3,oI 13 7 4,oP 14 (.call (.f 158) [(.t 13),(.c (.int .i64 (-1)))]),mV 15 2,oO 16 .sub 15 1,oA3 17 448 12 14 16,oQ 18 0 3,oJ 19 18,oB2 20 141 17 19,oK 7 6 20 true]) .ret)))
@[simp] def qdb : AFn:=nG [(.tmp 4)] (nS (nF [oU 2 1 0,oU 3 7 1,oZ 4 false]) (nS (nF [oI 8 7 3,oA1 9 164 8,mV 7 9,oR 10 0 7,oR 11 1 7,oM 5,oK 3 5 10 false,mV 6 11]) (nS (nT [mV 12 6,oW 13 12,mV 14 13,oG 15 14 true 3 5,⟨some 16,.call (.f 79) [(.t 15)],some (14,false),true⟩,gF 17 14 (nX .eql 16 0),oX 18 14 17,mV 19 18,oG 20 19 true 3 5,oC1 21 19 98 20,gF 22 19 (nA 0 2),oG 23 19 false 1 22,gF 24 19 (.un .neg (.t 23)),gF 25 19 (nY .leq 21 24),oX 26 19 25,mV 4 26]) .ret)))
@[simp] def qgu : AFn:=nG [(.cell 2 true 7)] (nS (nF [oU 1 7 0,oL 2]) (nS (nF [oI 6 7 1,oA1 7 164 6,mV 5 7,oR 8 0 5,oR 9 1 5,oM 3,oK 3 3 8 false,mV 4 9]) (nS (nS (nF [mV 10 4,oW 11 10]) (nC 11 (nR [oA0 12 107,oK 7 2 12 false]) .skip)) (nS (nT [oI 13 3 3,oA1 14 198 13,oI 15 3 3,oP 16 (.build nI [(0,3,(.t 14)),(3,3,(.t 15))]),oK 7 2 16 true]) .ret))))
def qfj : AC:=(nS (.block 1 (nS (nT [oI 12 1 2,oI 13 1 2,oI 14 7 5,oI 15 7 3,oA3 16 447 13 14 15,mV 17 7,oA1 18 445 17,oB3 19 444 12 16 18,oK 7 5 19 true]) (nS (nF [oI 20 1 2,oI 21 7 6,oI 22 7 5,oA3 23 446 20 21 22,oK 7 6 23 false]) (nS (nF [oI 24 1 2,oI 25 7 5,oA2 26 449 24 25]) (nC 26 (.exit 0) .skip))))) (nF [mV 10 7,oO 11 .add 10 1,mV 7 11]))
@[simp] def qd0 : AFn:=nG [(.cell 4 true 7)] (nS (nF [oU 2 1 0,oU 3 7 1,oL 4]) (.scope (nS (nF [oP 8 (.call (.f 445) [(.c (.int .i64 1))]),oP 9 (.call (.f 445) [(.c (.int .i64 1))]),oL 5,oL 6,oK 7 5 8 false,oK 7 6 9 false]) (.seq .skip (nS (nS (nF [oP 7 (nV 1)]) (.block 0 (.loop qfj))) (nS (nT [oI 27 1 2,oI 28 7 6,oI 29 7 5,oA1 30 450 29,oB3 31 446 27 28 30,oK 7 4 31 true]) .ret))))))
@[simp] def qqf : AFn:=nG [(.cell 4 true 7)] (nS (nF [oU 2 7 0,oL 4]) (nR [oI 5 7 2,mV 6 1,oP 7 (.call (.f 486) [(.t 5),(.c (.bool false)),(.t 6)]),oK 7 4 7 false]))
@[simp] def qqg : AFn:=nG [(.cell 4 true 7)] (nS (nF [oU 2 7 0,oL 4]) (nR [oI 5 7 2,mV 6 1,oP 7 (.call (.f 486) [(.t 5),(.c (.bool true)),(.t 6)]),oK 7 4 7 false]))
@[simp] def qig : AFn:=nG [(.tmp 2)] (nS (nF [oZ 2 false]) (nR [mV 3 0,oO 4 .geq 3 8,mV 5 4,oF 6 5 0,gT 7 5 (nX .leq 6 512),oY 8 5 7,mV 2 8]))
@[simp] def qo0 : AFn:=nG [(.cell 6 true 7)] (nS (nF [oU 3 2 0,oL 6]) (nS (nF [oP 14 (.bslice 1 1 (.int .u32 0) [(0,(.c (.int .u32 1)))]),oP 15 (.call (.f 493) [(.t 14),(.c (.int .i64 24))]),oP 16 (.build nB [(0,1,(.c (.bool false))),(1,1,(.t 15))]),oP 7 (.new 2 (.agg nB)),oK 2 7 16 false]) (nS (nT [oI 17 2 3,oI 18 2 7,oA1 19 495 18,oA2 20 494 17 19,oI 21 2 3,oI 22 2 7,oA2 23 494 21 22,oP 8 (.new 2 (.agg nB)),oP 9 (.new 2 (.agg nB)),oK 2 8 20 true,oK 2 9 23 true]) (nS (nF [oQ 25 0 8,
 oJ 26 25,oQ 27 1 8,oJ 28 27,mV 29 1,oP 30 (.un .neg (.t 29)),oA3 31 265 26 28 30,mV 24 31,oR 32 0 24,oR 33 1 24,oM 10,oK 3 10 32 false,mV 11 33]) (nS (nF [oQ 35 0 9,oJ 36 35,oQ 37 1 9,oJ 38 37,mV 39 1,oP 40 (.un .neg (.t 39)),oA3 41 265 36 38 40,mV 34 41,oR 42 0 34,oR 43 1 34,oM 12,oK 3 12 42 false,mV 13 43]) (nS (nS (nF [mV 44 11,oO 45 .neq 44 0,mV 46 45,oE 47 46 13,gF 48 46 (nX .neq 47 0),oX 49 46 48]) (nC 49 (nR [oA0 50 107,oK 7 6 50 false]) .skip)) (nS (nF [oI 52 3 10,mV 53 2,oA2 54 199 52 53,
 mV 51 54,oR 55 0 51,oR 56 1 51,oK 3 10 55 false,mV 11 56]) (nS (nF [oI 58 3 12,mV 59 2,oA2 60 200 58 59,mV 57 60,oR 61 0 57,oR 62 1 57,oK 3 12 61 false,mV 13 62]) (nS (nS (nF [mV 63 11,oO 64 .neq 63 0,mV 65 64,oE 66 65 13,gF 67 65 (nX .neq 66 0),oX 68 65 67]) (nC 68 (nR [oA0 69 107,oK 7 6 69 false]) .skip)) (nR [oI 70 3 10,oI 71 3 12,oP 72 (.build nI [(0,3,(.t 70)),(3,3,(.t 71))]),oK 7 6 72 false]))))))))))
@[simp] def qr1 : AFn:=nG [(.cell 2 true 2)] (nS (nF [oP 2 (.new 2 (.agg nB))]) (nS (nF [mV 5 0,oP 6 (.call (.f 496) [(.c (.int .i64 5)),(.t 5)]),mV 7 0,oP 8 (.call (.f 496) [(.c (.int .i64 239)),(.t 7)]),oP 3 (.new 2 (.agg nB)),oP 4 (.new 2 (.agg nB)),oK 2 3 6 false,oK 2 4 8 false]) (nS (nT [oQ 9 1 3,oJ 10 9,oP 11 (.call (.f 493) [(.t 10),(.c (.int .i64 4))]),oP 12 (.build nB [(0,1,(.c (.bool false))),(1,1,(.t 11))]),oQ 13 1 4,oJ 14 13,oS 15 (.call (.f 493) [(.t 14),(.c (.int .i64 2))]),
 oP 16 (.build nB [(0,1,(.c (.bool true))),(1,1,(.t 15))]),oB2 17 494 12 16,oK 2 2 17 true]) .ret)))
@[simp] def qo2 : AFn:=nG [(.cell 6 true 7)] (nS (nF [oU 3 7 0,oL 6]) (nS (nS (nF [mV 12 2,oA1 13 480 12,oW 14 13,mV 15 14,oG 16 15 true 7 3,oC1 17 15 77 16,gF 18 15 (nU 17),oX 19 15 18,mV 20 19,gF 21 20 (nA 6 3),oG 22 20 false 1 21,oX 23 20 22]) (nC 23 (nR [oA0 24 107,oK 7 6 24 false]) .skip)) (nS (nS (nF [oQ 25 0 3,oI 26 3 25,oA1 27 98 26,oO 28 .gtr 27 100,mV 29 28,gF 30 29 (nA 3 3),oG 31 29 true 3 30,oC1 32 29 98 31,gF 33 29 (nX .gtr 32 100),oX 34 29 33]) (nC 34 (nR [oA0 35 499,
 oK 7 6 35 false]) .skip)) (nS (nF [oI 37 7 3,oP 38 (.call (.f 160) [(.t 37),(.c (.int .i64 64))]),mV 36 38,oR 39 0 36,oR 40 1 36,oM 7,oK 3 7 39 false,mV 8 40]) (nS (nS (nT [mV 41 8,oW 42 41,mV 43 42,oG 44 43 true 3 7,gF 45 43 (.call (.f 210) [(.c (.int .i64 7))]),⟨some 46,.call (.f 52) [(.t 44),(.t 45)],some (43,false),true⟩,gF 47 43 (nX .geq 46 0),oX 48 43 47]) (nC 48 (nR [oA0 49 499,oK 7 6 49 false]) .skip)) (nS (nT [oQ 51 0 3,oI 52 3 51,mV 53 1,mV 54 2,oA3 55 500 52 53 54,oQ 56 3 3,oI 57 3 56,
 mV 58 1,mV 59 2,oA3 60 500 57 58 59,oA2 61 94 55 60,oA0 62 499,oA2 63 90 61 62,mV 50 63,oR 64 0 50,oR 65 1 50,oL 9,oK 7 9 64 true,mV 8 65]) (nS (nS (nF [mV 66 8,oW 67 66]) (nC 67 (nR [oA0 68 499,oK 7 6 68 false]) .skip)) (nS (nS (nF [oQ 69 0 3,oI 70 3 69,oQ 71 3 3,oI 72 3 71,oA2 73 52 70 72,oO 74 .eql 73 0]) (nC 74 (nR [oI 75 7 9,oK 7 6 75 false]) .skip)) (nS (nF [oP 10 (nV 1),oP 11 (nV 3)]) (nS (nS (nF [mV 76 1]) (nC 76 (nF [oP 10 (nV 0),
 oP 11 (nV 2)]) .skip)) (nS (nS (nF [oI 77 7 3,mV 78 10,mV 79 2,oO 80 .add 79 64,oA3 81 501 77 78 80]) (nC 81 (nF [oP 82 (.call (.f 210) [(.c (.int .i64 1))]),oQ 83 3 9,oK 3 83 82 false]) .skip)) (nS (nS (nF [oI 84 7 3,mV 85 11,mV 86 2,oO 87 .add 86 64,oA3 88 501 84 85 87]) (nC 88 (nF [oP 89 (.call (.f 210) [(.c (.int .i64 (-1)))]),oQ 90 0 9,oK 3 90 89 false]) .skip)) (nR [oI 91 7 9,oK 7 6 91 false])))))))))))))
@[simp] def qo1 : AFn:=nG [(.tmp 4)] (nS (nF [oP 4 (.mv (.c .nil))]) (nS (nF [mV 8 0,mV 9 1,oA2 10 112 8 9,mV 7 10,oR 11 0 7,oR 12 1 7,mV 5 11,mV 6 12]) (nR [mV 13 5,mV 4 13])))
@[simp] def qga : AFn:=nG [(.cell 4 true 2)] (nS (nF [oU 2 2 0,oU 3 2 1,oP 4 (.new 2 (.agg nB))]) (nS (nS (nF [oQ 9 0 2,oJ 10 9,oQ 11 0 3,oJ 12 11,oP 13 (.bin .bool .eql (.t 10) (.t 12))]) (nC 13 (nS (nF [oQ 15 1 2,oJ 16 15,oQ 17 1 3,oJ 18 17,oA2 19 257 16 18,mV 14 19,oR 20 0 14,oR 21 1 14,mV 5 20,mV 6 21]) (nR [oQ 22 0 2,oJ 23 22,mV 24 5,oP 25 (.build nB [(0,1,(.t 23)),(1,1,(.t 24))]),oK 2 4 25 false])) .skip)) (nS (nS (nF [oQ 26 1 2,oJ 27 26,oQ 28 1 3,oJ 29 28,oA2 30 99 27 29,
 oO 31 .lss 30 0]) (nC 31 (nF [oI 32 2 3,oI 33 2 2,oK 2 2 32 false,oK 2 3 33 false]) .skip)) (nS (nF [oQ 35 1 2,oJ 36 35,oQ 37 1 3,oJ 38 37,oA2 39 258 36 38,mV 34 39,oR 40 0 34,oR 41 1 34,mV 7 40,mV 8 41]) (nR [oQ 42 0 2,oJ 43 42,mV 44 7,oP 45 (.build nB [(0,1,(.t 43)),(1,1,(.t 44))]),oK 2 4 45 false])))))
@[simp] def qer : AFn:=nG [(.cell 2 true 2)] (nS (nF [oU 1 2 0,oP 2 (.new 2 (.agg nB))]) (nR [oQ 3 0 1,oJ 4 3,oW 5 4,oQ 6 1 1,oJ 7 6,oP 8 (.build nB [(0,1,(.t 5)),(1,1,(.t 7))]),oK 2 2 8 false]))
@[simp] def qih : AFn:=nG [(.cell 4 true 2)] (nS (nF [oU 2 1 0,oP 4 (.new 2 (.agg nB))]) (nS (nF [oP 6 (.bslice 1 1 (.int .u32 0) [(0,(.c (.int .u32 1)))]),mV 7 1,oA2 8 493 6 7,oP 9 (.build nB [(0,1,(.c (.bool false))),(1,1,(.t 8))]),oP 5 (.new 2 (.agg nB)),oK 2 5 9 false]) (nR [oI 10 2 5,oJ 11 2,oA2 12 507 10 11,oP 13 (.mkfn 508 [(.t 2)]),oA2 14 506 12 13,oK 2 4 14 false])))
@[simp] def qoz : AFn:=nG [(.cell 0 true 7)] (nS (nF [oL 0]) (nR [oP 1 (.call (.f 210) [(.c (.int .i64 (-1)))]),oP 2 (.call (.f 210) [(.c (.int .i64 1))]),oP 3 (.build nI [(0,3,(.t 1)),(3,3,(.t 2))]),oK 7 0 3 false]))
@[simp] def qmv : AFn:=nG [(.cell 6 true 7)] (nS (nF [oU 3 3 0,oL 6]) (nS (nS (nF [oI 12 3 3,oA1 13 79 12,oO 14 .eql 13 0]) (nC 14 (nS (nS (nF [mV 15 1]) (nC 15 (nR [oP 16 (.call (.f 210) [(.c (.int .i64 1))]),oA1 17 152 16,oK 7 6 17 false]) .skip)) (nR [oI 18 3 3,oA1 19 152 18,oK 7 6 19 false])) .skip)) (nS (nF [mV 20 2,oO 21 .add 20 64,mV 7 21]) (nS (nF [oI 23 3 3,mV 24 7,oA2 25 509 23 24,mV 22 25,oR 26 0 22,oR 27 1 22,oP 8 (.new 2 (.agg nB)),oK 2 8 26 false,
 mV 9 27]) (nS (nF [oI 29 2 8,mV 30 7,oA2 31 510 29 30,mV 28 31,oR 32 0 28,oR 33 1 28,oP 10 (.new 2 (.agg nB)),oP 11 (.new 2 (.agg nB)),oK 2 10 32 false,oK 2 11 33 false]) (nS (nS (nF [mV 34 1]) (nC 34 (nF [mV 35 9,oO 36 .add 35 1,mV 9 36]) .skip)) (nS (nS (nF [mV 37 9,oO 38 .rem 37 4]) (.block 0 (nS (nF [oO 40 .eql 38 1,mV 39 40]) (nC 39 (nF [oI 41 2 11,oK 2 10 41 false]) (nS (nF [oO 43 .eql 38 2,mV 42 43]) (nC 42 (nF [oI 44 2 10,oA1 45 495 44,
 oK 2 10 45 false]) (nS (nF [oO 47 .eql 38 3,mV 46 47]) (nC 46 (nF [oI 48 2 11,oA1 49 495 48,oK 2 10 49 false]) .skip)))))))) (nR [oI 50 2 10,mV 51 7,mV 52 2,oA3 53 481 50 51 52,oK 7 6 53 false]))))))))
@[simp] def qmw : AFn:=nG [(.tmp 6)] (nS (nF [oU 3 7 0,oZ 6 false]) (nS (nT [oQ 18 0 3,oI 19 3 18,oA1 20 98 19,oQ 21 3 3,oI 22 3 21,oB1 23 98 22,oP 24 (.max3 (.t 20) (.t 23) (.c (.int .i64 0))),mV 7 24]) (nS (nF [mV 25 2,mV 26 7,oN 27 .add 25 26,oO 28 .add 27 40,mV 8 28]) (nS (nF [mV 29 8,oA1 30 482 29,oP 9 (.new 2 (.agg nB)),oK 2 9 30 false]) (nS (nF [oQ 31 1 9,oJ 32 31,oP 33 (.call (.f 493) [(.t 32),(.c (.int .i64 1))]),oP 34 (.build nB [(0,1,(.c (.bool false))),(1,1,(.t 33))]),oP 10 (.new 2 (.agg nB)),
 oK 2 10 34 false]) (nS (nT [mV 35 1,oA1 36 511 35,oI 37 2 9,oP 38 (.call (.f 512) [(.t 36),(.t 37),(.c (.int .i64 0))]),oP 39 (.field false 1 1 (.t 38)),oP 40 (.call (.f 504) [(.t 39),(.c (.int .i64 1))]),oP 41 (.build nB [(0,1,(.c (.bool false))),(1,1,(.t 40))]),oP 11 (.new 2 (.agg nB)),oK 2 11 41 true]) (nS (nF [oP 42 (.bslice 1 1 (.int .u32 0) [(0,(.c (.int .u32 1)))]),mV 43 7,oO 44 .add 43 24,oO 45 .add 44 4,oA2 46 493 42 45,oP 47 (.build nB [(0,1,(.c (.bool false))),(1,1,(.t 46))]),oP 12 (.new 2 (.agg nB)),
 oK 2 12 47 false]) (nS (nT [oQ 48 3 3,oI 49 3 48,mV 50 8,oA2 51 503 49 50,oI 52 2 11,oA1 53 495 52,oA2 54 494 51 53,oI 55 2 12,oA2 56 494 54 55,oI 57 2 10,oA2 58 513 56 57,oP 13 (.new 2 (.agg nB)),oK 2 13 58 true]) (nS (nF [oQ 60 1 13,oJ 61 60,oQ 62 1 10,oJ 63 62,oA2 64 238 61 63,mV 59 64,oR 65 0 59,oR 66 1 59,mV 14 65,mV 15 66]) (nS (nF [oQ 67 0 13,oJ 68 67,mV 69 14,oP 70 (.build nB [(0,1,(.t 68)),(1,1,(.t 69))]),oI 71 2 11,oA2 72 494 70 71,oP 16 (.new 2 (.agg nB)),oK 2 16 72 false]) (nS (nT [oI 73 2 16,
 oQ 74 0 3,oI 75 3 74,mV 76 8,oA2 77 503 75 76,oA1 78 495 77,oA2 79 494 73 78,oI 80 2 12,oA2 81 494 79 80,oP 17 (.new 2 (.agg nB)),oK 2 17 81 true]) (nR [oI 82 2 17,oA1 83 514 82,mV 84 83,gF 85 84 (nA 0 17),oG 86 84 false 1 85,gF 87 84 (nU 86),oX 88 84 87,mV 6 88]))))))))))))
@[simp] def qr2 : AFn:=nG [(.cell 4 true 2)] (nS (nF [oU 2 3 0,oP 4 (.new 2 (.agg nB))]) (nS (nS (nF [oQ 6 2 2,oJ 7 6,mV 8 1,oN 9 .add 7 8,mV 5 9]) (nS (nF [mV 10 5,oO 11 .lss 10 0]) (nC 11 (nS (nT [oQ 12 0 2,oJ 13 12,oQ 14 1 2,oJ 15 14,mV 16 5,oP 17 (.un .neg (.t 16)),oA2 18 504 15 17,oP 19 (.build nB [(0,1,(.t 13)),(1,1,(.t 18))]),oK 2 4 19 true]) .ret) .skip))) (nS (nT [oQ 20 0 2,oJ 21 20,oQ 22 1 2,oJ 23 22,oQ 24 2 2,oJ 25 24,mV 26 1,oN 27 .add 25 26,oA2 28 493 23 27,oP 29 (.build nB [(0,1,(.t 21)),(1,1,(.t 28))]),
 oK 2 4 29 true]) .ret)))
@[simp] def qmu : AFn:=nG [(.tmp 4)] (nS (nF [oP 4 (.mv (.c .nil))]) (nS (nF [mV 8 0,mV 9 1,oA2 10 246 8 9,mV 7 10,oR 11 0 7,oR 12 1 7,mV 5 11,mV 6 12]) (nR [mV 13 5,mV 4 13])))
def qf9 : AC:=(nS (.block 1 (nS (nF [mV 11 1,oI 12 2 2,oP 13 (.call (.t 11) [(.t 12)]),oK 2 2 13 false]) (nS (nS (nF [oI 14 2 2,oA1 15 514 14]) (nC 15 (nR [oI 16 2 5,oK 2 4 16 false]) .skip)) (nS (nF [oI 17 2 2,mV 18 6,oP 19 (.bin .num .mul (.c (.int .i64 2)) (.t 18)),oO 20 .add 19 1,oA2 21 507 17 20,oP 7 (.new 2 (.agg nB)),oK 2 7 21 false]) (nS (nS (nF [mV 22 6,oO 23 .rem 22 2,oO 24 .eql 23 1]) (nC 24 (nF [oI 25 2 7,oA1 26 495 25,oK 2 7 26 false]) .skip)) (nF [oI 27 2 5,
 oI 28 2 7,oA2 29 494 27 28,oK 2 5 29 false])))))) (nF [mV 9 6,oO 10 .add 9 1,mV 6 10]))
@[simp] def qep : AFn:=nG [(.cell 4 true 2)] (nS (nF [oU 2 2 0,oP 4 (.new 2 (.agg nB))]) (nS (nF [oI 8 2 2,oP 5 (.new 2 (.agg nB)),oK 2 5 8 false]) (nS (nF [oP 6 (nV 1)]) (.block 0 (.loop qf9)))))
@[simp] def qgw : AFn:=nG [(.cell 4 true 2)] (nS (nF [oU 2 2 0,oP 4 (.new 2 (.agg nB))]) (nS (nT [oQ 9 1 2,oJ 10 9,mV 11 1,oA1 12 511 11,oP 13 (.field false 1 1 (.t 12)),oB2 14 240 10 13,mV 8 14,oR 15 0 8,oR 16 1 8,oR 17 2 8,mV 5 15,mV 6 16,mV 7 17]) (nR [oQ 18 0 2,oJ 19 18,mV 20 5,oP 21 (.build nB [(0,1,(.t 19)),(1,1,(.t 20))]),oK 2 4 21 false])))
@[simp] def qf8 : AFn:=nG [(.cell 3 true 2)] (nS (nF [oU 2 2 0,oP 3 (.new 2 (.agg nB))]) (nR [oI 4 2 2,oJ 5 1,oJ 6 1,oN 7 .mul 5 6,oA2 8 507 4 7,oK 2 3 8 false]))
@[simp] def qif : AFn:=nG [(.cell 4 true 2),(.tmp 5)] (nS (nF [oU 2 3 0,oP 4 (.new 2 (.agg nB)),oP 5 (nV 0)]) (nS (nF [oI 17 3 2,oA1 18 98 17,oP 19 (.max (.t 18) (.c (.int .i64 0))),mV 6 19]) (nS (nF [mV 20 1,mV 21 6,oN 22 .add 20 21,oO 23 .add 22 40,mV 7 23]) (nS (nF [mV 24 7,oA1 25 482 24,oP 26 (.field false 1 1 (.t 25)),oP 27 (.call (.f 504) [(.t 26),(.c (.int .i64 1))]),oP 28 (.build nB [(0,1,(.c (.bool false))),(1,1,(.t 27))]),oP 8 (.new 2 (.agg nB)),oK 2 8 28 false]) (nS (nF [oI 29 3 2,
 mV 30 7,oA2 31 503 29 30,oP 9 (.new 2 (.agg nB)),oK 2 9 31 false]) (nS (nF [oQ 33 1 9,oJ 34 33,oQ 35 1 8,oJ 36 35,oA2 37 240 34 36,mV 32 37,oR 38 0 32,oR 39 1 32,oR 40 2 32,mV 10 38,mV 11 39,mV 12 40]) (nS (nF [mV 42 10,oQ 43 1 8,oJ 44 43,oA2 45 238 42 44,mV 41 45,oR 46 0 41,oR 47 1 41,mV 13 46,mV 14 47]) (nS (nF [oQ 48 0 9,oJ 49 48,oQ 50 1 9,oJ 51 50,oP 52 (.build nB [(0,1,(.t 49)),(1,1,(.t 51))]),oQ 53 0 9,oJ 54 53,oW 55 54,mV 56 13,oP 57 (.build nB [(0,1,(.t 55)),(1,1,(.t 56))]),oA2 58 494 52 57,oP 15 (.new 2 (.agg nB)),
 oK 2 15 58 false]) (nS (nF [oP 16 (nV 0)]) (nS (nS (nF [mV 59 10,oT 60 59,oO 61 .gtr 60 0]) (nC 61 (nF [mV 62 10,oP 63 (.iaddr 1 (.t 62) (.c (.int .i64 0))),oJ 64 63,oP 65 (.bin .num .and (.t 64) (.c (.int .u32 3))),oP 66 (.conv .i64 (.t 65)),mV 16 66]) .skip)) (nS (nS (nF [oQ 67 0 9,oJ 68 67]) (nC 68 (nF [mV 69 16,oP 70 (.bin .num .sub (.c (.int .i64 4)) (.t 69)),oO 71 .and 70 3,mV 16 71]) .skip)) (nS (nT [oQ 72 0 15,oJ 73 72,oQ 74 1 15,oJ 75 74,mV 76 6,oO 77 .add 76 40,oA2 78 504 75 77,
 oP 79 (.build nB [(0,1,(.t 73)),(1,1,(.t 78))]),mV 80 16,oK 2 4 79 true,mV 5 80]) .ret))))))))))))
def qk8 : AC:=(nS (.block 1 (nS (nF [oI 18 2 7,oI 19 2 2,mV 20 1,oA3 21 512 18 19 20,mV 22 8,oA2 23 507 21 22,oK 2 7 23 false]) (nS (nS (nF [oI 24 2 7,oA1 25 514 24]) (nC 25 (nS (nT [oI 26 2 4,oP 27 (.sload true 2 5),⟨none,.storeN 2 (.t 4) (.t 26) [5],none,true⟩,oK 2 5 27 true]) .ret) .skip)) (nS (nF [oI 28 2 7,oP 9 (.new 2 (.agg nB)),oK 2 9 28 false]) (nS (nS (nF [mV 29 8,oO 30 .rem 29 4,oO 31 .geq 30 2]) (nC 31 (nF [oI 32 2 9,oA1 33 495 32,oK 2 9 33 false]) .skip)) (nS (nF [mV 34 8,
 oO 35 .rem 34 2,oO 36 .eql 35 1]) (nC 36 (nF [oI 37 2 4,oI 38 2 9,oA2 39 494 37 38,oK 2 4 39 false]) (nF [oI 40 2 5,oI 41 2 9,oA2 42 494 40 41,oK 2 5 42 false])))))))) (nF [mV 16 8,oO 17 .add 16 1,mV 8 17]))
@[simp] def qkm : AFn:=nG [(.cell 4 true 2),(.cell 5 true 2)] (nS (nF [oU 2 2 0,oP 4 (.new 2 (.agg nB)),oP 5 (.new 2 (.agg nB))]) (nS (nF [oP 10 (.bslice 1 1 (.int .u32 0) [(0,(.c (.int .u32 1)))]),mV 11 1,oA2 12 493 10 11,oP 13 (.build nB [(0,1,(.c (.bool false))),(1,1,(.t 12))]),oP 6 (.new 2 (.agg nB)),oK 2 6 13 false]) (nS (nF [oI 14 2 6,oP 7 (.new 2 (.agg nB)),oK 2 7 14 false]) (nS (nF [oI 15 2 6,oK 2 5 15 false]) (nS (nF [oP 8 (nV 1)]) (.block 0 (.loop qk8)))))))
@[simp] def qmt : AFn:=nG [(.cell 2 true 2)] (nS (nF [oP 2 (.new 2 (.agg nB))]) (nS (nF [mV 4 0,oA1 5 210 4,oM 3,oK 3 3 5 false]) (nS (nT [oQ 6 0 3,oJ 7 6,oQ 8 1 3,oJ 9 8,oQ 10 2 3,oJ 11 10,oA2 12 493 9 11,oP 13 (.build nB [(0,1,(.t 7)),(1,1,(.t 12))]),oK 2 2 13 true]) .ret)))
@[simp] def qeq : AFn:=nG [(.cell 6 true 2)] (nS (nF [oU 3 2 0,oU 4 2 1,oP 6 (.new 2 (.agg nB))]) (nS (nF [oQ 10 1 3,oJ 11 10,oQ 12 1 4,oJ 13 12,oA2 14 238 11 13,mV 9 14,oR 15 0 9,oR 16 1 9,mV 7 15,mV 8 16]) (nS (nT [oQ 17 0 3,oJ 18 17,oQ 19 0 4,oJ 20 19,oP 21 (.bin .bool .neq (.t 18) (.t 20)),mV 22 7,mV 23 2,oA2 24 504 22 23,oP 25 (.build nB [(0,1,(.t 21)),(1,1,(.t 24))]),oK 2 6 25 true]) .ret)))
@[simp] def qmx : AFn:=nG [(.cell 4 true 2)] (nS (nF [oU 2 2 0,oU 3 2 1,oP 4 (.new 2 (.agg nB))]) (nS (nF [oQ 10 1 2,oJ 11 10,oQ 12 1 3,oJ 13 12,oA2 14 240 11 13,mV 9 14,oR 15 0 9,oR 16 1 9,oR 17 2 9,mV 5 15,mV 6 16,mV 7 17]) (nS (nF [oQ 18 0 2,oJ 19 18,mV 20 5,oP 21 (.build nB [(0,1,(.t 19)),(1,1,(.t 20))]),oP 8 (.new 2 (.agg nB)),oK 2 8 21 false]) (nS (nS (nF [oQ 22 0 2,oJ 23 22,mV 24 23,oF 25 24 6,oD1 26 24 110 25,gT 27 24 (nX .gtr 26 0),oY 28 24 27]) (nC 28 (nT [oI 29 2 8,
 oP 30 (.call (.f 511) [(.c (.int .i64 (-1)))]),oB2 31 494 29 30,oK 2 8 31 true]) .skip)) (nR [oI 32 2 8,oK 2 4 32 false])))))
@[simp] def qfd : AFn:=nG [(.tmp 2)] (nS (nF [oU 1 2 0,oZ 2 false]) (nR [oQ 3 1 1,oJ 4 3,oA1 5 110 4,oO 6 .eql 5 0,mV 2 6]))
@[simp] def qct : AFn:=nG [(.tmp 4)] (nS (nF [oZ 4 false]) (nS (nS (nF [oA0 9 280,oW 10 9]) (nC 10 (nR [oZ 4 false]) .skip)) (nS (nS (nF [mV 11 1,mV 12 0,oP 13 (.bslice 1 1 .nil [(0,(.t 12))]),oA2 14 281 11 13]) (nC 14 (nR [oZ 4 true]) .skip)) (nS (nF [mV 16 0,mV 17 1,oA2 18 527 16 17,mV 15 18,oR 19 0 15,oR 20 1 15,mV 5 19,mV 6 20]) (nS (nS (nF [mV 21 0,oA1 22 285 21,oW 23 22]) (nC 23 (nR [mV 24 0,mV 25 1,oA2 26 311 24 25,oT 27 26,oO 28 .eql 27 0,
 mV 29 28,oF 30 29 0,oF 31 29 1,oD2 32 29 528 30 31,gT 33 29 (.len (.t 32)),gT 34 29 (nX .eql 33 0),oY 35 29 34,mV 36 35,oF 37 36 0,oF 38 36 1,oD2 39 36 529 37 38,gT 40 36 (.len (.t 39)),gT 41 36 (nX .eql 40 0),oY 42 36 41,mV 43 42,oF 44 43 5,gT 45 43 (.len (.t 44)),gT 46 43 (nX .eql 45 0),oY 47 43 46,mV 48 47,oF 49 48 6,gT 50 48 (.len (.t 49)),gT 51 48 (nX .eql 50 0),oY 52 48 51,mV 4 52]) .skip)) (nS (nT [mV 54 0,mV 55 0,oP 56 (.iaddr 7 (.t 55) (.c (.int .i64 0))),
 oI 57 7 56,mV 58 1,oA2 59 470 57 58,mV 60 0,oP 61 (.iaddr 7 (.t 60) (.c (.int .i64 0))),oI 62 7 61,mV 63 1,oB2 64 471 62 63,mV 65 1,oB4 66 530 54 59 64 65,mV 53 66,oR 67 0 53,oR 68 1 53,mV 7 67,mV 8 68]) (nS (nT [mV 69 5,mV 70 7,oB2 71 286 69 70,mV 72 71,oF 73 72 6,oF 74 72 8,⟨some 75,.call (.f 286) [(.t 73),(.t 74)],some (72,true),true⟩,oY 76 72 75,mV 77 76,oF 78 77 0,oF 79 77 1,⟨some 80,.call (.f 311) [(.t 78),(.t 79)],some (77,true),true⟩,oF 81 77 0,oF 82 77 1,⟨some 83,.call (.f 531) [(.t 81),(.t 82)],some (77,true),true⟩,⟨some 84,.call (.f 286) [(.t 80),(.t 83)],some (77,true),true⟩,
 oY 85 77 84,mV 86 85,oF 87 86 0,oF 88 86 1,oD2 89 86 528 87 88,oF 90 86 0,oF 91 86 0,gT 92 86 (.iaddr 7 (.t 91) (.c (.int .i64 0))),oH 93 86 true 7 92,oF 94 86 1,⟨some 95,.call (.f 416) [(.t 93),(.t 94)],some (86,true),true⟩,oF 96 86 1,⟨some 97,.call (.f 532) [(.t 90),(.t 95),(.t 96)],some (86,true),true⟩,⟨some 98,.call (.f 286) [(.t 89),(.t 97)],some (86,true),true⟩,oY 99 86 98,mV 100 99,oF 101 100 0,oF 102 100 1,oD2 103 100 529 101 102,oF 104 100 0,oF 105 100 0,gT 106 100 (.iaddr 7 (.t 105) (.c (.int .i64 0))),oH 107 100 true 7 106,oF 108 100 1,⟨some 109,.call (.f 411) [(.t 107),(.t 108)],some (100,true),true⟩,
 oF 110 100 1,⟨some 111,.call (.f 533) [(.t 104),(.t 109),(.t 110)],some (100,true),true⟩,⟨some 112,.call (.f 286) [(.t 103),(.t 111)],some (100,true),true⟩,oY 113 100 112,mV 4 113]) .ret)))))))
def qbp : AC:=(nS (nF [oN 81 .lss 80 79]) (nS (nC 81 .skip (.exit 0)) (nS (.block 1 (nS (nF [oV 82 2 78 80,oI 83 2 82,oP 13 (.new 2 (.agg [(.int .i64 0),.nil])),oK 2 13 83 false]) (nS (nT [oQ 84 0 13,oJ 85 84,mV 86 2,mV 87 0,mV 88 1,mV 89 3,oA5 90 538 85 86 87 88 89,oQ 91 1 13,oJ 92 91,oB2 93 286 90 92,oW 94 93]) (nC 94 (nR [oZ 8 false]) .skip)))) (nF [oO 95 .add 80 1,mV 80 95]))))
@[simp] def qc9 : AFn:=nG [(.tmp 8)] (nS (nF [oZ 8 false]) (nS (nS (nF [oA0 14 280,oW 15 14]) (nC 15 (nR [oZ 8 false]) .skip)) (nS (nS (nF [mV 16 3,mV 17 0,mV 18 1,oP 19 (.bslice 1 2 .nil [(0,(.t 17)),(1,(.t 18))]),oA2 20 281 16 19]) (nC 20 (nR [oZ 8 true]) .skip)) (nS (nF [mV 22 0,mV 23 3,oA2 24 527 22 23,mV 21 24,oR 25 0 21,oR 26 1 21,mV 9 25,mV 10 26]) (nS (nF [oP 11 (.mv (.c .nil))]) (nS (nS (nF [mV 27 0,oA1 28 285 27]) (nC 28 (nF [mV 29 0,
 oA1 30 537 29,mV 11 30]) .skip)) (nS (nS (nF [mV 31 0,mV 32 1,mV 33 3,oA3 34 294 31 32 33,oP 35 (.build [(.int .i64 0),.nil] [(0,1,(.c (.int .i64 3))),(1,1,(.t 34))]),mV 36 0,mV 37 1,mV 38 3,oA3 39 295 36 37 38,oP 40 (.build [(.int .i64 0),.nil] [(0,1,(.c (.int .i64 4))),(1,1,(.t 39))]),mV 41 0,mV 42 1,mV 43 3,oA3 44 302 41 42 43,oP 45 (.build [(.int .i64 0),.nil] [(0,1,(.c (.int .i64 5))),(1,1,(.t 44))]),mV 46 0,mV 47 1,mV 48 3,oA3 49 303 46 47 48,oP 50 (.build [(.int .i64 0),.nil] [(0,1,(.c (.int .i64 6))),(1,1,(.t 49))]),mV 51 11,oP 52 (.build [(.int .i64 0),.nil] [(0,1,(.c (.int .i64 7))),(1,1,(.t 51))]),
 mV 53 0,mV 54 2,mV 55 3,oA3 56 304 53 54 55,oP 57 (.build [(.int .i64 0),.nil] [(0,1,(.c (.int .i64 8))),(1,1,(.t 56))]),mV 58 0,mV 59 3,oA2 60 528 58 59,oP 61 (.build [(.int .i64 0),.nil] [(0,1,(.c (.int .i64 9))),(1,1,(.t 60))]),mV 62 0,mV 63 3,oA2 64 529 62 63,oP 65 (.build [(.int .i64 0),.nil] [(0,1,(.c (.int .i64 10))),(1,1,(.t 64))]),mV 66 9,oP 67 (.build [(.int .i64 0),.nil] [(0,1,(.c (.int .i64 11))),(1,1,(.t 66))]),mV 68 10,oP 69 (.build [(.int .i64 0),.nil] [(0,1,(.c (.int .i64 12))),(1,1,(.t 68))]),mV 70 0,mV 71 3,oA2 72 311 70 71,oP 73 (.build [(.int .i64 0),.nil] [(0,1,(.c (.int .i64 13))),(1,1,(.t 72))]),
 oP 74 (.build [(.int .i64 0),.nil] [(0,1,(.c (.int .i64 1))),(1,1,(.c .nil))]),oP 75 (.build [(.int .i64 0),.nil] [(0,1,(.c (.int .i64 2))),(1,1,(.c .nil))]),oP 76 (.build [(.int .i64 0),.nil] [(0,1,(.c (.int .i64 0))),(1,1,(.c .nil))]),oP 77 (.build [(.int .i64 0),.nil] [(0,1,(.c (.int .i64 14))),(1,1,(.c .nil))]),oP 78 (.bslice 2 15 (.agg [(.int .i64 0),.nil]) [(0,(.t 35)),(1,(.t 40)),(2,(.t 45)),(3,(.t 50)),(4,(.t 52)),(5,(.t 57)),(6,(.t 61)),(7,(.t 65)),(8,(.t 67)),(9,(.t 69)),(10,(.t 73)),(11,(.t 74)),(12,(.t 75)),(13,(.t 76)),(14,(.t 77))]),oT 79 78,oP 80 (nV 0)]) (.block 0 (.loop qbp))) (nR [oZ 8 true]))))))))
def qfy : AC:=(nS (nS (nF [oJ 34 6,oJ 35 2,oT 36 35,oN 37 .lss 34 36]) (nC 37 .skip (.exit 0))) (nS (.block 1 (nS (nF [oP 40 (.mkfn 539 [(.t 6),(.t 3),(.t 2)]),mV 7 40]) (nS (nF [mV 41 7,mV 42 5,oP 43 (.call (.t 41) [(.t 42)]),mV 44 7,mV 45 4,oP 46 (.call (.t 44) [(.t 45)]),oA1 47 147 46,oL 8,oL 9,oK 7 8 43 false,oK 7 9 47 false]) (nT [mV 48 4,oI 49 7 8,oP 50 (.plit 7 1 (.agg nI) [(0,(.t 49))]),oS 51 (.append 7 88 (.t 48) (.t 50)),mV 52 5,oP 53 (.sload true 7 9),
 oP 54 (.plit 7 1 (.agg nI) [(0,(.t 53))]),oS 55 (.append 7 88 (.t 52) (.t 54)),mV 4 51,mV 5 55])))) (nS (nS (nF [oJ 56 6]) (nF [oP 6 (.new 1 (.int .i64 0)),oK 1 6 56 false])) (nF [oJ 38 6,oO 39 .add 38 1,oK 1 6 39 false]))))
@[simp] def qjc : AFn:=nG [(.tmp 4),(.tmp 5)] (nS (nF [oU 2 1 0,oU 3 1 1,oP 4 (.mv (.c .nil)),oP 5 (.mv (.c .nil))]) (nS (nS (nF [oJ 10 2,oP 11 (.bslice 1 1 .nil [(0,(.t 10))]),oA1 12 315 11,oW 13 12]) (nC 13 (nR [oP 4 (.mv (.c .nil)),oP 5 (.mv (.c .nil))]) .skip)) (nS (nT [oJ 14 2,oT 15 14,oP 16 (.mkslice 7 88 (.agg [(.bool false),(.sl []),(.int .i64 0),(.bool false),(.sl []),(.int .i64 0),(.bool false)]) (.c (.int .i64 0)) (.t 15)),oJ 17 2,oP 18 (.iaddr 7 (.t 17) (.c (.int .i64 0))),oI 19 7 18,oJ 20 3,oA2 21 470 19 20,oP 22 (.bslice 7 1 (.agg nI) [(0,(.t 21))]),
 oS 23 (.append 7 88 (.t 16) (.t 22)),mV 4 23]) (nS (nT [oJ 24 2,oT 25 24,oP 26 (.mkslice 7 88 (.agg [(.bool false),(.sl []),(.int .i64 0),(.bool false),(.sl []),(.int .i64 0),(.bool false)]) (.c (.int .i64 0)) (.t 25)),oJ 27 2,oP 28 (.iaddr 7 (.t 27) (.c (.int .i64 0))),oI 29 7 28,oJ 30 3,oA2 31 471 29 30,oP 32 (.bslice 7 1 (.agg nI) [(0,(.t 31))]),oS 33 (.append 7 88 (.t 26) (.t 32)),mV 5 33]) (nS (nS (nF [oP 6 (.new 1 (.int .i64 0)),⟨none,.store 1 (.t 6) (.c (.int .i64 1)),none,false⟩]) (.block 0 (.loop qfy))) (nR [mV 57 4,
 mV 58 5,mV 4 57,mV 5 58]))))))
def qjg : AC:=(nS (nS (nF [oJ 23 6,oJ 24 2,oT 25 24,oN 26 .lss 23 25]) (nC 26 .skip (.exit 0))) (nS (.block 1 (nS (nF [oJ 29 6,oJ 30 3,oP 31 (.mkfn 541 [(.t 2),(.t 3),(.t 5),(.t 6)]),oP 32 (.call (.f 322) [(.c (.int .i64 1)),(.t 29),(.t 30),(.t 31)]),oL 7,oK 7 7 32 false]) (nT [oJ 33 5,oI 34 7 7,oJ 35 6,oA1 36 316 35,oJ 37 3,oA3 38 142 34 36 37,oP 39 (.bslice 7 1 (.agg nI) [(0,(.t 38))]),oS 40 (.append 7 88 (.t 33) (.t 39)),oK 1 5 40 true]))) (nS (nS (nF [oJ 41 6]) (nF [oP 6 (.new 1 (.int .i64 0)),
 oK 1 6 41 false])) (nF [oJ 27 6,oO 28 .add 27 1,oK 1 6 28 false]))))
@[simp] def qp2 : AFn:=nG [(.tmp 4)] (nS (nF [oU 2 1 0,oU 3 1 1,oP 4 (.mv (.c .nil))]) (nS (nS (nF [oJ 8 2,oP 9 (.bslice 1 1 .nil [(0,(.t 8))]),oA1 10 315 9,oW 11 10]) (nC 11 (nR [oP 4 (.mv (.c .nil))]) .skip)) (nS (nF [oJ 12 2,oT 13 12,oP 14 (.mkslice 7 88 (.agg [(.bool false),(.sl []),(.int .i64 0),(.bool false),(.sl []),(.int .i64 0),(.bool false)]) (.c (.int .i64 0)) (.t 13)),oP 5 (.new 1 .nil),oK 1 5 14 false]) (nS (nT [oJ 15 5,oJ 16 2,oP 17 (.iaddr 7 (.t 16) (.c (.int .i64 0))),oI 18 7 17,oJ 19 3,oA2 20 416 18 19,
 oP 21 (.bslice 7 1 (.agg nI) [(0,(.t 20))]),oS 22 (.append 7 88 (.t 15) (.t 21)),oK 1 5 22 true]) (nS (nS (nF [oP 6 (.new 1 (.int .i64 0)),⟨none,.store 1 (.t 6) (.c (.int .i64 1)),none,false⟩]) (.block 0 (.loop qjg))) (nR [oJ 42 5,mV 4 42]))))))
def qjf : AC:=(nS (nS (nF [mV 31 8,mV 32 6,oN 33 .lss 31 32]) (nC 33 .skip (.exit 2))) (nS (.block 3 (nT [oI 36 7 7,mV 37 8,oA1 38 316 37,mV 39 5,mV 40 8,oV 41 7 39 40,oI 42 7 41,mV 43 1,oA3 44 140 38 42 43,mV 45 0,mV 46 6,mV 47 8,oN 48 .sub 46 47,oV 49 7 45 48,oI 50 7 49,mV 51 1,oA3 52 140 44 50 51,mV 53 1,oB3 54 138 36 52 53,oK 7 7 54 true])) (nF [mV 34 8,oO 35 .add 34 1,mV 8 35])))
def qje : AC:=(nS (nS (nF [mV 24 6,mV 25 0,oT 26 25,oN 27 .lss 24 26]) (nC 27 .skip (.exit 0))) (nS (.block 1 (nS (nF [oP 30 (.call (.f 316) [(.c (.int .i64 0))]),oL 7,oK 7 7 30 false]) (nS (nS (nF [oP 8 (nV 1)]) (.block 2 (.loop qjf))) (nS (nT [mV 55 0,mV 56 6,oV 57 7 55 56,oI 58 7 57,oI 59 7 7,mV 60 6,oA1 61 316 60,mV 62 1,oA3 63 142 59 61 62,mV 64 1,oB3 65 139 58 63 64,oK 7 7 65 true]) (nT [mV 66 5,oI 67 7 7,mV 68 0,oP 69 (.iaddr 7 (.t 68) (.c (.int .i64 0))),oI 70 7 69,mV 71 1,oB3 72 142 67 70 71,oS 73 (.bslice 7 1 (.agg nI) [(0,(.t 72))]),
 oS 74 (.append 7 88 (.t 66) (.t 73)),mV 5 74]))))) (nF [mV 28 6,oO 29 .add 28 1,mV 6 29])))
@[simp] def qp1 : AFn:=nG [(.tmp 4)] (nS (nF [oP 4 (.mv (.c .nil))]) (nS (nS (nF [mV 9 0,oP 10 (.bslice 1 1 .nil [(0,(.t 9))]),oA1 11 315 10,oW 12 11]) (nC 12 (nR [oP 4 (.mv (.c .nil))]) .skip)) (nS (nF [mV 13 0,oT 14 13,oP 15 (.mkslice 7 88 (.agg [(.bool false),(.sl []),(.int .i64 0),(.bool false),(.sl []),(.int .i64 0),(.bool false)]) (.c (.int .i64 0)) (.t 14)),mV 5 15]) (nS (nF [mV 16 5,mV 17 0,oP 18 (.iaddr 7 (.t 17) (.c (.int .i64 0))),oI 19 7 18,mV 20 1,oA2 21 411 19 20,oP 22 (.bslice 7 1 (.agg nI) [(0,(.t 21))]),
 oP 23 (.append 7 88 (.t 16) (.t 22)),mV 5 23]) (nS (nS (nF [oP 6 (nV 1)]) (.block 0 (.loop qje))) (nR [mV 75 5,mV 4 75]))))))
def qe9 : AC:=(nS (nS (nF [mV 46 15,mV 47 12,oN 48 .leq 46 47]) (nC 48 .skip (.exit 2))) (nS (.block 3 (nS (nT [oI 51 7 13,mV 52 15,mV 53 0,mV 54 15,oV 55 7 53 54,oI 56 7 55,mV 57 11,mV 58 12,mV 59 15,oN 60 .sub 58 59,oV 61 7 57 60,oI 62 7 61,mV 63 3,oA4 64 542 52 56 62 63,mV 65 3,oB3 66 145 51 64 65,oK 7 13 66 true]) (nT [oI 67 7 14,mV 68 15,mV 69 0,mV 70 15,oV 71 7 69 70,oI 72 7 71,mV 73 10,mV 74 12,mV 75 15,oN 76 .sub 74 75,oV 77 7 73 76,oI 78 7 77,mV 79 3,oA4 80 542 68 72 78 79,mV 81 3,oB3 82 145 67 80 81,oK 7 14 82 true]))) (nF [mV 49 15,
 oO 50 .add 49 1,mV 15 50])))
def qe8 : AC:=(nS (nS (nF [mV 20 12,mV 21 0,oT 22 21,oN 23 .lss 20 22]) (nC 23 .skip (.exit 0))) (nS (.block 1 (nS (nT [mV 26 0,oP 27 (.iaddr 7 (.t 26) (.c (.int .i64 1))),oI 28 7 27,mV 29 11,mV 30 12,oO 31 .sub 30 1,oV 32 7 29 31,oI 33 7 32,mV 34 3,oP 35 (.call (.f 542) [(.c (.int .i64 1)),(.t 28),(.t 33),(.t 34)]),mV 36 0,oP 37 (.iaddr 7 (.t 36) (.c (.int .i64 1))),oI 38 7 37,mV 39 10,mV 40 12,oO 41 .sub 40 1,oV 42 7 39 41,oI 43 7 42,mV 44 3,oP 45 (.call (.f 542) [(.c (.int .i64 1)),(.t 38),(.t 43),(.t 44)]),oL 13,oL 14,oK 7 13 35 true,oK 7 14 45 true]) (nS (nS (nF [oP 15 (nV 2)]) (.block 2 (.loop qe9))) (nS (nT [mV 83 10,
 oI 84 7 13,mV 85 12,oA1 86 293 85,mV 87 3,oB3 88 175 84 86 87,oS 89 (.bslice 7 1 (.agg nI) [(0,(.t 88))]),oS 90 (.append 7 88 (.t 83) (.t 89)),mV 10 90]) (nT [mV 91 11,oI 92 7 14,mV 93 12,oA1 94 293 93,mV 95 3,oB3 96 175 92 94 95,oB1 97 148 96,oS 98 (.bslice 7 1 (.agg nI) [(0,(.t 97))]),oS 99 (.append 7 88 (.t 91) (.t 98)),mV 11 99]))))) (nF [mV 24 12,oO 25 .add 24 1,mV 12 25])))
@[simp] def qhw : AFn:=nG [(.tmp 8),(.tmp 9)] (nS (nF [oU 5 7 1,oU 6 7 2,oP 8 (.mv (.c .nil)),oP 9 (.mv (.c .nil))]) (nS (nT [oI 16 7 5,oP 17 (.bslice 7 1 (.agg nI) [(0,(.t 16))]),oI 18 7 6,oP 19 (.bslice 7 1 (.agg nI) [(0,(.t 18))]),mV 10 17,mV 11 19]) (nS (nS (nF [oP 12 (nV 1)]) (.block 0 (.loop qe8))) (nR [mV 100 10,mV 101 11,mV 8 100,mV 9 101]))))
def qgm : AC:=(nS (nS (nF [mV 25 8,mV 26 6,oN 27 .lss 25 26]) (nC 27 .skip (.exit 2))) (nS (.block 3 (nT [oI 30 7 7,mV 31 5,mV 32 8,oV 33 7 31 32,oI 34 7 33,mV 35 5,mV 36 6,mV 37 8,oN 38 .sub 36 37,oV 39 7 35 38,oI 40 7 39,mV 41 1,oA3 42 154 34 40 41,mV 43 1,oB3 44 146 30 42 43,oK 7 7 44 true])) (nF [mV 28 8,oO 29 .add 28 1,mV 8 29])))
def qgl : AC:=(nS (nS (nF [mV 15 6,mV 16 0,oT 17 16,oN 18 .lss 15 17]) (nC 18 .skip (.exit 0))) (nS (.block 1 (nS (nF [mV 21 0,mV 22 6,oV 23 7 21 22,oI 24 7 23,oL 7,oK 7 7 24 false]) (nS (nS (nF [oP 8 (nV 1)]) (.block 2 (.loop qgm))) (nT [mV 45 5,oI 46 7 7,mV 47 5,oP 48 (.iaddr 7 (.t 47) (.c (.int .i64 0))),oI 49 7 48,oP 50 (.call (.f 159) [(.t 49),(.c (.int .i64 1))]),mV 51 1,oB3 52 175 46 50 51,oS 53 (.bslice 7 1 (.agg nI) [(0,(.t 52))]),
 oS 54 (.append 7 88 (.t 45) (.t 53)),mV 5 54])))) (nF [mV 19 6,oO 20 .add 19 1,mV 6 20])))
@[simp] def ql5 : AFn:=nG [(.tmp 4)] (nS (nF [oP 4 (.mv (.c .nil))]) (nS (nF [mV 9 0,oP 10 (.iaddr 7 (.t 9) (.c (.int .i64 0))),oI 11 7 10,mV 12 1,oA2 13 177 11 12,oP 14 (.bslice 7 1 (.agg nI) [(0,(.t 13))]),mV 5 14]) (nS (nS (nF [oP 6 (nV 1)]) (.block 0 (.loop qgl))) (nR [mV 55 5,mV 4 55]))))
def qh1 : AC:=(nS (nS (nF [mV 29 10,mV 30 8,oN 31 .leq 29 30]) (nC 31 .skip (.exit 2))) (nS (.block 3 (nT [oI 34 7 9,mV 35 10,mV 36 0,mV 37 10,oV 38 7 36 37,oI 39 7 38,mV 40 7,mV 41 8,mV 42 10,oN 43 .sub 41 42,oV 44 7 40 43,oI 45 7 44,mV 46 2,oA4 47 542 35 39 45 46,mV 48 2,oB3 49 145 34 47 48,oK 7 9 49 true])) (nF [mV 32 10,oO 33 .add 32 1,mV 10 33])))
def qh0 : AC:=(nS (nS (nF [mV 13 8,mV 14 0,oT 15 14,oN 16 .lss 13 15]) (nC 16 .skip (.exit 0))) (nS (.block 1 (nS (nT [mV 19 0,oP 20 (.iaddr 7 (.t 19) (.c (.int .i64 1))),oI 21 7 20,mV 22 7,mV 23 8,oO 24 .sub 23 1,oV 25 7 22 24,oI 26 7 25,mV 27 2,oP 28 (.call (.f 542) [(.c (.int .i64 1)),(.t 21),(.t 26),(.t 27)]),oL 9,oK 7 9 28 true]) (nS (nS (nF [oP 10 (nV 2)]) (.block 2 (.loop qh1))) (nT [mV 50 7,oI 51 7 9,mV 52 8,oA1 53 293 52,mV 54 2,oB3 55 175 51 53 54,oS 56 (.bslice 7 1 (.agg nI) [(0,(.t 55))]),
 oS 57 (.append 7 88 (.t 50) (.t 56)),mV 7 57])))) (nF [mV 17 8,oO 18 .add 17 1,mV 8 18])))
@[simp] def qob : AFn:=nG [(.tmp 6)] (nS (nF [oU 4 7 1,oP 6 (.mv (.c .nil))]) (nS (nF [oI 11 7 4,oP 12 (.bslice 7 1 (.agg nI) [(0,(.t 11))]),mV 7 12]) (nS (nS (nF [oP 8 (nV 1)]) (.block 0 (.loop qh0))) (nR [mV 58 7,mV 6 58]))))
def qhz : AC:=(nS (nS (nF [mV 20 10,mV 21 8,oN 22 .lss 20 21]) (nC 22 .skip (.exit 2))) (nS (.block 3 (nT [oI 25 7 9,mV 26 10,mV 27 7,mV 28 10,oV 29 7 27 28,oI 30 7 29,mV 31 0,mV 32 8,mV 33 10,oN 34 .sub 32 33,oV 35 7 31 34,oI 36 7 35,mV 37 2,oA4 38 542 26 30 36 37,mV 39 2,oB3 40 145 25 38 39,oK 7 9 40 true])) (nF [mV 23 10,oO 24 .add 23 1,mV 10 24])))
def qhy : AC:=(nS (nS (nF [mV 13 8,mV 14 0,oT 15 14,oN 16 .lss 13 15]) (nC 16 .skip (.exit 0))) (nS (.block 1 (nS (nF [oP 19 (.call (.f 293) [(.c (.int .i64 0))]),oL 9,oK 7 9 19 false]) (nS (nS (nF [oP 10 (nV 1)]) (.block 2 (.loop qhz))) (nT [mV 41 7,mV 42 0,mV 43 8,oV 44 7 42 43,oI 45 7 44,oI 46 7 9,mV 47 8,oA1 48 293 47,mV 49 2,oA3 50 175 46 48 49,mV 51 2,oA3 52 146 45 50 51,mV 53 0,oP 54 (.iaddr 7 (.t 53) (.c (.int .i64 0))),oI 55 7 54,mV 56 2,oB3 57 175 52 55 56,oS 58 (.bslice 7 1 (.agg nI) [(0,(.t 57))]),
 oS 59 (.append 7 88 (.t 41) (.t 58)),mV 7 59])))) (nF [mV 17 8,oO 18 .add 17 1,mV 8 18])))
@[simp] def qoa : AFn:=nG [(.tmp 6)] (nS (nF [oU 4 7 1,oP 6 (.mv (.c .nil))]) (nS (nF [oI 11 7 4,oP 12 (.bslice 7 1 (.agg nI) [(0,(.t 11))]),mV 7 12]) (nS (nS (nF [oP 8 (nV 1)]) (.block 0 (.loop qhy))) (nR [mV 60 7,mV 6 60]))))
def qhx : AC:=(nS (nS (nF [mV 5 4,mV 6 0,oT 7 6,oN 8 .lss 5 7]) (nC 8 .skip (.exit 0))) (nS (.block 1 (nF [mV 11 3,mV 12 0,mV 13 4,oV 14 7 12 13,oI 15 7 14,oA1 16 148 15,oP 17 (.bslice 7 1 (.agg nI) [(0,(.t 16))]),oP 18 (.append 7 88 (.t 11) (.t 17)),mV 3 18])) (nF [mV 9 4,oO 10 .add 9 1,mV 4 10])))
@[simp] def qn9 : AFn:=nG [(.tmp 2)] (nS (nF [oP 2 (.mv (.c .nil))]) (nS (nF [oP 3 (.mv (.c .nil))]) (nS (nS (nF [oP 4 (nV 0)]) (.block 0 (.loop qhx))) (nR [mV 19 3,mV 2 19]))))
@[simp] def qlp : AFn:=nG [(.tmp 10)] (nS (nF [oP 10 (.mv (.c .nil))]) (nS (nS (nF [mV 15 0]) (.block 0 (nS (nF [oO 17 .eql 15 3,mV 16 17]) (nC 16 (nR [mV 18 2,mV 19 3,mV 20 4,oA3 21 294 18 19 20,mV 10 21]) (nS (nF [oO 23 .eql 15 4,mV 22 23]) (nC 22 (nR [mV 24 2,mV 25 3,mV 26 4,oA3 27 295 24 25 26,mV 10 27]) (nS (nF [oO 29 .eql 15 5,mV 28 29]) (nC 28 (nR [mV 30 2,mV 31 3,mV 32 4,oA3 33 302 30 31 32,mV 10 33]) (nS (nF [oO 35 .eql 15 6,
 mV 34 35]) (nC 34 (nR [mV 36 2,mV 37 3,mV 38 4,oA3 39 303 36 37 38,mV 10 39]) (nS (nF [oO 41 .eql 15 7,mV 40 41]) (nC 40 (nR [mV 42 2,oA1 43 544 42,mV 10 43]) (nS (nF [oO 45 .eql 15 8,mV 44 45]) (nC 44 (nR [mV 46 2,mV 47 1,mV 48 4,oA3 49 304 46 47 48,mV 10 49]) (nS (nF [oO 51 .eql 15 9,mV 50 51]) (nC 50 (nR [mV 52 2,mV 53 4,oA2 54 528 52 53,mV 10 54]) (nS (nF [oO 56 .eql 15 10,mV 55 56]) (nC 55 (nR [mV 57 2,
 mV 58 4,oA2 59 529 57 58,mV 10 59]) (nS (nF [oO 61 .eql 15 11,mV 60 61]) (nC 60 (nS (nF [mV 63 2,mV 64 4,oA2 65 527 63 64,mV 62 65,oR 66 0 62,oR 67 1 62,mV 11 66,mV 12 67]) (nR [mV 68 11,mV 10 68])) (nS (nF [oO 70 .eql 15 12,mV 69 70]) (nC 69 (nS (nF [mV 72 2,mV 73 4,oA2 74 527 72 73,mV 71 74,oR 75 0 71,oR 76 1 71,mV 13 75,mV 14 76]) (nR [mV 77 14,mV 10 77])) (nS (nF [oO 79 .eql 15 13,mV 78 79]) (nC 78 (nR [mV 80 2,mV 81 4,oA2 82 311 80 81,
 mV 10 82]) .skip)))))))))))))))))))))))) (nR [oP 10 (.mv (.c .nil))])))
@[simp] def qgg : AFn:=⟨[(.cell 5 true 7)],(nS (nF [oU 4 1 0,oL 5]) (nS (nF [oJ 7 1,oJ 8 2,oP 9 (.mkfn 540 [(.t 3),(.t 2),(.t 4),(.t 1)]),oP 10 (.call (.f 322) [(.c (.int .i64 1)),(.t 7),(.t 8),(.t 9)]),oL 6,oK 7 6 10 false]) (nS (nT [oI 11 7 6,oJ 12 1,oA1 13 316 12,oJ 14 2,oB3 15 142 11 13 14,oK 7 5 15 true]) .ret))),false,true⟩
@[simp] def qe7 : AFn:=nG [(.cell 6 true 7)] (nS (nF [oL 6]) (nS (nT [mV 7 0,oA1 8 316 7,oJ 9 1,mV 10 0,oV 11 7 9 10,oI 12 7 11,oJ 13 2,oA3 14 140 8 12 13,oJ 15 3,oJ 16 4,mV 17 0,oN 18 .sub 16 17,oV 19 7 15 18,oI 20 7 19,oJ 21 2,oB3 22 140 14 20 21,oK 7 6 22 true]) .ret))
@[simp] def qdj : AFn:=nG [(.cell 6 true 7)] (nS (nF [oL 6]) (nS (nT [mV 7 0,oA1 8 316 7,oJ 9 1,mV 10 0,oV 11 7 9 10,oI 12 7 11,oJ 13 2,oA3 14 140 8 12 13,oJ 15 3,oJ 16 4,mV 17 0,oN 18 .sub 16 17,oV 19 7 15 18,oI 20 7 19,oJ 21 2,oB3 22 140 14 20 21,oK 7 6 22 true]) .ret))
@[simp] def qjy : AFn:=nG [(.cell 8 true 7)] (nS (nF [oU 5 7 1,oU 6 7 2,oL 8]) (nS (nT [mV 9 0,oA1 10 293 9,oI 11 7 5,mV 12 3,oA3 13 154 10 11 12,oI 14 7 6,mV 15 3,oB3 16 154 13 14 15,oK 7 8 16 true]) .ret))
@[simp] def qpy : AFn:=nG [(.tmp 2)] (nS (nF [oP 2 (.mv (.c .nil))]) (nR [mV 3 0,mV 4 0,oP 5 (.call (.f 318) [(.t 3),(.t 4),(.f 548)]),mV 2 5]))
@[simp] def qlk : AFn:=nG [(.cell 4 true 7)] (nS (nF [oU 2 7 0,oU 3 7 1,oL 4]) (nR [oI 5 7 2,oA1 6 147 5,oK 7 4 6 false]))
abbrev qxu : Nat:=12
abbrev qsu : Nat:=18
abbrev qxw : Nat:=23
abbrev qlf : Nat:=49
abbrev qz1 : Nat:=51
abbrev q5v : Nat:=52
abbrev qzv : Nat:=54
abbrev q25 : Nat:=55
abbrev q26 : Nat:=56
abbrev q27 : Nat:=57
abbrev qxn : Nat:=60
abbrev qtr : Nat:=63
abbrev qg8 : Nat:=67
abbrev qxk : Nat:=70
abbrev q28 : Nat:=74
abbrev qu4 : Nat:=77
abbrev qvg : Nat:=78
abbrev q3e : Nat:=79
abbrev qvh : Nat:=80
abbrev qi3 : Nat:=82
abbrev qzu : Nat:=84
abbrev q5r : Nat:=85
abbrev qzt : Nat:=86
abbrev qxt : Nat:=87
abbrev qi2 : Nat:=89
abbrev qxd : Nat:=90
abbrev qzk : Nat:=91
abbrev qzl : Nat:=92
abbrev qxh : Nat:=93
abbrev qxe : Nat:=94
abbrev qsr : Nat:=96
abbrev q3d : Nat:=97
abbrev q5t : Nat:=98
abbrev qsq : Nat:=99
abbrev qvf : Nat:=100
abbrev qdi : Nat:=101
abbrev qxq : Nat:=102
abbrev qxs : Nat:=103
abbrev qw7 : Nat:=104
abbrev qw9 : Nat:=105
abbrev qu1 : Nat:=106
abbrev qu3 : Nat:=107
abbrev qxi : Nat:=108
abbrev qxj : Nat:=109
abbrev qrf : Nat:=110
abbrev qre : Nat:=111
abbrev qsp : Nat:=112
abbrev qm5 : Nat:=113
abbrev qy9 : Nat:=114
abbrev qle : Nat:=115
abbrev q2l : Nat:=116
abbrev qhc : Nat:=117
abbrev qux : Nat:=118
abbrev qq2 : Nat:=119
abbrev qks : Nat:=120
abbrev qzh : Nat:=138
abbrev qzb : Nat:=139
abbrev qzd : Nat:=140
abbrev qtq : Nat:=141
abbrev qzg : Nat:=142
abbrev q20 : Nat:=145
abbrev q2w : Nat:=146
abbrev qzc : Nat:=147
abbrev q2x : Nat:=148
abbrev qu6 : Nat:=149
abbrev qu8 : Nat:=152
abbrev qxm : Nat:=153
abbrev q2y : Nat:=154
abbrev qzi : Nat:=156
abbrev qu5 : Nat:=158
abbrev qxl : Nat:=159
abbrev qu2 : Nat:=160
abbrev qzf : Nat:=164
abbrev qze : Nat:=165
abbrev qxc : Nat:=173
abbrev qzp : Nat:=174
abbrev q2z : Nat:=175
abbrev qxb : Nat:=176
abbrev qzo : Nat:=177
abbrev qu7 : Nat:=178
abbrev qxv : Nat:=182
abbrev qtt : Nat:=184
abbrev qts : Nat:=185
abbrev qq3 : Nat:=186
abbrev qw4 : Nat:=187
abbrev q2i : Nat:=188
abbrev qw8 : Nat:=189
abbrev qxa : Nat:=190
abbrev qi4 : Nat:=191
abbrev qnn : Nat:=192
abbrev qpk : Nat:=193
abbrev qso : Nat:=194
abbrev qzq : Nat:=195
abbrev q24 : Nat:=196
abbrev qzm : Nat:=197
abbrev q5u : Nat:=198
abbrev qui : Nat:=199
abbrev q0z : Nat:=200
abbrev qzn : Nat:=202
abbrev q21 : Nat:=203
abbrev qz2 : Nat:=204
abbrev q5w : Nat:=205
abbrev q22 : Nat:=206
abbrev quw : Nat:=207
abbrev qy7 : Nat:=208
abbrev qzr : Nat:=209
abbrev quk : Nat:=210
abbrev qrg : Nat:=211
abbrev qst : Nat:=214
abbrev qxr : Nat:=215
abbrev q8a : Nat:=216
abbrev q78 : Nat:=217
abbrev q79 : Nat:=218
abbrev qxo : Nat:=219
abbrev qxp : Nat:=220
abbrev qdv : Nat:=221
abbrev q2g : Nat:=222
abbrev qtw : Nat:=223
abbrev qvi : Nat:=224
abbrev qsx : Nat:=225
abbrev qzy : Nat:=226
abbrev qva : Nat:=227
abbrev q3b : Nat:=228
abbrev q23 : Nat:=229
abbrev q5q : Nat:=230
abbrev qzx : Nat:=231
abbrev qsv : Nat:=232
abbrev q3c : Nat:=233
abbrev qu0 : Nat:=234
abbrev q2h : Nat:=235
abbrev qw1 : Nat:=236
abbrev qy6 : Nat:=237
abbrev q2q : Nat:=238
abbrev q3g : Nat:=239
abbrev quz : Nat:=240
abbrev q77 : Nat:=241
abbrev qzs : Nat:=242
abbrev qabv : Nat:=243
abbrev qve : Nat:=244
abbrev q5s : Nat:=245
abbrev q2p : Nat:=246
abbrev qev : Nat:=247
abbrev qzw : Nat:=248
abbrev quj : Nat:=249
abbrev q3a : Nat:=250
abbrev qsw : Nat:=251
abbrev qss : Nat:=252
abbrev qza : Nat:=253
abbrev qw3 : Nat:=254
abbrev qw2 : Nat:=255
abbrev q76 : Nat:=256
abbrev q2r : Nat:=257
abbrev q2o : Nat:=258
abbrev q2m : Nat:=259
abbrev quy : Nat:=260
abbrev qi5 : Nat:=261
abbrev q2k : Nat:=262
abbrev q29 : Nat:=263
abbrev q2n : Nat:=264
abbrev q3f : Nat:=265
abbrev q2j : Nat:=266
abbrev qw5 : Nat:=267
abbrev qkt : Nat:=268
abbrev qw6 : Nat:=269
abbrev qy8 : Nat:=270
abbrev qtp : Nat:=271
abbrev qtn : Nat:=272
abbrev qto : Nat:=273
abbrev qpl : Nat:=274
abbrev qxy : Nat:=280
abbrev qxx : Nat:=281
abbrev qxg : Nat:=285
abbrev qrh : Nat:=286
abbrev qm4 : Nat:=290
abbrev qtl : Nat:=291
abbrev q2s : Nat:=293
abbrev quh : Nat:=294
abbrev quc : Nat:=295
abbrev qud : Nat:=302
abbrev qug : Nat:=303
abbrev qrd : Nat:=304
abbrev qsn : Nat:=311
abbrev qge : Nat:=312
abbrev qtu : Nat:=313
abbrev qro : Nat:=314
abbrev q5p : Nat:=315
abbrev qy2 : Nat:=316
abbrev q2f : Nat:=318
abbrev qy5 : Nat:=319
abbrev qy4 : Nat:=320
abbrev qpi : Nat:=322
abbrev qlc : Nat:=323
abbrev qnm : Nat:=324
abbrev qg0 : Nat:=325
abbrev qfq : Nat:=326
abbrev qip : Nat:=327
abbrev qfh : Nat:=330
abbrev qzz : Nat:=411
abbrev qz0 : Nat:=416
abbrev qx1 : Nat:=423
abbrev qxz : Nat:=429
abbrev qx0 : Nat:=430
abbrev qq4 : Nat:=431
abbrev qrp : Nat:=437
abbrev qvc : Nat:=438
abbrev qvd : Nat:=442
abbrev qpn : Nat:=443
abbrev qpp : Nat:=444
abbrev qvb : Nat:=445
abbrev qpq : Nat:=446
abbrev qpm : Nat:=447
abbrev qm6 : Nat:=448
abbrev qnp : Nat:=449
abbrev qtv : Nat:=450
abbrev qpo : Nat:=451
abbrev q5x : Nat:=470
abbrev q5y : Nat:=471
abbrev qvk : Nat:=480
abbrev q3i : Nat:=481
abbrev q8b : Nat:=482
abbrev q3k : Nat:=486
abbrev q3j : Nat:=493
abbrev qsy : Nat:=494
abbrev qq6 : Nat:=495
abbrev qvl : Nat:=496
abbrev q3h : Nat:=499
abbrev qz4 : Nat:=500
abbrev qz5 : Nat:=501
abbrev qx3 : Nat:=503
abbrev qz3 : Nat:=504
abbrev qik : Nat:=506
abbrev qtx : Nat:=507
abbrev qfr : Nat:=508
abbrev qvj : Nat:=509
abbrev qx2 : Nat:=510
abbrev qlh : Nat:=511
abbrev qq5 : Nat:=512
abbrev qz6 : Nat:=513
abbrev qrq : Nat:=514
abbrev qlg : Nat:=518
abbrev qno : Nat:=521
abbrev qpj : Nat:=527
abbrev quf : Nat:=528
abbrev que : Nat:=529
abbrev qu9 : Nat:=530
abbrev qzj : Nat:=531
abbrev q2v : Nat:=532
abbrev q2u : Nat:=533
abbrev q2t : Nat:=537
abbrev qld : Nat:=538
abbrev qtm : Nat:=539
abbrev qc2 : Nat:=540
abbrev qgz : Nat:=541
abbrev qxf : Nat:=542
abbrev q5o : Nat:=544
abbrev qy3 : Nat:=548
def fnList : List (Nat × AFn):=
 [(12,qkd),
  (18,qoo),
  (23,qkf),
  (49,qmi),
  (51,qmr),
  (52,qqd),
  (54,qmj),
  (55,qok),
  (56,qol),
  (57,qom),
  (60,qj6),
  (63,qgo),
  (67,qbu),
  (70,qj3),
  (74,qon),
  (77,qhr),
  (78,qic),
  (79,qow),
  (80,qid),
  (82,qce),
  (84,qmh),
  (85,qp7),
  (86,qmg),
  (87,qkc),
  (89,qcd),
  (90,qjw),
  (91,ql6),
  (92,ql7),
  (93,qj0),
  (94,qjx),
  (96,qf0),
  (97,qov),
  (98,qqa),
  (99,qir),
  (100,qib),
  (101,qmf),
  (102,qj9),
  (103,qkb),
  (104,qjq),
  (105,qjs),
  (106,qho),
  (107,qhq),
  (108,qj1),
  (109,qj2),
  (110,qg3),
  (111,qex),
  (112,qn5),
  (113,qee),
  (114,qlt),
  (115,qlu),
  (116,qiq),
  (117,qb0),
  (118,qhk),
  (119,qem),
  (120,qch),
  (138,ql3),
  (139,qlx),
  (140,qlz),
  (141,qgk),
  (142,ql2),
  (145,qog),
  (146,qoc),
  (147,qly),
  (148,qod),
  (149,qht),
  (152,qhv),
  (153,qj5),
  (154,qoe),
  (156,ql4),
  (158,qhs),
  (159,qj4),
  (160,qhp),
  (164,ql1),
  (165,ql0),
  (173,qjv),
  (174,qmb),
  (175,qof),
  (176,qju),
  (177,qma),
  (178,qhu),
  (182,qke),
  (184,qgr),
  (185,qgq),
  (186,qen),
  (187,qjl),
  (188,qny),
  (189,qjr),
  (190,qjt),
  (191,qjj),
  (192,qnw),
  (193,qjk),
  (194,qnx),
  (195,qmc),
  (196,qoj),
  (197,ql8),
  (198,qqb),
  (199,qp6),
  (200,qt2),
  (202,ql9),
  (203,qoh),
  (204,qms),
  (205,qqe),
  (206,qoi),
  (207,qhh),
  (208,qls),
  (209,qmd),
  (210,qqc),
  (211,qlw),
  (214,qf6),
  (215,qka),
  (216,c_round_add),
  (217,qrz),
  (218,qr0),
  (219,qj7),
  (220,qj8),
  (221,qdx),
  (222,qnu),
  (223,qgv),
  (224,qie),
  (225,qf7),
  (226,qmn),
  (227,qh6),
  (228,qor),
  (229,c_fpref03_Cut),
  (230,qp5),
  (231,qmm),
  (232,qot),
  (233,qos),
  (234,qhn),
  (235,qnv),
  (236,c_round_sum),
  (237,qlr),
  (238,qn6),
  (239,qoy),
  (240,qhm),
  (241,qry),
  (242,qme),
  (243,qt1),
  (244,qia),
  (245,qp9),
  (246,qn4),
  (247,qml),
  (248,qmk),
  (249,qp8),
  (250,qoq),
  (251,qou),
  (252,qf1),
  (253,qlv),
  (254,c_round_cut),
  (255,qji),
  (256,qrx),
  (257,qn7),
  (258,qn3),
  (259,qn1),
  (260,qhl),
  (261,qcf),
  (262,qn0),
  (263,qop),
  (264,qn2),
  (265,qox),
  (266,qnz),
  (267,qjm),
  (268,qci),
  (269,qjn),
  (270,qg2),
  (271,qgj),
  (272,qgh),
  (273,qgi),
  (274,qjp),
  (280,qkh),
  (281,qkg),
  (285,qjz),
  (286,qmo),
  (290,qeb),
  (291,qgf),
  (293,qn8),
  (294,qp4),
  (295,qp0),
  (302,qk7),
  (303,qp3),
  (304,qlm),
  (311,qnt),
  (312,qbr),
  (313,qgt),
  (314,qfb),
  (315,qpz),
  (316,qlj),
  (318,qns),
  (319,qlq),
  (320,qll),
  (322,qpx),
  (323,qln),
  (324,qnr),
  (325,qlo),
  (326,qjb),
  (327,qb5),
  (330,qbx),
  (411,qmp),
  (416,qmq),
  (423,qkk),
  (429,qki),
  (430,qkj),
  (431,qeo),
  (437,qfc),
  (438,qh8),
  (442,qh9),
  (443,qdz),
  (444,qd1),
  (445,qh7),
  (446,qd2),
  (447,qdy),
  (448,qcw),
  (449,qdb),
  (450,qgu),
  (451,qd0),
  (470,qqf),
  (471,qqg),
  (480,qig),
  (481,qo0),
  (482,qr1),
  (486,qo2),
  (493,qo1),
  (494,qga),
  (495,qer),
  (496,qih),
  (499,qoz),
  (500,qmv),
  (501,qmw),
  (503,qr2),
  (504,qmu),
  (506,qep),
  (507,qgw),
  (508,qf8),
  (509,qif),
  (510,qkm),
  (511,qmt),
  (512,qeq),
  (513,qmx),
  (514,qfd),
  (518,qct),
  (521,qc9),
  (527,qjc),
  (528,qp2),
  (529,qp1),
  (530,qhw),
  (531,ql5),
  (532,qob),
  (533,qoa),
  (537,qn9),
  (538,qlp),
  (539,qgg),
  (540,qe7),
  (541,qdj),
  (542,qjy),
  (544,qpy),
  (548,qlk)]
section
variable {S : AProg}
def WC (S:AProg)(n0:Nat)(c:AC)(E:Env)(H:Heap)(Q:AX->Env->Heap->Prop):Prop:=
 ∃x E1 H1,Ev S (.code n0 c E H) (.cd x E1 H1)/\Q x E1 H1
def WO (S:AProg)(n0:Nat)(d:Bool)(l:List AOper)(E:Env)(H:Heap)(Q:Env->Heap->Prop):Prop:=
 ∃E1 H1,Ev S (.ops n0 d l E H) (.cd .normal E1 H1)/\Q E1 H1
def CT (S:AProg)(g:Nat)(args:List V)(H:Heap)(Q:V->Heap->Prop):Prop:=
 ∃v H1,Ev S (.call g args H) (.ret v H1)/\Q v H1
def CQ (S:AProg)(g:Nat)(args:List V)(v:V):Prop:=∀H,Ev S (.call g args H) (.ret v H)
variable {n0 : Nat} {E : Env} {H : Heap} {Q : AX → Env → Heap → Prop} {R : Env → Heap → Prop} {d : Bool}
theorem WC.mono {c:AC}{Q':AX->Env->Heap->Prop}(h:WC S n0 c E H Q)(hq:∀x E H,Q x E H->Q' x E H):WC S n0 c E H Q':=
 let ⟨x,E1,H1,e,q⟩:=h;⟨x,E1,H1,e,hq _ _ _ q⟩
theorem WO.mono {l:List AOper}{R':Env->Heap->Prop}(h:WO S n0 d l E H R)(hq:∀E H,R E H->R' E H):WO S n0 d l E H R':=
 let ⟨E1,H1,e,q⟩:=h;⟨E1,H1,e,hq _ _ q⟩
theorem CT.mono {g:Nat}{args:List V}{Q Q':V->Heap->Prop}(h:CT S g args H Q)(hq:∀v H,Q v H->Q' v H):CT S g args H Q':=
 let ⟨v,H1,e,q⟩:=h;⟨v,H1,e,hq _ _ q⟩
theorem qanf (h:Q .normal E H):WC S n0 .skip E H Q:=⟨_,_,_,.skip,h⟩
theorem qanh {id:Nat}(h:Q (.exit id) E H):WC S n0 (.exit id) E H Q:=⟨_,_,_,.exit,h⟩
theorem qap8 (h:Q .ret E H):WC S n0 .ret E H Q:=⟨_,_,_,.ret,h⟩
def AX.thn (K:Env->Heap->Prop)(Q:AX->Env->Heap->Prop):AX->Env->Heap->Prop
 | .normal,E,H=>K E H
 |x,E,H=>Q x E H
theorem qcx {a b:AC}(h:WC S n0 a E H (AX.thn (fun E H=>WC S n0 b E H Q) Q)):WC S n0 (.seq a b) E H Q:=by
 obtain⟨x,E1,H1,e,q⟩:=h;cases x with
 |normal=>obtain⟨y,E2,H2,e2,q2⟩:=q;exact⟨y,E2,H2,.seqN e e2,q2⟩
 |exit id=>exact⟨_,_,_,.seqX e (by simp),q⟩
 |ret=>exact⟨_,_,_,.seqX e (by simp),q⟩
theorem qag4 {c:X}{a b:AC}{t:Bool}(hc:getX E c=.bool t)(h1:t=true->WC S n0 a E H Q)(h2:t=false->WC S n0 b E H Q):WC S n0 (.cond c a b) E H Q:=by
 cases t with
 |true=>obtain⟨x,E1,H1,e,q⟩:=h1 rfl;exact⟨x,E1,H1,.cond hc (by simpa using e),q⟩
 |false=>obtain⟨x,E1,H1,e,q⟩:=h2 rfl;exact⟨x,E1,H1,.cond hc (by simpa using e),q⟩
theorem qane {c:X}{a b:AC}(hc:getX E c=.bool true)(h:WC S n0 a E H Q):WC S n0 (.cond c a b) E H Q:=qag4 hc (fun _=>h) (by simp)
theorem qajz {c:X}{a b:AC}(hc:getX E c=.bool false)(h:WC S n0 b E H Q):WC S n0 (.cond c a b) E H Q:=qag4 hc (by simp) (fun _=>h)
theorem qaj0 {id:Nat}{c:AC}(h:WC S n0 c E H (fun x E H=>Q (x.outOf id) E H)):WC S n0 (.block id c) E H Q:=by
 obtain⟨x,E1,H1,e,q⟩:=h;exact⟨_,_,_,.block e,q⟩
theorem qajy {c:AC}(h:WC S n0 c E H Q):WC S n0 (.scope c) E H Q:=by
 obtain⟨x,E1,H1,e,q⟩:=h;exact⟨_,_,_,.scope e,q⟩
theorem qag3 {l:List AOper}(h:WO S n0 d l E H (fun E H=>Q .normal E H)):WC S n0 (.region d l) E H Q:=by
 obtain⟨E1,H1,e,q⟩:=h;exact⟨_,_,_,.region e,q⟩
theorem qang {c:AC}(I:Nat->Env->Heap->Prop)(k:Nat)(h0:I k E H)
 (round:∀k E H,I k E H->WC S n0 c E H (AX.thn (fun E1 H1=>∃j,j<k/\I j E1 H1) Q)):WC S n0 (.loop c) E H Q:=by
 induction k using Nat.strongRecOn generalizing E H with
 |_ k ih=>
  obtain⟨x,E1,H1,e,q⟩:=round k E H h0;cases x with
  |normal=>
   obtain⟨j,hj,hI⟩:=q;obtain⟨y,E2,H2,e2,q2⟩:=ih j hj hI;exact⟨y,E2,H2,.loopN e e2,q2⟩
  |exit id=>exact⟨_,_,_,.loopX e (by simp),q⟩
  |ret=>exact⟨_,_,_,.loopX e (by simp),q⟩
theorem qap2 (h:R E H):WO S n0 d [] E H R:=⟨_,_,.opNil,h⟩
def qagz (S:AProg)(n0:Nat)(d:Bool)(dst:Option Nat)(x:X)(xs:List X)(gu:Option (Nat × Bool))(sy:Bool)(l:List AOper)(E:Env)(H:Heap)(R:Env->Heap->Prop):Prop:=
 WO S n0 d (⟨dst,.call x xs,gu,sy⟩ :: l) E H R
def stepP (S:AProg)(n0:Nat)(d:Bool)(dst:Option Nat)(op:AOp)(gu:Option (Nat × Bool))(sy:Bool)(l:List AOper)(E:Env)(H:Heap)(R:Env->Heap->Prop):Prop:=
 match gd ⟨dst,op,gu,sy⟩ E with
 |some false=>WO S n0 d l (put E dst .undef) H R
 |some true=>
  match op with
  | .call x xs=>qagz S n0 d dst x xs none sy l E H R
  |op=>
   match stp n0 op E H with
   |some (v,H1)=>((d&&!sy)=true->H <+: H1)/\WO S n0 d l (put E dst v) H1 R
   |none=>False
 |none=>False
theorem qam9 {dst:Option Nat}{op:AOp}{gu:Option (Nat × Bool)}{sy:Bool}{l:List AOper}(h:stepP S n0 d dst op gu sy l E H R):WO S n0 d (⟨dst,op,gu,sy⟩ :: l) E H R:=by
 unfold stepP at h;split at h
 ·rename_i hg;obtain⟨E1,H1,e,q⟩:=h;exact⟨_,_,.opSkip hg e,q⟩
 ·rename_i hg;split at h
  ·obtain⟨E1,H1,e,q⟩:=h;refine⟨E1,H1,?_,q⟩;cases e with
   |opSkip hg' _=>simp[gd]at hg'
   |opDo _ hs _ _=>cases hs
   |opCall _ ho hx hp e1 hpre e2=>exact .opCall hg ho hx hp e1 hpre e2
  ·split at h
   ·rename_i v H1 hs;obtain⟨hp,E1,H2,e,q⟩:=h;exact⟨_,_,.opDo hg hs (fun hd hsy=>hp (by simp[hd];simpa using hsy)) e,q⟩
   ·exact h.elim
 ·exact h.elim
theorem qap3 {dst:Option Nat}{op:AOp}{gu:Option (Nat × Bool)}{sy:Bool}{l:List AOper}:WO S n0 d (⟨dst,op,gu,sy⟩ :: l) E H R↔stepP S n0 d dst op gu sy l E H R:=by
 refine⟨fun h=>?_,qam9⟩;obtain⟨E1,H1,e,q⟩:=h;unfold stepP;cases e with
 |opSkip hg e1=>rw[hg];exact⟨_,_,e1,q⟩
 |opDo hg hs hp e1=>
  rw[hg];cases op<;>first
   | (cases hs;done)
   | (simp only[]at hs ⊢;rw[hs];exact⟨fun h=>by simp at h;exact hp h.1 h.2,_,_,e1,q⟩)
 |opCall hg ho hx hp e1 hpre e2=>
  simp only[]at ho;subst ho;rw[hg];exact⟨_,_,.opCall rfl rfl hx hp e1 hpre e2,q⟩
theorem qaca : WO S n0 d [] E H R↔R E H:=by
 refine⟨fun h=>?_,qap2⟩;obtain⟨E1,H1,e,q⟩:=h;cases e;exact q
theorem qt6 {dst:Option Nat}{sy:Bool}{l:List AOper}{x:X}{args caps vs:List V}{xs:List X}{g:Nat}{H1:Heap}(hx:getX E x=.fn g caps)
 (ha:xs.map (getX E)++caps=args) (hp:prep S g H args=some (vs,H1))
 (h:CT S g vs H1 (fun v H2=>((d&&!sy)=true->H <+: H2)/\WO S n0 d l (put E dst v) H2 R)):qagz S n0 d dst x xs none sy l E H R:=by
 obtain⟨v,H2,e,hpre,E1,H3,e1,q⟩:=h;subst ha;exact⟨_,_,.opCall rfl rfl hx hp e (fun hd hsy=>hpre (by simp[hd];simpa using hsy)) e1,q⟩
theorem CQ.ct {g:Nat}{args:List V}{v:V}{Q:V->Heap->Prop}(h:CQ S g args v)(hq:Q v H):CT S g args H Q:=⟨_,_,h H,hq⟩
theorem CQ_of {g:Nat}{f:AFn}{args:List V}{v:V}(hf:S.fn g=some f)
 (h:∀H,WC S H.length f.body (E0 args) H (fun x E1 H1=>(x=.normal\/x=.ret)/\∃v0,resV E1 H1 f.results=some v0/\fin f.own H.length H1 v0=some (v,H))):CQ S g args v:=by
 intro H;obtain⟨x,E1,H1,e,hx,v0,hr,hfin⟩:=h H;exact .call hf e hx hr hfin
theorem CT_of {g:Nat}{f:AFn}{args:List V}{Q:V->Heap->Prop}(hf:S.fn g=some f)
 (h:WC S H.length f.body (E0 args) H (fun x E1 H1=>(x=.normal\/x=.ret)/\∃v0 v H2,resV E1 H1 f.results=some v0/\fin f.own H.length H1 v0=some (v,H2)/\Q v H2)):CT S g args H Q:=by
 obtain⟨x,E1,H1,e,hx,v0,v,H2,hr,hfin,hq⟩:=h;exact⟨_,_,.call hf e hx hr hfin,hq⟩
theorem qaqd {g:Nat}{pre post:List V}{v:V}(h1:CQ S g (pre++.nil :: post) v)(h2:CQ S g (pre++.emp :: post) v):CQ S g (pre++.sl [] :: post) v:=fun H=>.emp (h1 H) (h2 H)
end
theorem qacu (E:Env)(d:Nat)(v:V)(i:Nat):upd E d v i=if i=d then v else E i:=rfl
theorem wrap_i64 {n:Int}(h1:-9223372036854775808<=n)(h2:n<9223372036854775808):IntKind.wrap .i64 n=n:=by
 simp[IntKind.wrap,IntKind.bits,IntKind.signed];split<;>omega
theorem qahu {n:Int}(h1:0<=n)(h2:n<4294967296):IntKind.wrap .u32 n=n:=by
 simp only[IntKind.wrap,IntKind.bits,IntKind.signed];simp;omega
theorem qax {n:Int}(h1:0<=n)(h2:n<18446744073709551616):IntKind.wrap .u64 n=n:=by
 simp only[IntKind.wrap,IntKind.bits,IntKind.signed];simp;omega
end Go.Abs
namespace Go.Abs
def prog : AProg:=⟨look fnList,fun _ _=>none⟩
def qa6 (z bytes:Nat)(x y:V)(H:Heap):Option (V × Heap):=
 (elems H y).bind fun ys=>
  if qdd z ys=true then
   match x with
   | .nil=>
    if ys=[]then some (.nil,H)
    else if qbf ys.length bytes=true then some (.ref H.length z 0 ys.length,H++[some ⟨z,ys,true,true⟩])else none
   | .ref b z' off len=>
    match H[b]? with
    |some (some k)=>
     if k.arr=true/\k.wr=true/\k.z=z/\z'=z/\off+len<=k.el.length/\qbf (len+ys.length) bytes=true then
      if ys=[]then some (.ref b z' off len,H)
      else some (.ref H.length z 0 (len+ys.length),H.set b none++[some ⟨z,(k.el.drop off).take len++ys,true,true⟩])
     else none
    |_=>none
   |_=>none
  else none
theorem qabh {n0 z bytes:Nat}{x y:X}{E:Env}{H:Heap}:stp n0 (.append z bytes x y) E H=qa6 z bytes (getX E x) (getX E y) H:=rfl
theorem qaod {n0:Nat}{E:Env}{H:Heap}{x:X}:stp n0 (.mv x) E H=(some (getX E x,H)):=rfl
theorem qah4 {n0:Nat}{E:Env}{H:Heap}{c a b:X}:stp n0 (.pick c a b) E H =
 match getX E c with
 | .bool t=>some (if t then getX E a else getX E b,H)
 |_=>none:=rfl
theorem qaly {n0:Nat}{E:Env}{H:Heap}{z:Nat}{x:X}:stp n0 (.box z x) E H =
 if(getX E x).cells.length=z/\(getX E x).isTup=false then some (.ptr H.length 0 0,H++[some ⟨z,[getX E x],false,true⟩])else none:=rfl
theorem qalu {n0:Nat}{E:Env}{H:Heap}{z:Nat}{v:V}:stp n0 (.new z v) E H=(if v.cells.length=z/\v.pure=true then some (.ptr H.length 0 0,H++[some ⟨z,[v],false,true⟩])else none):=rfl
theorem qadf {n0:Nat}{E:Env}{H:Heap}{zero:List V}{parts:List (Nat × Nat × X)}:stp n0 (.build zero parts) E H =
 if zero.all V.cellPure=true then(fillC zero (parts.map fun p=>(p.1,p.2.1,getX E p.2.2))).map fun cs=>(.agg cs,H)else none:=rfl
theorem qabg {n0:Nat}{E:Env}{H:Heap}{z len:Nat}{zero:V}{parts:List (Nat × X)}:stp n0 (.bslice z len zero parts) E H =
 if zero.cells.length=z/\zero.pure=true then
  (qco H (parts.map fun p=>getX E p.2)).bind fun(vs,H1)=>
   (fillE z (List.replicate len zero) ((parts.map (·.1)).zip vs)).map fun el=>(.ref H1.length z 0 len,H1++[some ⟨z,el,true,true⟩])
 else none:=rfl
theorem qah3 {n0:Nat}{E:Env}{H:Heap}{z len:Nat}{zero:V}{parts:List (Nat × X)}:stp n0 (.plit z len zero parts) E H =
 if zero.cells.length=z/\zero.pure=true then
  (qco [] (parts.map fun p=>getX E p.2)).bind fun q=>
   (fillE z (List.replicate len zero) ((parts.map (·.1)).zip q.1)).bind fun el=>if 0+len<=el.length then some (.sl ((el.drop 0).take len),H)else none
 else none:=rfl
theorem qah7 {n0:Nat}{E:Env}{H:Heap}{ag:Bool}{z:Nat}{x:X}:stp n0 (.load ag z x) E H =
 match getX E x with
 | .eptr cs=>(wrapC ag z cs).map fun v=>(v,H)
 | .ptr b i off=>
  match H[b]? with
  |some (some k)=>
   match k.el[i]? with
   |some e=>(wrapC ag z (e.cells.drop off)).map fun v=>(v,H)
   |none=>none
  |_=>none
 |_=>none:=rfl
theorem qac8 {n0:Nat}{E:Env}{H:Heap}{z:Nat}{a x:X}:stp n0 (.store z a x) E H=(qne n0 z (getX E a) (getX E x) H):=rfl
theorem qac9 {n0:Nat}{E:Env}{H:Heap}{ag:Bool}{z t:Nat}:stp n0 (.sload ag z t) E H =
 match E t with
 | .eptr cs=>(wrapC ag z cs).map fun v=>(v,H)
 | .ptr b i off=>
  match H[b]? with
  |some (some k)=>
   match k.el[i]? with
   |some e=>(wrapC ag z (e.cells.drop off)).bind fun v=>if v.cells.all (V.lowB H.length)=true/\v.isTup=false then some (v,H)else none
   |none=>none
  |_=>none
 |_=>none:=rfl
theorem qabe {n0:Nat}{E:Env}{H:Heap}{z:Nat}{a x:X}{av:List Nat}:stp n0 (.storeN z a x av) E H=(if(getX E x).pure=true/\(av.all fun t=>apart (E t) (getX E a))=true then qne n0 z (getX E a) (getX E x) H else none):=rfl
theorem qalz {n0:Nat}{E:Env}{H:Heap}{bk:BK}{op:BinOp}{x y:X}:stp n0 (.bin bk op x y) E H=((binV bk op (getX E x) (getX E y)).map fun v=>(v,H)):=rfl
theorem qaoc {n0:Nat}{E:Env}{H:Heap}{op:UnOp}{x:X}:stp n0 (.un op x) E H=((unV op (getX E x)).map fun v=>(v,H)):=rfl
theorem qaia {n0:Nat}{E:Env}{H:Heap}{k:IntKind}{x:X}:stp n0 (.conv k x) E H =
 match getX E x with
 | .int _ n=>some (.int k (k.wrap n),H)
 |_=>none:=rfl
theorem qah5 {n0:Nat}{E:Env}{H:Heap}{g:Nat}{caps:List X}:stp n0 (.mkfn g caps) E H=(if(caps.map (getX E)).all V.isCell=true then some (.fn g (caps.map (getX E)),H)else none):=rfl
theorem q7b {n0:Nat}{E:Env}{H:Heap}{z bytes:Nat}{zero:V}{l c:X}:stp n0 (.mkslice z bytes zero l c) E H =
 match natOf (getX E l),natOf (getX E c)with
 |some l,some c=>
  if l<=c/\c*bytes<=281474976710656/\c<=9223372036854775807/\zero.cells.length=z/\zero.pure=true then
   some (.ref H.length z 0 l,H++[some ⟨z,List.replicate c zero,true,true⟩])
  else none
 |_,_=>none:=rfl
theorem q7d {n0 z bytes:Nat}{zero:V}{x n:X}{E:Env}{H:Heap}:stp n0 (.appendZ z bytes zero x n) E H =
 match getX E x,natOf (getX E n)with
 | .nil,some m=>
  if 0<m/\m*bytes<=140737488355328/\m<=9223372036854775807/\zero.cells.length=z/\zero.pure=true then some (.ref H.length z 0 m,H++[some ⟨z,List.replicate m zero,true,true⟩])else none
 |_,_=>none:=rfl
theorem qada {n0:Nat}{E:Env}{H:Heap}{z:Nat}{x:X}{lo hi mx:Option X}:stp n0 (.slice z x lo hi mx) E H =
 match getX E x with
 | .nil=>
  match qb3 E 0 lo,qb3 E 0 hi,qb3 E 0 mx with
  |some 0,some 0,some 0=>some (.nil,H)
  |_,_,_=>none
 | .sl l=>
  match qb3 E 0 lo,qb3 E l.length hi,qb3 E l.length mx with
  |some lo,some hi,some mx=>
   if lo<=hi/\hi<=mx/\mx<=l.length/\(lo=0\/qdd z ((l.take hi).drop lo)=true)then some (.sl ((l.take hi).drop lo),H)else none
  |_,_,_=>none
 | .ref b z' off len=>
  match qb3 E 0 lo,qb3 E len hi,mx with
  |some lo,some hi,none=>if lo<=hi/\hi<=len/\z'=z then some (.ref b z' (off+lo) (hi-lo),H)else none
  |_,_,_=>none
 |_=>none:=rfl
theorem qade {n0:Nat}{E:Env}{H:Heap}{off:Nat}{x:X}:stp n0 (.faddr off x) E H =
 match getX E x with
 | .ptr b i o=>some (.ptr b i (o+off),H)
 | .eptr cs=>some (.eptr (cs.drop off),H)
 |_=>none:=rfl
theorem qadd {n0:Nat}{E:Env}{H:Heap}{ag:Bool}{off z:Nat}{x:X}:stp n0 (.field ag off z x) E H =
 match getX E x with
 | .agg cs=>(wrapC ag z (cs.drop off)).map fun v=>(v,H)
 |_=>none:=rfl
theorem qadc {n0:Nat}{E:Env}{H:Heap}{z:Nat}{x i:X}:stp n0 (.iaddr z x i) E H =
 match getX E x,natOf (getX E i)with
 | .sl l,some i=>
  match l[i]? with
  |some e=>if e.cells.length=z then some (.eptr e.cells,H)else none
  |none=>none
 | .ref b z' off len,some i=>if i<len/\z'=z then some (.ptr b (off+i) 0,H)else none
 |_,_=>none:=rfl
theorem qabi {n0:Nat}{E:Env}{H:Heap}{n z:Nat}{x i:X}:stp n0 (.aiaddr n z x i) E H =
 match getX E x,natOf (getX E i)with
 | .ptr b j off,some i=>if i<n then some (.ptr b j (off+i*z),H)else none
 | .eptr cs,some i=>if i<n then some (.eptr (cs.drop (i*z)),H)else none
 |_,_=>none:=rfl
theorem qadb {n0:Nat}{E:Env}{H:Heap}{ag:Bool}{n z:Nat}{x i:X}:stp n0 (.index ag n z x i) E H =
 match getX E x,natOf (getX E i)with
 | .agg cs,some i=>if i<n then(wrapC ag z (cs.drop (i*z))).map fun v=>(v,H)else none
 |_,_=>none:=rfl
theorem qabf {n0:Nat}{E:Env}{H:Heap}{x i:X}:stp n0 (.sindex x i) E H =
 match getX E x,natOf (getX E i)with
 | .str s,some i=>
  match s[i]? with
  |some b=>some (.int .u8 b.toNat,H)
  |none=>none
 |_,_=>none:=rfl
theorem q7c {n0:Nat}{E:Env}{H:Heap}{i:Nat}{x:X}:stp n0 (.extract i x) E H =
 match getX E x with
 | .tup vs=>(vs[i]?).map fun v=>(v,H)
 |_=>none:=rfl
theorem qalx {n0:Nat}{E:Env}{H:Heap}{x:X}:stp n0 (.len x) E H =
 match getX E x with
 | .sl l=>some (.int .i64 l.length,H)
 | .nil=>some (.int .i64 0,H)
 | .emp=>some (.int .i64 0,H)
 | .ref _ _ _ len=>some (.int .i64 len,H)
 |_=>none:=rfl
theorem qah8 {n0:Nat}{E:Env}{H:Heap}{n:Nat}{x:X}:stp n0 (.lenc n x) E H=(some (.int .i64 n,H)):=rfl
theorem qaib {n0:Nat}{E:Env}{H:Heap}{x:X}:stp n0 (.capn x) E H =
 match getX E x with
 | .nil=>some (.int .i64 0,H)
 |_=>none:=rfl
theorem qah9 {n0:Nat}{E:Env}{H:Heap}{z:Nat}{x y:X}:stp n0 (.copy z x y) E H =
 match getX E x with
 | .ref b z' off len=>
  (elems H (getX E y)).bind fun ys=>
   match H[b]? with
   |some (some k)=>
    if k.arr=true/\k.wr=true/\k.z=z/\z'=z/\qdd z ys=true/\off+len<=k.el.length then
     some (.int .i64 (Nat.min ys.length len),H.set b (some { k with el:=qcy k.el off (ys.take len) }))
    else none
   |_=>none
 |_=>none:=rfl
theorem qalv {n0:Nat}{E:Env}{H:Heap}{x y:X}:stp n0 (.min x y) E H =
 match getX E x,getX E y with
 | .int k a,.int k' b=>if k=k' then some (.int k (if b<a then b else a),H)else none
 |_,_=>none:=rfl
theorem qalw {n0:Nat}{E:Env}{H:Heap}{x y:X}:stp n0 (.max x y) E H =
 match getX E x,getX E y with
 | .int k a,.int k' b=>if k=k' then some (.int k (if a<b then b else a),H)else none
 |_,_=>none:=rfl
theorem qah6 {n0:Nat}{E:Env}{H:Heap}{x y z:X}:stp n0 (.max3 x y z) E H =
 match getX E x,getX E y,getX E z with
 | .int k a,.int k' b,.int k'' c=>if k=k'/\k=k'' then some (.int k (if(if a<b then b else a)<c then c else if a<b then b else a),H)else none
 |_,_,_=>none:=rfl
attribute [simp] qah6 qabh qaod qah4 qaly qalu qadf qabg qah3 qah7 qac8 qac9 qabe qalz qaoc qaia qah5 q7b q7d qada qade qadd qadc qabi qadb qabf q7c qalx qah8 qaib qah9 qalv qalw
inductive Fr where
 |seq (b:AC)
 |blk (id:Nat)
section
variable {S : AProg} {n0 : Nat} {Q : AX → Env → Heap → Prop}
def WP (S:AProg)(n0:Nat)(Q:AX->Env->Heap->Prop):List Fr->AX->Env->Heap->Prop
 | [],x,E,H=>Q x E H
 | .seq b :: K,.normal,E,H=>WC S n0 b E H (fun x E H=>WP S n0 Q K x E H)
 | .seq _ :: K,x,E,H=>WP S n0 Q K x E H
 | .blk id :: K,x,E,H=>WP S n0 Q K (x.outOf id) E H
def WK (S:AProg)(n0:Nat)(c:AC)(K:List Fr)(E:Env)(H:Heap)(Q:AX->Env->Heap->Prop):Prop:=WC S n0 c E H (fun x E H=>WP S n0 Q K x E H)
def WL (S:AProg)(n0:Nat)(d:Bool)(l:List AOper)(K:List Fr)(E:Env)(H:Heap)(Q:AX->Env->Heap->Prop):Prop:=WO S n0 d l E H (fun E H=>WP S n0 Q K .normal E H)
theorem qg5 {c:AC}{E:Env}{H:Heap}(h:WK S n0 c [] E H Q):WC S n0 c E H Q:=h
theorem qap1 {x:AX}{E:Env}{H:Heap}:WP S n0 Q [] x E H↔Q x E H:=Iff.rfl
theorem qap0 {b:AC}{K:List Fr}{E:Env}{H:Heap}:WP S n0 Q (.seq b :: K) .normal E H↔WK S n0 b K E H Q:=Iff.rfl
theorem q8o {b:AC}{K:List Fr}{id:Nat}{E:Env}{H:Heap}:WP S n0 Q (.seq b :: K) (.exit id) E H↔WP S n0 Q K (.exit id) E H:=Iff.rfl
theorem qab9 {b:AC}{K:List Fr}{E:Env}{H:Heap}:WP S n0 Q (.seq b :: K) .ret E H↔WP S n0 Q K .ret E H:=Iff.rfl
theorem WP_blk {id:Nat}{K:List Fr}{x:AX}{E:Env}{H:Heap}:WP S n0 Q (.blk id :: K) x E H↔WP S n0 Q K (x.outOf id) E H:=by cases x<;>exact Iff.rfl
theorem qbv {c:AC}{E:Env}{H:Heap}{Q':AX->Env->Heap->Prop}(h:WC S n0 c E H Q)(hq:∀x E H,Q x E H->Q' x E H):WC S n0 c E H Q':=by
 obtain⟨x,E1,H1,e,q⟩:=h;exact⟨x,E1,H1,e,hq _ _ _ q⟩
theorem qacc {a b:AC}{K:List Fr}{E:Env}{H:Heap}:WK S n0 (.seq a b) K E H Q↔WK S n0 a (.seq b :: K) E H Q:=by
 constructor
 ·rintro⟨x,E1,H1,e,q⟩;cases e with
  |seqN e1 e2=>exact⟨.normal,_,_,e1,_,_,_,e2,q⟩
  |seqX e1 hx=>
   refine⟨x,E1,H1,e1,?_⟩;cases x with
   |normal=>exact absurd rfl hx
   |exit id=>exact q
   |ret=>exact q
 ·intro h;refine qcx (qbv h fun x E1 H1 q=>?_);cases x with
  |normal=>exact q
  |exit id=>exact q
  |ret=>exact q
theorem qo5 {x:X}{a b:AC}{K:List Fr}{E:Env}{H:Heap}:WK S n0 (.cond x a b) K E H Q↔match getX E x with| .bool true=>WK S n0 a K E H Q| .bool false=>WK S n0 b K E H Q|_=>False:=by
 constructor
 ·rintro⟨y,E1,H1,e,q⟩;cases e with
  | @cond _ _ _ _ _ _ t _ hc e1=>
   rw[hc];cases t with
   |true=>exact⟨_,_,_,by simpa using e1,q⟩
   |false=>exact⟨_,_,_,by simpa using e1,q⟩
 ·intro h;split at h
  ·rename_i hc;exact qane hc h
  ·rename_i hc;exact qajz hc h
  ·exact h.elim
theorem q6y {id:Nat}{c:AC}{K:List Fr}{E:Env}{H:Heap}:WK S n0 (.block id c) K E H Q↔WK S n0 c (.blk id :: K) E H Q:=by
 constructor
 ·rintro⟨y,E1,H1,e,q⟩;cases e with
  |block e1=>exact⟨_,_,_,e1,WP_blk.2 q⟩
 ·intro h;exact qaj0 (qbv h fun x E1 H1 q=>WP_blk.1 q)
theorem q6x {c:AC}{K:List Fr}{E:Env}{H:Heap}:WK S n0 (.scope c) K E H Q↔WK S n0 c K E H Q:=by
 constructor
 ·rintro⟨y,E1,H1,e,q⟩;cases e with
  |scope e1=>exact⟨_,_,_,e1,q⟩
 ·intro h;exact qajy h
theorem q34 {d:Bool}{l:List AOper}{K:List Fr}{E:Env}{H:Heap}:WK S n0 (.region d l) K E H Q↔WL S n0 d l K E H Q:=by
 constructor
 ·rintro⟨y,E1,H1,e,q⟩;cases e with
  |region e1=>exact⟨_,_,e1,q⟩
 ·intro h;exact qag3 h
theorem q8p {K:List Fr}{E:Env}{H:Heap}:WK S n0 .skip K E H Q↔WP S n0 Q K .normal E H:=⟨by rintro⟨y,E1,H1,e,q⟩;cases e;exact q,qanf⟩
theorem q8q {id:Nat}{K:List Fr}{E:Env}{H:Heap}:WK S n0 (.exit id) K E H Q↔WP S n0 Q K (.exit id) E H:=⟨by rintro⟨y,E1,H1,e,q⟩;cases e;exact q,qanh⟩
theorem qacd {K:List Fr}{E:Env}{H:Heap}:WK S n0 .ret K E H Q↔WP S n0 Q K .ret E H:=⟨by rintro⟨y,E1,H1,e,q⟩;cases e;exact q,qap8⟩
theorem qacb {d:Bool}{K:List Fr}{E:Env}{H:Heap}:WL S n0 d [] K E H Q↔WP S n0 Q K .normal E H:=qaca
def quu (S:AProg)(n0:Nat)(d:Bool)(dst:Option Nat)(x:X)(xs:List X)(sy:Bool)(l:List AOper)(K:List Fr)(E:Env)(H:Heap)(Q:AX->Env->Heap->Prop):Prop:=
 qagz S n0 d dst x xs none sy l E H (fun E H=>WP S n0 Q K .normal E H)
def stepL (S:AProg)(n0:Nat)(d:Bool)(dst:Option Nat)(op:AOp)(gu:Option (Nat × Bool))(sy:Bool)(l:List AOper)(K:List Fr)(E:Env)(H:Heap)(Q:AX->Env->Heap->Prop):Prop:=
 match gd ⟨dst,op,gu,sy⟩ E with
 |some false=>WL S n0 d l K (put E dst .undef) H Q
 |some true=>
  match op with
  | .call x xs=>quu S n0 d dst x xs sy l K E H Q
  |op=>
   match stp n0 op E H with
   |some (v,H1)=>((d&&!sy)=true->H <+: H1)/\WL S n0 d l K (put E dst v) H1 Q
   |none=>False
 |none=>False
theorem qkn {d:Bool}{dst:Option Nat}{op:AOp}{gu:Option (Nat × Bool)}{sy:Bool}{l:List AOper}{K:List Fr}{E:Env}{H:Heap}:WL S n0 d (⟨dst,op,gu,sy⟩ :: l) K E H Q↔stepL S n0 d dst op gu sy l K E H Q:=qap3
theorem qaa {d:Bool}{dst:Option Nat}{sy:Bool}{l:List AOper}{K:List Fr}{E:Env}{H:Heap}{x:X}{args caps vs:List V}{xs:List X}{g:Nat}{v:V}(hx:getX E x=.fn g caps)
 (ha:xs.map (getX E)++caps=args) (hp:prep S g H args=some (vs,H)) (h:CQ S g vs v) (k:WL S n0 d l K (put E dst v) H Q):quu S n0 d dst x xs sy l K E H Q:=
 qt6 hx ha hp (h.ct ⟨fun _=>List.prefix_refl H,k⟩)
theorem zq {d:Bool}{dst:Option Nat}{sy:Bool}{l:List AOper}{K:List Fr}{E:Env}{H:Heap}{x:X}{args caps vs:List V}{xs:List X}{g:Nat}{v:V}(h:CQ S g vs v) (k:WL S n0 d l K (put E dst v) H Q)(hx:getX E x=.fn g caps:=by exact rfl)(ha:xs.map (getX E)++caps=args:=by exact rfl)(hp:prep S g H args=some (vs,H):=by exact rfl):quu S n0 d dst x xs sy l K E H Q:=qaa hx ha hp h k
theorem qdu {d:Bool}{dst:Option Nat}{sy:Bool}{l:List AOper}{K:List Fr}{E:Env}{H H1:Heap}{x:X}{args caps vs:List V}{xs:List X}{g:Nat}(hx:getX E x=.fn g caps)
 (ha:xs.map (getX E)++caps=args) (hp:prep S g H args=some (vs,H1)) (h:CT S g vs H1 (fun v H2=>((d&&!sy)=true->H <+: H2)/\WL S n0 d l K (put E dst v) H2 Q)):quu S n0 d dst x xs sy l K E H Q:=
 qt6 hx ha hp h
theorem qb1 {c:AC}{K:List Fr}{E:Env}{H:Heap}(I:Nat->Env->Heap->Prop)(k:Nat)(h0:I k E H)
 (round:∀k E H,I k E H->WC S n0 c E H (AX.thn (fun E1 H1=>∃j,j<k/\I j E1 H1) (fun x E H=>WP S n0 Q K x E H))):WK S n0 (.loop c) K E H Q:=qang I k h0 round
theorem qaq {c:AC}{E:Env}{H:Heap}{J:Env->Heap->Prop}{R:AX->Env->Heap->Prop}(h:WK S n0 c [] E H (AX.thn J R)):WC S n0 c E H (AX.thn J R):=h
theorem qabb {J:Env->Heap->Prop}{R:AX->Env->Heap->Prop}{E:Env}{H:Heap}:AX.thn J R .normal E H↔J E H:=Iff.rfl
theorem qahz {J:Env->Heap->Prop}{R:AX->Env->Heap->Prop}{id:Nat}{E:Env}{H:Heap}:AX.thn J R (.exit id) E H↔R (.exit id) E H:=Iff.rfl
theorem qalp {J:Env->Heap->Prop}{R:AX->Env->Heap->Prop}{E:Env}{H:Heap}:AX.thn J R .ret E H↔R .ret E H:=Iff.rfl
theorem qag {g:Nat}{f:AFn}{args:List V}{v:V}(hf:S.fn g=some f)
 (h:∀H,WK S H.length f.body [] (E0 args) H (fun x E1 H1=>(x=.normal\/x=.ret)/\∃v0,resV E1 H1 f.results=some v0/\fin f.own H.length H1 v0=some (v,H))):CQ S g args v:=CQ_of hf h
end
theorem qaph {n:Nat}{H:Heap}{l:List V}:fin false n H (.sl l)=some (.sl l,H.take n):=rfl
theorem qamv {n:Nat}{H:Heap}{k:IntKind}{i:Int}:fin false n H (.int k i)=some (.int k i,H.take n):=rfl
theorem qajc {n:Nat}{H:Heap}{b:Bool}:fin false n H (.bool b)=some (.bool b,H.take n):=rfl
@[simp] theorem qant {cs:List V}:(V.agg cs).cells=cs:=rfl
@[simp] theorem qaln {b:Bool}:(V.bool b).cells=[.bool b]:=rfl
@[simp] theorem qans {k:IntKind}{n:Int}:(V.int k n).cells=[.int k n]:=rfl
@[simp] theorem qan4 {l:List V}:(V.sl l).cells=[.sl l]:=rfl
@[simp] theorem qanr : V.nil.cells=[.nil]:=rfl
@[simp] theorem qanp {b z off len:Nat}:(V.ref b z off len).cells=[.ref b z off len]:=rfl
@[simp] theorem qanq {b i off:Nat}:(V.ptr b i off).cells=[.ptr b i off]:=rfl
@[simp] theorem qan5 {g:Nat}{cs:List V}:(V.fn g cs).cells=[.fn g cs]:=rfl
@[simp] theorem qaqi {cs:List V}:(V.agg cs).isTup=false:=rfl
@[simp] theorem qan3 {b:Bool}:(V.bool b).isTup=false:=rfl
@[simp] theorem qaqh {k:IntKind}{n:Int}:(V.int k n).isTup=false:=rfl
@[simp] theorem qaqq {l:List V}:(V.sl l).isTup=false:=rfl
@[simp] theorem qaqg : V.nil.isTup=false:=rfl
@[simp] theorem qaqe {b z off len:Nat}:(V.ref b z off len).isTup=false:=rfl
@[simp] theorem qaqf {b i off:Nat}:(V.ptr b i off).isTup=false:=rfl
@[simp] theorem qaqr {g:Nat}{cs:List V}:(V.fn g cs).isTup=false:=rfl
attribute [simp] qaph qamv qajc qap1 qap0 q8o qab9 WP_blk qacc q6y q6x q34 q8p q8q qacd qacb qabb qahz qalp
attribute [simp] getX put qacu E0 AX.outOf binV binI unV natOf qb3 qne wrapC V.isNil resV resVs resV1
end Go.Abs
namespace Go.Abs
section
variable {S : AProg} {n0 : Nat} {Q : AX → Env → Heap → Prop}
def WKc (S:AProg)(n0:Nat)(v:V)(a b:AC)(K:List Fr)(E:Env)(H:Heap)(Q:AX->Env->Heap->Prop):Prop:=
 match v with
 | .bool true=>WK S n0 a K E H Q
 | .bool false=>WK S n0 b K E H Q
 |_=>False
theorem qajx {t:Bool}{a b:AC}{K:List Fr}{E:Env}{H:Heap}:WKc S n0 (.bool t) a b K E H Q↔(t=true->WK S n0 a K E H Q)/\(t=false->WK S n0 b K E H Q):=by cases t<;>simp[WKc]
theorem qajw {a b:AC}{K:List Fr}{E:Env}{H:Heap}:WKc S n0 (.bool true) a b K E H Q↔WK S n0 a K E H Q:=Iff.rfl
theorem qag1 {a b:AC}{K:List Fr}{E:Env}{H:Heap}:WKc S n0 (.bool false) a b K E H Q↔WK S n0 b K E H Q:=Iff.rfl
theorem qag2 {x:X}{a b:AC}{K:List Fr}{E:Env}{H:Heap}:WK S n0 (.cond x a b) K E H Q↔WKc S n0 (getX E x) a b K E H Q:=by
 rw[qo5];unfold WKc;split<;>simp_all
def stepN (S:AProg)(n0:Nat)(d:Bool)(dst:Option Nat)(op:AOp)(sy:Bool)(l:List AOper)(K:List Fr)(E:Env)(H:Heap)(Q:AX->Env->Heap->Prop):Prop:=
 match op with
 | .call x xs=>quu S n0 d dst x xs sy l K E H Q
 |op=>
  match stp n0 op E H with
  |some (v,H1)=>((d&&!sy)=true->H <+: H1)/\WL S n0 d l K (put E dst v) H1 Q
  |none=>False
theorem qanc {d:Bool}{dst:Option Nat}{op:AOp}{sy:Bool}{l:List AOper}{K:List Fr}{E:Env}{H:Heap} :
 WL S n0 d (⟨dst,op,none,sy⟩ :: l) K E H Q↔stepN S n0 d dst op sy l K E H Q:=qkn
theorem qahw {E:Env}{t:Nat}{v:V}(h:E t=v):upd E t v=E:=by
 funext i;unfold upd;split
 ·rename_i e;rw[e,h]
 ·rfl
def WLg (S:AProg)(n0:Nat)(v:V)(t:Nat)(want d:Bool)(dst:Option Nat)(op:AOp)(sy:Bool)(l:List AOper)(K:List Fr)(E:Env)(H:Heap)(Q:AX->Env->Heap->Prop):Prop:=
 match v with
 | .bool b=>if b=want then stepN S n0 d dst op sy l K (upd E t (.bool b)) H Q else WL S n0 d l K (put (upd E t (.bool b)) dst .undef) H Q
 | .tup _=>WL S n0 d l K (put E dst .undef) H Q
 |_=>False
theorem qanb {d:Bool}{dst:Option Nat}{op:AOp}{sy:Bool}{l:List AOper}{K:List Fr}{E:Env}{H:Heap}{t:Nat}{want:Bool} :
 WL S n0 d (⟨dst,op,some (t,want),sy⟩ :: l) K E H Q↔WLg S n0 (E t) t want d dst op sy l K E H Q:=by
 rw[qkn];unfold stepL WLg gd;simp only;cases hv:E t with
 |bool b=>cases b<;>cases want<;>(simp only[qahw hv];exact Iff.rfl)
 |tup vs=>exact Iff.rfl
 |_=>exact Iff.rfl
variable {t : Nat} {d : Bool} {dst : Option Nat} {op : AOp} {sy : Bool} {l : List AOper} {K : List Fr} {E : Env} {H : Heap}
theorem WLg_t {b:Bool}:WLg S n0 (.bool b) t true d dst op sy l K E H Q↔(b=true->stepN S n0 d dst op sy l K (upd E t (.bool true)) H Q)/\(b=false->WL S n0 d l K (put (upd E t (.bool false)) dst .undef) H Q):=by
 cases b<;>simp[WLg]
theorem WLg_f {b:Bool}:WLg S n0 (.bool b) t false d dst op sy l K E H Q↔(b=true->WL S n0 d l K (put (upd E t (.bool true)) dst .undef) H Q)/\(b=false->stepN S n0 d dst op sy l K (upd E t (.bool false)) H Q):=by
 cases b<;>simp[WLg]
theorem qap4 : WLg S n0 (.bool true) t true d dst op sy l K E H Q↔stepN S n0 d dst op sy l K (upd E t (.bool true)) H Q:=Iff.rfl
theorem qap6 : WLg S n0 (.bool false) t true d dst op sy l K E H Q↔WL S n0 d l K (put (upd E t (.bool false)) dst .undef) H Q:=Iff.rfl
theorem qap5 : WLg S n0 (.bool true) t false d dst op sy l K E H Q↔WL S n0 d l K (put (upd E t (.bool true)) dst .undef) H Q:=Iff.rfl
theorem qap7 : WLg S n0 (.bool false) t false d dst op sy l K E H Q↔stepN S n0 d dst op sy l K (upd E t (.bool false)) H Q:=Iff.rfl
theorem qana {want:Bool}{vs:List V}:WLg S n0 (.tup vs) t want d dst op sy l K E H Q↔WL S n0 d l K (put E dst .undef) H Q:=Iff.rfl
theorem qag0 {want:Bool}:WLg S n0 .undef t want d dst op sy l K E H Q↔WL S n0 d l K (put E dst .undef) H Q:=Iff.rfl
end
theorem WK_up {S:AProg}{n0:Nat}{Q:AX->Env->Heap->Prop}{c:AC}{K:List Fr}{E:Env}{H:Heap}(I:Nat->Env->Heap->Prop)(n:Nat)(h0:I 0 E H)
 (round:∀i E H,i<=n->I i E H->WK S n0 c [] E H (AX.thn (fun E1 H1=>i<n/\I (i+1) E1 H1) (fun x E H=>WP S n0 Q K x E H))):WK S n0 (.loop c) K E H Q:=by
 refine qb1 (fun k E H=>∃i,i+k=n/\I i E H) n ⟨0,by omega,h0⟩ ?_;rintro k E H ⟨i,hi,h⟩;refine qbv (round i E H (by omega) h) ?_;intro x E1 H1 hx;cases x with
 |normal=>exact⟨k-1,by have:=hx.1;omega,i+1,by have:=hx.1;omega,hx.2⟩
 |exit id=>exact hx
 |ret=>exact hx
theorem q99 {α:Type}(H l:List α)(k:Nat):(H++l)[H.length+k]?=l[k]?:=by
 rw[List.getElem?_append_right (by omega)];congr 1;omega
theorem qafb {α:Type}(H l:List α):(H++l)[H.length]?=l[0]?:=q99 H l 0
theorem qads {α:Type}(H l:List α)(k:Nat)(v:α):(H++l).set (H.length+k) v=H++l.set k v:=by
 rw[List.set_append_right _ _ (by omega)];congr 2;omega
theorem qaih {α:Type}(H l:List α)(v:α):(H++l).set H.length v=H++l.set 0 v:=qads H l 0 v
attribute [simp low] qajx WLg_t WLg_f
attribute [simp] qag2 qajw qag1 stepN qanc qanb qap4 qap6 qap5 qap7 qana qag0 q99 qafb qads qaih
end Go.Abs
namespace Go.Abs
def natV : List Nat->Nat
 | []=>0
 |x :: l=>x+4294967296*natV l
def Li (l:List Nat):Prop:=∀x ∈ l,x<4294967296
theorem Li.cons {x:Nat}{l:List Nat}(h:Li (x :: l)):x<4294967296/\Li l:=⟨h x (by simp),fun y hy=>h y (by simp[hy])⟩
theorem Li.take {l:List Nat}(h:Li l)(n:Nat):Li (l.take n):=fun x hx=>h x (List.mem_of_mem_take hx)
theorem Li.drop {l:List Nat}(h:Li l)(n:Nat):Li (l.drop n):=fun x hx=>h x (List.mem_of_mem_drop hx)
theorem Li.append {l m:List Nat}(h:Li l)(k:Li m):Li (l++m):=fun x hx=>(List.mem_append.1 hx).elim (h x) (k x)
theorem qcc : ∀(l m:List Nat),natV (l++m)=natV l+4294967296^l.length*natV m
 | [],m=>by simp[natV]
 |x :: l,m=>by
  simp only[List.cons_append,natV,qcc l m,List.length_cons,Nat.pow_succ];rw[Nat.mul_add,<-Nat.mul_assoc,Nat.mul_comm 4294967296 (4294967296^l.length)];omega
theorem qan : ∀{l:List Nat},Li l->natV l<4294967296^l.length
 | [],_=>by simp[natV]
 |x :: l,h=>by
  have h1:=qan h.cons.2;have h2:=h.cons.1;simp only[natV,List.length_cons,Nat.pow_succ];omega
theorem qfg (n:Nat):natV (List.replicate n 0)=0:=by
 induction n with
 |zero=>rfl
 |succ n ih=>simp[List.replicate_succ,natV,ih]
def trimN (l:List Nat):Nat->Nat
 |0=>0
 |n+1=>if l[n]?=some 0 then trimN l n else n+1
def trimL (l:List Nat):List Nat:=l.take (trimN l l.length)
theorem q9b (l:List Nat):∀n,trimN l n<=n
 |0=>Nat.le_refl _
 |n+1=>by unfold trimN;split;exact Nat.le_succ_of_le (q9b l n);exact Nat.le_refl _
theorem q0p (l:List Nat):∀n,n<=l.length->natV (l.take (trimN l n))=natV (l.take n)
 |0,_=>by simp[trimN]
 |n+1,h=>by
  unfold trimN;split
  ·rename_i h0;rw[q0p l n (by omega),List.take_add_one,h0,qcc];simp[natV]
  ·rfl
theorem qm2 (l:List Nat):natV (trimL l)=natV l:=by rw[trimL,q0p l _ (Nat.le_refl _),List.take_length]
theorem Li.trimL {l:List Nat}(h:Li l):Li (trimL l):=h.take _
def Trim (l:List Nat):Prop:=∀x,l.getLast?=some x->x≠0
theorem q4k (l:List Nat):∀n,n<=l.length->∀m,trimN l n=m+1->l[m]?≠some 0
 |0,_,m,h=>by simp[trimN]at h
 |n+1,hn,m,h=>by
  unfold trimN at h;split at h
  ·exact q4k l n (by omega) m h
  ·rename_i h0;have:n=m:=by omega
   subst this;exact h0
theorem qqn (l:List Nat):Trim (trimL l):=by
 intro x hx;unfold trimL at hx;have hle:=q9b l l.length;rw[List.getLast?_eq_getElem?,List.length_take,Nat.min_eq_left hle]at hx;cases hq:trimN l l.length with
 |zero=>rw[hq]at hx;simp at hx
 |succ m=>
  rw[hq]at hx;have h1:=q4k l l.length (Nat.le_refl _) m hq;have h2:(l.take (m+1))[m+1-1]?=l[m]?:=by rw[List.getElem?_take];simp
  rw[h2]at hx;intro h0;subst h0;exact h1 hx
theorem q1m {l:List Nat}(h:Trim l):trimL l=l:=by
 unfold trimL;cases hl:l.length with
 |zero=>rw[List.eq_nil_of_length_eq_zero hl];rfl
 |succ n=>
  have h1:l[n]?≠some 0:=by
   intro h0;exact h 0 (by rw[List.getLast?_eq_getElem?,hl];exact h0) rfl
  unfold trimN;rw[if_neg h1,<-hl,List.take_length]
theorem qaep {l:List Nat}(h:Trim l)(hn:l≠[]):4294967296^(l.length-1)<=natV l:=by
 have⟨x,hx⟩:∃x,l.getLast?=some x:=by
  cases hq:l.getLast? with
  |none=>exact absurd (List.getLast?_eq_none_iff.1 hq) hn
  |some x=>exact⟨x,rfl⟩
 have hx0:=h x hx;have:l=l.dropLast++[x]:=by
  have:=List.dropLast_concat_getLast hn;rw[List.getLast?_eq_some_getLast hn]at hx;injection hx with hx
  rw[hx]at this;exact this.symm
 rw[this,qcc];simp only[natV,List.length_append,List.length_dropLast,List.length_singleton,Nat.mul_zero,Nat.add_zero];have e:l.length-1+1-1=l.length-1:=by omega
 rw[e];have:4294967296^(l.length-1)*1<=4294967296^(l.length-1)*x:=Nat.mul_le_mul_left _ (by omega);omega
theorem qeu {a b:List Nat}(ha:Li a)(hb:Trim b)(h:a.length<b.length):natV a<natV b:=by
 have h1:=qan ha;have h2:=qaep hb (fun e=>by rw[e]at h;simp at h);have h3:4294967296^a.length<=4294967296^(b.length-1):=Nat.pow_le_pow_right (by omega) (by omega);omega
theorem qgx {a b:List Nat}(ha:Li a){k:Nat}(hka:k<a.length)(hkb:k<b.length)(hd:a.drop (k+1)=b.drop (k+1))(h:a[k]<b[k]):natV a<natV b:=by
 have ea:a=a.take k++(a[k] :: a.drop (k+1)):=by rw[<-List.drop_eq_getElem_cons hka,List.take_append_drop]
 have eb:b=b.take k++(b[k] :: b.drop (k+1)):=by rw[<-List.drop_eq_getElem_cons hkb,List.take_append_drop]
 have h1:=qan (ha.take k);rw[ea,eb,qcc,qcc];simp only[List.length_take,Nat.min_eq_left (Nat.le_of_lt hka),Nat.min_eq_left (Nat.le_of_lt hkb),natV]at h1 ⊢;rw[hd];have h2:4294967296^k*(a[k]+4294967296*natV (b.drop (k+1)))+4294967296^k<=4294967296^k*(b[k]+4294967296*natV (b.drop (k+1))):=by
  rw[<-Nat.mul_succ];exact Nat.mul_le_mul_left _ (by omega)
 omega
def cmpN (x y:Nat):Int:=if x<y then -1 else if y<x then 1 else 0
set_option maxHeartbeats 4000000
attribute [local simp] qo5 qkn stepL gd
def u32 (x:Nat):V:=.int .u32 (x:Int)
def lim (l:List Nat):V:=.sl (l.map u32)
def i64 (n:Int):V:=.int .i64 n
@[simp] theorem qaps {x:Nat}:(u32 x).cells=[u32 x]:=rfl
@[simp] theorem qapu {l:List Nat}:(lim l).cells=[lim l]:=rfl
@[simp] theorem qapw {n:Int}:(i64 n).cells=[i64 n]:=rfl
@[simp] theorem qao6 {x:Nat}:(u32 x).isTup=false:=rfl
@[simp] theorem qao8 {l:List Nat}:(lim l).isTup=false:=rfl
@[simp] theorem qapa {n:Int}:(i64 n).isTup=false:=rfl
theorem qx7 : prog.fn qre=some qex:=by rfl
theorem qca (l:List Nat)(hl:l.length<=9223372036854775807):CQ prog qre [lim l] (lim (trimL l)):=by
 refine qag qx7 fun H=>?_
 simp[qex,lim];refine qb1 (fun k E H'=>H'=H/\E 0=lim l/\k<=l.length/\E 3=.int .i64 k/\trimN l k=trimN l l.length) l.length ?_ ?_
 ·simp[lim]
 ·rintro n E H' ⟨rfl,h0,hn,h3,ht⟩;refine qaq ?_;simp only[lim]at h0;rcases n with _|n
  ·simp[qec,h0,h3,trimL,<-ht,trimN]
  ·have e1:IntKind.i64.wrap (n:Int)=n:=by rw[wrap_i64]<;>omega
   have hlt:n<l.length:=by omega
   have p1:(0:Int)<=(n:Int)+1:=by omega
   by_cases hx:l[n]=0
   ·simp[qec,h0,h3,e1,hlt,hx,u32];refine⟨n,by omega,rfl,by omega,rfl,?_⟩;rw[<-ht,trimN,if_pos (by rw[List.getElem?_eq_getElem hlt,hx])]
   ·simp[qec,h0,h3,e1,hlt,hx,u32,p1,hn];rw[trimL,<-ht,trimN,if_neg (by rw[List.getElem?_eq_getElem hlt];simpa using hx),List.map_take]
@[simp] theorem qape (H:Heap)(l:List Nat)(vs:List V):frzVs H (lim l :: vs)=(frzVs H vs).bind fun p=>some (lim l :: p.1,p.2):=rfl
@[simp] theorem qapf (H:Heap)(k:IntKind)(n:Int)(vs:List V):frzVs H (.int k n :: vs)=(frzVs H vs).bind fun p=>some (.int k n :: p.1,p.2):=rfl
@[simp] theorem qan0 (H:Heap)(b:Bool)(vs:List V):frzVs H (.bool b :: vs)=(frzVs H vs).bind fun p=>some (.bool b :: p.1,p.2):=rfl
@[simp] theorem qapd (H:Heap):frzVs H []=some ([],H):=rfl
theorem qz7 : prog.fn qsq=some qir:=by rfl
theorem qwr (H:Heap)(l:List Nat):prep prog 111 H [lim l]=some ([lim l],H):=rfl
theorem qrl (a b:List Nat)(ha:a.length<=9223372036854775807)(hb:b.length<=9223372036854775807)(la:Li a)(lb:Li b):CQ prog qsq [lim a,lim b] (i64 (cmpN (natV a) (natV b))):=by
 refine qag qz7 fun H=>?_
 simp;refine qaa rfl rfl (qwr H a) (qca a ha) ?_;simp;refine qaa rfl rfl (qwr H b) (qca b hb) ?_;rw[<-qm2 a,<-qm2 b];have ta:=qqn a;have tb:=qqn b;have la':=la.trimL;have lb':=lb.trimL;have hla:(trimL a).length<=9223372036854775807:=by unfold trimL;simp;omega
 generalize trimL a=x at *
 generalize trimL b=y at *
 by_cases hlt:x.length<y.length
 ·have h1:¬((x.length:Int)=(y.length:Int)):=by omega
  have h2:=qeu la' tb hlt;simp[lim,hlt,h1,cmpN,h2,i64]
 ·by_cases hgt:y.length<x.length
  ·have h1:¬((x.length:Int)=(y.length:Int)):=by omega
   have h2:=qeu lb' ta hgt;have h3:¬natV x<natV y:=by omega
   simp[lim,hlt,h1,cmpN,h2,h3,i64]
  ·have heq:x.length=y.length:=by omega
   simp[lim,heq];refine qb1 (fun k E H'=>H'=H/\E 0=lim x/\E 1=lim y/\k<=x.length/\E 5=.int .i64 ((k:Int)-1)/\x.drop k=y.drop k) x.length ?_ ?_
   ·have e1:IntKind.i64.wrap ((y.length:Int)-1)=(y.length:Int)-1:=by rw[wrap_i64]<;>omega
    have e2:y.drop x.length=[]:=by rw[heq];exact List.drop_length
    simp[lim,e1,heq]
   ·rintro n E H' ⟨rfl,h0,h1,hn,h5,hd⟩;refine qaq ?_;simp only[lim]at h0 h1;rcases n with _|n
    ·have e1:x=y:=by simpa using hd
     have e2:¬((0:Int)<=-1):=by omega
     simp[qdf,h5,e1,cmpN,i64]
    ·have e1:(n+1:Int)-1=n:=by omega
     have hx:n<x.length:=by omega
     have hy:n<y.length:=by omega
     have p1:((0:Int)<=n):=by omega
     by_cases hlt:x[n]<y[n]
     ·have h2:=qgx la' hx hy hd hlt;have h3:((x[n]:Int)<(y[n]:Int)):=by omega
      simp[qdf,h0,h1,h5,e1,p1,hx,hy,u32,hlt,cmpN,h2,i64]
     ·by_cases hgt:y[n]<x[n]
      ·have h2:=qgx lb' hy hx hd.symm hgt;have h3:¬natV x<natV y:=by omega
       simp[qdf,h0,h1,h5,e1,p1,hx,hy,u32,hlt,hgt,cmpN,h2,h3,i64]
      ·have e2:IntKind.i64.wrap ((n:Int)-1)=(n:Int)-1:=by rw[wrap_i64]<;>omega
       simp[qdf,h0,h1,h5,e1,p1,hx,hy,u32,hlt,hgt,e2];refine⟨n,by omega,rfl,rfl,by omega,rfl,?_⟩;rw[List.drop_eq_getElem_cons hx,List.drop_eq_getElem_cons hy,hd]
       congr 1
       omega
end Go.Abs
namespace Go.Abs
theorem qaja : prog.fn qm5=some qee:=by rfl
def bitL (n:Nat):Nat:=if n=0 then 0 else Nat.log2 n+1
theorem qalr : ∀i:Fin 256,str_0[i.val]?=some (UInt8.ofNat (bitL i.val)):=by decide +kernel
theorem q9c {i:Nat}(h:i<256):str_0[i]?=some (UInt8.ofNat (bitL i)):=qalr ⟨i,h⟩
theorem qagr {i:Nat}(h:i<256):bitL i<=8:=by
 have:∀i:Fin 256,bitL i.val<=8:=by decide +kernel
 exact this ⟨i,h⟩
theorem qit {n k:Nat}(h:2^k<=n):bitL n=bitL (n/2^k)+k:=by
 have h0:0<2^k:=Nat.two_pow_pos k;have h1:n≠0:=by omega
 have h2:n/2^k≠0:=by
  have:=(Nat.le_div_iff_mul_le h0 (x:=1) (y:=n)).2 (by omega);omega
 unfold bitL;rw[if_neg h1,if_neg h2];have:Nat.log2 n=Nat.log2 (n/2^k)+k:=by
  rw[Nat.log2_eq_iff h1];have h3:=(Nat.log2_eq_iff h2).1 rfl;rw[Nat.pow_add,show Nat.log2 (n/2^k)+k+1=(Nat.log2 (n/2^k)+1)+k by omega,Nat.pow_add];exact⟨(Nat.le_div_iff_mul_le h0).1 h3.1,(Nat.div_lt_iff_lt_mul h0).1 h3.2⟩
 omega
theorem q3z {n b:Nat}(h0:n≠0)(h1:2^b<=n)(h2:n<2^(b+1)):bitL n=b+1:=by
 unfold bitL;rw[if_neg h0,(Nat.log2_eq_iff h0).2 ⟨h1,h2⟩]
theorem qa3 {n:Nat}(h:n≠0):2^(bitL n-1)<=n/\n<2^bitL n/\0<bitL n:=by
 unfold bitL;rw[if_neg h];have:=(Nat.log2_eq_iff h).1 rfl;exact⟨this.1,this.2,by omega⟩
theorem pow32 (n:Nat):4294967296^n=2^(32*n):=by rw[Nat.pow_mul]
theorem qaat {l:List Nat}{t:Nat}(hl:Li l)(ht:t≠0):bitL (natV (l++[t]))=32*l.length+bitL t:=by
 have h1:=qan hl;obtain⟨h2,h3,h4⟩:=qa3 ht;rw[qcc];simp only[natV,Nat.mul_zero,Nat.add_zero];rw[pow32]at h1 ⊢;have e1:2^(32*l.length)*t ≥ 2^(32*l.length)*2^(bitL t-1):=Nat.mul_le_mul_left _ h2;have e2:2^(32*l.length)*(t+1)<=2^(32*l.length)*2^bitL t:=Nat.mul_le_mul_left _ h3;rw[<-Nat.pow_add]at e1 e2;rw[Nat.mul_add,Nat.mul_one]at e2;have hp:=Nat.two_pow_pos (32*l.length+(bitL t-1));have:=q3z (n:=natV l+2^(32*l.length)*t) (b:=32*l.length+(bitL t-1)) (by omega) (by omega) (by rw[show 32*l.length+(bitL t-1)+1=32*l.length+bitL t by omega];omega);omega
theorem qt5 {t:Nat}(h:t<4294967296):bitL t<=32:=by
 unfold bitL;split
 ·omega
 ·rename_i h0;have:=(Nat.log2_lt h0 (k:=32)).2 (by omega);omega
attribute [local simp] qo5 qkn stepL gd qa1
theorem qvw (x k:Nat):Int.fdiv (x:Int) (k:Int)=((x/k:Nat):Int):=by
 rw[Int.fdiv_eq_ediv_of_nonneg _ (by omega)];rfl
theorem qab0 (x:Nat):Int.fdiv (x:Int) 65536=((x/65536:Nat):Int):=qvw x 65536
theorem qaae (x:Nat):Int.fdiv (x:Int) 256=((x/256:Nat):Int):=qvw x 256
theorem qalm {n:Int}(h1:0<=n)(h2:n<256):IntKind.wrap .u8 n=n:=by
 simp only[IntKind.wrap,IntKind.bits,IntKind.signed];simp;omega
theorem qai1 {y:Nat}(h:y<256):((UInt8.ofNat (bitL y)).toNat:Int)=bitL y:=by
 have:=qagr h;simp;omega
@[simp] theorem q3y : IntKind.u32.bits=32:=rfl
@[simp] theorem qaas : IntKind.u64.bits=64:=rfl
@[simp] theorem qaqp : IntKind.i64.bits=64:=rfl
theorem w8 : IntKind.i64.wrap 8=8:=by decide
theorem w24 : IntKind.i64.wrap 24=24:=by decide
set_option maxHeartbeats 1000000 in
theorem qaa6 (x:Nat)(hx:x<4294967296):CQ prog qm5 [u32 x] (i64 (bitL x)):=by
 refine qag qaja fun H=>?_
 have fin':∀(y k:Nat),y<256->k<=24->bitL x=bitL y+k->IntKind.i64.wrap ((k:Int)+IntKind.i64.wrap (((UInt8.ofNat (bitL y)).toNat:Nat):Int))=bitL x:=by
  intro y k hy hk he;have:=qagr hy;rw[qai1 hy,wrap_i64 (n:=(bitL y:Int)) (by omega) (by omega),wrap_i64 (by omega) (by omega),he];omega
 have u8':∀y:Nat,y<256->IntKind.u8.wrap (y:Int)=y:=fun y hy=>qalm (by omega) (by omega)
 by_cases h1:x<65536
 ·have e1:¬((65536:Int)<=x):=by omega
  by_cases h2:x<256
  ·have e2:¬((256:Int)<=x):=by omega
   have:=fin' x 0 h2 (by omega) rfl;simp[u32,e1,e2,u8' x h2,q9c h2,i64];simpa using this
  ·have e2:((256:Int)<=x):=by omega
   have⟨y,hy⟩:∃y,y=x/256:=⟨_,rfl⟩
   have f1:Int.fdiv (x:Int) 256=(y:Int):=by rw[hy];exact qaae x
   have h3:y<256:=by omega
   have:=fin' y 8 h3 (by omega) (by rw[hy];exact qit (k:=8) (by omega));simp[u32,e1,e2,f1,w8,u8' _ h3,q9c h3,i64];simpa using this
 ·have e1:((65536:Int)<=x):=by omega
  have⟨y,hy⟩:∃y,y=x/65536:=⟨_,rfl⟩
  have f1:Int.fdiv (x:Int) 65536=(y:Int):=by rw[hy];exact qab0 x
  have he:bitL x=bitL y+16:=by rw[hy];exact qit (k:=16) (by omega)
  by_cases h2:y<256
  ·have e2:¬((256:Int)<=y):=by omega
   have:=fin' y 16 h2 (by omega) he;simp[u32,e1,e2,f1,u8' _ h2,q9c h2,i64];simpa using this
  ·have e2:((256:Int)<=y):=by omega
   have⟨z,hz⟩:∃z,z=y/256:=⟨_,rfl⟩
   have f2:Int.fdiv (y:Int) 256=(z:Int):=by rw[hz];exact qaae y
   have h3:z<256:=by omega
   have he2:bitL y=bitL z+8:=by rw[hz];exact qit (k:=8) (by omega)
   have:=fin' z 24 h3 (by omega) (by rw[he,he2]);simp[u32,e1,e2,f1,f2,w24,u8' _ h3,q9c h3,i64];simpa using this
attribute [local simp] qo5 qkn stepL gd
theorem qx8 : prog.fn qrf=some qg3:=by rfl
@[simp] theorem qaqj (g:Nat)(hg:(prog.fn g).elim true (fun f=>!f.raw)=true)(H:Heap)(l:List Nat):prep prog g H [lim l]=some ([lim l],H):=by
 unfold prep;cases hq:prog.fn g with
 |none=>rfl
 |some f=>rw[hq]at hg;simp at hg;simp[hg]
theorem q0b (l:List Nat):l=[]\/∃k t,l=k++[t]:=by
 cases l with
 |nil=>exact .inl rfl
 |cons x xs=>exact .inr ⟨(x :: xs).dropLast,(x :: xs).getLast (by simp),(List.dropLast_concat_getLast (by simp)).symm⟩
set_option maxHeartbeats 1000000 in
theorem qo8 (a:List Nat)(ha:a.length<=100000000)(la:Li a):CQ prog qrf [lim a] (i64 (bitL (natV a))):=by
 refine qag qx8 fun H=>?_
 simp;refine qaa rfl rfl (qwr H a) (qca a (by omega)) ?_;rw[<-qm2 a];have ta:=qqn a;have la':=la.trimL;have hla:(trimL a).length<=100000000:=by unfold trimL;simp;omega
 generalize trimL a=x at *
 rcases q0b x with rfl|⟨k,t,rfl⟩
 ·simp[lim,natV,bitL,i64]
 ·have hk:k.length<=100000000:=by simp at hla;omega
  have ht:t≠0:=ta t (by simp);have ht2:t<4294967296:=la' t (by simp);have lk:Li k:=fun y hy=>la' y (by simp[hy])
  have e1:¬((k.length:Int)+1=0):=by omega
  have e2:IntKind.i64.wrap (k.length:Int)=k.length:=by rw[wrap_i64]<;>omega
  have e3:IntKind.i64.wrap (32*(k.length:Int))=32*k.length:=by rw[wrap_i64]<;>omega
  simp[lim,e1,e2,e3];refine qaa rfl rfl (vs:=[u32 t]) rfl (qaa6 t ht2) ?_;have e4:IntKind.i64.wrap (32*(k.length:Int)+bitL t)=bitL (natV (k++[t])):=by
   have:=qt5 ht2;rw[qaat lk ht,wrap_i64]<;>omega
  simp[i64,e4]
end Go.Abs
