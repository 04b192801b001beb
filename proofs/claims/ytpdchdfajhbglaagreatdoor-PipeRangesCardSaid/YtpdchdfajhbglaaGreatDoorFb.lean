/- Parts of the proof: FpCode2, FpCode3, FpCode4, FpCode5, FpCode6, FpCode7, FpCode8, FpCode9, FpCode10, FpFuns, FpRules, FpProg, FpStpEq, FpWK, FpWX, FpNum, FpNat, FpLen, FpLen2, FpBits. -/
import Derived.Test.YtpdchdfajhbglaaGreatDoorFa
import Derived.Test.YtpdchdfajhbglaaGreatDoorF0
namespace Go.Abs
@[simp] def qg4 : AFn:=nG [(.cell 4 true 7)] (nS (nF [oU 2 7 0,oL 4]) (nS (nS (nF [oI 9 7 2,oP 10 (.bslice 7 1 (.agg nI) [(0,(.t 9))]),oA1 11 106 10,oW 12 11,mV 13 12,oE 14 13 1,oC1 15 13 186 14,gF 16 13 (nU 15),oX 17 13 16]) (nC 17 (nR [oA0 18 107,oK 7 4 18 false]) .skip)) (nS (nF [oQ 20 0 2,oI 21 3 20,mV 22 1,oA2 23 199 21 22,mV 19 23,oR 24 0 19,oR 25 1 19,oM 5,oK 3 5 24 false,mV 6 25]) (nS (nF [oQ 27 3 2,oI 28 3 27,mV 29 1,
 oA2 30 200 28 29,mV 26 30,oR 31 0 26,oR 32 1 26,oM 7,oK 3 7 31 false,mV 8 32]) (nR [oI 33 3 5,mV 34 6,oI 35 3 7,mV 36 8,oA4 37 189 33 34 35 36,oK 7 4 37 false])))))
@[simp] def qg6 : AFn:=nG [(.cell 2 true 7)] (nS (nF [oU 1 3 0,oL 2]) (nS (nS (nF [oI 3 3 1,oA1 4 51 3,oW 5 4]) (nC 5 (nR [oA0 6 107,oK 7 2 6 false]) .skip)) (nR [oI 7 3 1,oI 8 3 1,oP 9 (.build nI [(0,3,(.t 7)),(3,3,(.t 8))]),oK 7 2 9 false])))
@[simp] def qkt : AFn:=nG [(.cell 2 true 7)] (nS (nF [oU 1 7 0,oL 2]) (nS (nS (nF [oI 7 7 1,oP 8 (.bslice 7 1 (.agg nI) [(0,(.t 7))]),oA1 9 106 8,oW 10 9]) (nC 10 (nR [oA0 11 107,oK 7 2 11 false]) .skip)) (nS (nF [oI 13 7 1,oA1 14 165 13,mV 12 14,oR 15 0 12,oR 16 1 12,oM 3,oK 3 3 15 false,mV 4 16]) (nS (nF [oI 18 7 1,oA1 19 164 18,mV 17 19,oR 20 0 17,oR 21 1 17,oM 5,oK 3 5 20 false,mV 6 21]) (nR [oI 22 3 3,oI 23 3 5,oP 24 (.build nI [(0,3,(.t 22)),(3,3,(.t 23))]),
 oK 7 2 24 false])))))
@[simp] def qg3 : AFn:=nG [(.cell 4 true 7)] (nS (nF [oU 2 7 0,oL 4]) (nS (nS (nF [oI 9 7 2,oP 10 (.bslice 7 1 (.agg nI) [(0,(.t 9))]),oA1 11 106 10,oW 12 11]) (nC 12 (nR [oA0 13 107,oK 7 4 13 false]) .skip)) (nS (nF [oQ 15 0 2,oI 16 3 15,mV 17 1,oA2 18 204 16 17,mV 14 18,oR 19 0 14,oR 20 1 14,oM 5,oK 3 5 19 false,mV 6 20]) (nS (nF [oQ 22 3 2,oI 23 3 22,mV 24 1,oA2 25 204 23 24,mV 21 25,oR 26 0 21,oR 27 1 21,oM 7,oK 3 7 26 false,mV 8 27]) (nR [oI 28 3 5,
 mV 29 6,oI 30 3 7,mV 31 8,oA4 32 189 28 29 30 31,oK 7 4 32 false])))))
@[simp] def qg0 : AFn:=nG [(.cell 4 true 3),(.tmp 5)] (nS (nF [oU 2 7 0,oM 4,oZ 5 false]) (nS (nS (nF [oI 8 7 2,oP 9 (.bslice 7 1 (.agg nI) [(0,(.t 8))]),oA1 10 106 9,oW 11 10,mV 12 11,oE 13 12 1,oC1 14 12 186 13,gF 15 12 (nU 14),oX 16 12 15]) (nC 16 (nR [oP 17 (.build nD []),oK 3 4 17 false,oZ 5 false]) .skip)) (nS (nT [oQ 19 3 2,oI 20 3 19,oQ 21 0 2,oI 22 3 21,oA1 23 198 22,mV 24 1,oA3 25 188 20 23 24,mV 18 25,
 oR 26 0 18,oR 27 1 18,oM 6,oK 3 6 26 true,mV 7 27]) (nR [oI 28 3 6,mV 29 7,oO 30 .eql 29 0,oK 3 4 28 false,mV 5 30]))))
@[simp] def qkq : AFn:=nG [(.cell 2 true 3),(.tmp 3)] (nS (nF [oU 1 7 0,oM 2,oZ 3 false]) (nS (nS (nF [oI 4 7 1,oP 5 (.bslice 7 1 (.agg nI) [(0,(.t 4))]),oA1 6 106 5,oW 7 6]) (nC 7 (nR [oP 8 (.build nD []),oK 3 2 8 false,oZ 3 false]) .skip)) (nS (nT [oQ 9 0 1,oI 10 3 9,oA1 11 205 10,oQ 12 3 1,oI 13 3 12,oB1 14 205 13,oB2 15 104 11 14,oK 3 2 15 true,oZ 3 true]) .ret)))
@[simp] def qkp : AFn:=nG [(.cell 2 true 3),(.tmp 3)] (nS (nF [oU 1 7 0,oM 2,oZ 3 false]) (nS (nS (nF [oI 4 7 1,oP 5 (.bslice 7 1 (.agg nI) [(0,(.t 4))]),oA1 6 106 5,oW 7 6]) (nC 7 (nR [oP 8 (.build nD []),oK 3 2 8 false,oZ 3 false]) .skip)) (nS (nS (nF [oI 9 7 1,oA1 10 173 9,oO 11 .eql 10 0]) (nC 11 (nR [oP 12 (.build nD []),oK 3 2 12 false,oZ 3 true]) .skip)) (nS (nT [oQ 13 0 1,
 oI 14 3 13,oA1 15 205 14,oQ 16 3 1,oI 17 3 16,oB1 18 205 17,oB2 19 105 15 18,oK 3 2 19 true,oZ 3 true]) .ret))))
@[simp] def qi0 : AFn:=nG [(.tmp 2)] (nS (nF [oU 1 7 0,oP 2 (nV 0)]) (nS (.block 0 (nS (nF [oI 4 7 1,oP 5 (.bslice 7 1 (.agg nI) [(0,(.t 4))]),oA1 6 106 5,oW 7 6,mV 3 7]) (nC 3 (nR [oP 2 (nV 0)]) (nS (nF [oQ 9 0 1,oI 10 3 9,oA1 11 79 10,oO 12 .gtr 11 0,mV 8 12]) (nC 8 (nR [oP 2 (nV 1)]) (nS (nF [oQ 14 3 1,oI 15 3 14,oA1 16 79 15,oO 17 .lss 16 0,mV 13 17]) (nC 13 (nR [oP 2 (nV (-1))]) .skip))))))) (nR [oP 2 (nV 0)])))
@[simp] def qiz : AFn:=nG [(.cell 4 true 7)] (nS (nF [oU 2 7 0,oL 4]) (nS (nS (nF [oI 9 7 2,oP 10 (.bslice 7 1 (.agg nI) [(0,(.t 9))]),oA1 11 106 10,oW 12 11,mV 13 12,oE 14 13 1,oC1 15 13 186 14,gF 16 13 (nU 15),oX 17 13 16,mV 18 17,gF 19 18 (nA 0 2),oG 20 18 true 3 19,oC1 21 18 79 20,gF 22 18 (nX .leq 21 0),oX 23 18 22]) (nC 23 (nR [oA0 24 107,oK 7 4 24 false]) .skip)) (nS (nF [oQ 26 0 2,oI 27 3 26,
 mV 28 1,oA2 29 207 27 28,mV 25 29,oR 30 0 25,oR 31 1 25,oM 5,oK 3 5 30 false,mV 6 31]) (nS (nF [oQ 33 3 2,oI 34 3 33,mV 35 1,oA2 36 208 34 35,mV 32 36,oR 37 0 32,oR 38 1 32,oM 7,oK 3 7 37 false,mV 8 38]) (nR [oI 39 3 5,mV 40 6,oI 41 3 7,mV 42 8,oA4 43 189 39 40 41 42,oK 7 4 43 false])))))
@[simp] def qg5 : AFn:=nG [(.cell 6 true 7)] (nS (nF [oU 3 7 0,oL 6]) (nS (nS (nF [oI 11 7 3,oP 12 (.bslice 7 1 (.agg nI) [(0,(.t 11))]),oA1 13 106 12,oW 14 13,mV 15 14,oE 16 15 2,oC1 17 15 186 16,gF 18 15 (nU 17),oX 19 15 18,mV 20 19,oE 21 20 1,gF 22 20 (nX .lss 21 0),oX 23 20 22,mV 24 23,oE 25 24 1,gF 26 24 (nX .gtr 25 16),oX 27 24 26]) (nC 27 (nR [oA0 28 107,oK 7 6 28 false]) .skip)) (nS (nS (nF [mV 29 1,
 oO 30 .eql 29 0]) (nC 30 (nR [oP 31 (.call (.f 210) [(.c (.int .i64 1))]),oA1 32 152 31,oK 7 6 32 false]) .skip)) (nS (nS (nF [mV 33 1,oO 34 .rem 33 2,oO 35 .eql 34 0]) (nC 35 (nF [oI 36 7 3,oA1 37 156 36,oK 7 3 37 false]) .skip)) (nS (nF [oQ 39 0 3,oI 40 3 39,mV 41 1,mV 42 2,oP 43 (.call (.f 211) [(.t 40),(.t 41),(.t 42),(.c (.bool false))]),mV 38 43,oR 44 0 38,oR 45 1 38,oM 7,oK 3 7 44 false,mV 8 45]) (nS (nF [oQ 47 3 3,oI 48 3 47,mV 49 1,mV 50 2,oP 51 (.call (.f 211) [(.t 48),(.t 49),(.t 50),(.c (.bool true))]),
 mV 46 51,oR 52 0 46,oR 53 1 46,oM 9,oK 3 9 52 false,mV 10 53]) (nR [oI 54 3 7,mV 55 8,oI 56 3 9,mV 57 10,oA4 58 189 54 55 56 57,oK 7 6 58 false])))))))
@[simp] def qec : AFn:=nG [(.tmp 2)] (nS (nF [oZ 2 false]) (nR [mV 3 0,oO 4 .geq 3 8,mV 5 4,oF 6 5 0,gT 7 5 (nX .leq 6 512),oY 8 5 7,mV 2 8]))
@[simp] def qio : AFn:=nG [(.cell 6 true 3),(.tmp 7)] (nS (nF [oU 3 3 0,oU 4 3 1,oM 6,oP 7 (nV 0)]) (nR [oI 8 3 3,oI 9 3 4,mV 10 2,oP 11 (.call (.f 216) [(.t 8),(.t 9),(.t 10),(.c (.bool false))]),oR 12 0 11,oR 13 1 11,oK 3 6 12 false,mV 7 13]))
@[simp] def qmk : AFn:=nG [(.cell 6 true 3),(.tmp 7)] (nS (nF [oU 3 3 0,oU 4 3 1,oM 6,oP 7 (nV 0)]) (nR [oI 8 3 3,oI 9 3 4,mV 10 2,oP 11 (.call (.f 216) [(.t 8),(.t 9),(.t 10),(.c (.bool true))]),oR 12 0 11,oR 13 1 11,oK 3 6 12 false,mV 7 13]))
@[simp] def qiw : AFn:=nG [(.cell 8 true 7)] (nS (nF [oU 4 3 0,oU 6 3 2,oL 8]) (nS (nS (nF [mV 9 1,oO 10 .neq 9 0,mV 11 10,oE 12 11 3,gF 13 11 (nX .neq 12 0),oX 14 11 13]) (nC 14 (nR [oA0 15 107,oK 7 8 15 false]) .skip)) (nR [oI 16 3 4,oI 17 3 6,oP 18 (.build nI [(0,3,(.t 16)),(3,3,(.t 17))]),oK 7 8 18 false])))
def qdi : AC:=(nS (nF [oO 42 .lss 41 4]) (nS (nC 42 .skip (.exit 0)) (nS (.block 1 (nS (nF [mV 43 41,oP 44 (.index true 4 6 (.t 40) (.t 41)),oP 14 (.new 6 (.agg [(.bool false),.nil,(.int .i64 0),(.bool false),.nil,(.int .i64 0)])),mV 13 43,oK 6 14 44 false]) (nS (nF [mV 46 3,oP 47 (.aiaddr 2 3 (.t 14) (.c (.int .i64 0))),oI 48 3 47,oP 49 (.aiaddr 2 3 (.t 14) (.c (.int .i64 1))),oI 50 3 49,mV 51 2,oP 52 (.call (.t 46) [(.t 48),(.t 50),(.t 51)]),mV 45 52,oR 53 0 45,oR 54 1 45,oM 15,oK 3 15 53 false,mV 16 54]) (nS (nF [mV 56 4,oP 57 (.aiaddr 2 3 (.t 14) (.c (.int .i64 0))),
 oI 58 3 57,oP 59 (.aiaddr 2 3 (.t 14) (.c (.int .i64 1))),oI 60 3 59,mV 61 2,oP 62 (.call (.t 56) [(.t 58),(.t 60),(.t 61)]),mV 55 62,oR 63 0 55,oR 64 1 55,oM 17,oK 3 17 63 false,mV 18 64]) (nS (nS (nF [mV 65 16,oO 66 .neq 65 0,mV 67 66,oE 68 67 18,gF 69 67 (nX .neq 68 0),oX 70 67 69]) (nC 70 (nR [oA0 71 107,oK 7 10 71 false]) .skip)) (nS (nS (nF [mV 72 13,oO 73 .eql 72 0,mV 74 73,oG 75 74 true 3 15,gF 76 74 (nA 0 12),oG 77 74 true 3 76,oC2 78 74 52 75 77,gF 79 74 (nX .lss 78 0),
 oX 80 74 79]) (nC 80 (nF [oI 81 3 15,oQ 82 0 12,oK 3 82 81 false]) .skip)) (nS (nF [mV 83 13,oO 84 .eql 83 0,mV 85 84,oG 86 85 true 3 17,gF 87 85 (nA 3 12),oG 88 85 true 3 87,oC2 89 85 52 86 88,gF 90 85 (nX .gtr 89 0),oX 91 85 90]) (nC 91 (nF [oI 92 3 17,oQ 93 3 12,oK 3 93 92 false]) .skip)))))))) (nF [oO 94 .add 41 1,mV 41 94]))))
@[simp] def qiy : AFn:=nG [(.cell 10 true 7)] (nS (nF [oU 5 7 0,oU 6 7 1,oL 10]) (nS (nF [oQ 19 0 5,oI 20 3 19,oQ 21 0 6,oI 22 3 21,oP 23 (.build [(.bool false),.nil,(.int .i64 0),(.bool false),.nil,(.int .i64 0)] [(0,3,(.t 20)),(3,3,(.t 22))]),oQ 24 0 5,oI 25 3 24,oQ 26 3 6,oI 27 3 26,oP 28 (.build [(.bool false),.nil,(.int .i64 0),(.bool false),.nil,(.int .i64 0)] [(0,3,(.t 25)),(3,3,(.t 27))]),oQ 29 3 5,oI 30 3 29,oQ 31 0 6,oI 32 3 31,oP 33 (.build [(.bool false),.nil,(.int .i64 0),(.bool false),.nil,(.int .i64 0)] [(0,3,(.t 30)),(3,3,(.t 32))]),oQ 34 3 5,oI 35 3 34,
 oQ 36 3 6,oI 37 3 36,oP 38 (.build [(.bool false),.nil,(.int .i64 0),(.bool false),.nil,(.int .i64 0)] [(0,3,(.t 35)),(3,3,(.t 37))]),oP 39 (.build [(.bool false),.nil,(.int .i64 0),(.bool false),.nil,(.int .i64 0),(.bool false),.nil,(.int .i64 0),(.bool false),.nil,(.int .i64 0),(.bool false),.nil,(.int .i64 0),(.bool false),.nil,(.int .i64 0),(.bool false),.nil,(.int .i64 0),(.bool false),.nil,(.int .i64 0)] [(0,6,(.t 23)),(6,6,(.t 28)),(12,6,(.t 33)),(18,6,(.t 38))]),oP 11 (.new 24 (.agg [(.bool false),.nil,(.int .i64 0),(.bool false),.nil,(.int .i64 0),(.bool false),.nil,(.int .i64 0),(.bool false),.nil,(.int .i64 0),(.bool false),.nil,(.int .i64 0),(.bool false),.nil,(.int .i64 0),(.bool false),.nil,(.int .i64 0),(.bool false),.nil,(.int .i64 0)])),
 oK 24 11 39 false]) (nS (nF [oL 12]) (nS (nS (nF [oI 40 24 11,oP 41 (nV 0)]) (.block 0 (.loop qdi))) (nR [oI 95 7 12,oK 7 10 95 false])))))
@[simp] def qim : AFn:=nG [(.cell 6 true 3),(.tmp 7)] (nS (nF [oU 3 3 0,oU 4 3 1,oM 6,oP 7 (nV 0)]) (nR [oI 8 3 3,oI 9 3 4,mV 10 2,oP 11 (.call (.f 217) [(.t 8),(.t 9),(.t 10),(.c (.bool false))]),oR 12 0 11,oR 13 1 11,oK 3 6 12 false,mV 7 13]))
@[simp] def qmi : AFn:=nG [(.cell 6 true 3),(.tmp 7)] (nS (nF [oU 3 3 0,oU 4 3 1,oM 6,oP 7 (nV 0)]) (nR [oI 8 3 3,oI 9 3 4,mV 10 2,oP 11 (.call (.f 217) [(.t 8),(.t 9),(.t 10),(.c (.bool true))]),oR 12 0 11,oR 13 1 11,oK 3 6 12 false,mV 7 13]))
@[simp] def qin : AFn:=nG [(.cell 6 true 3),(.tmp 7)] (nS (nF [oU 3 3 0,oU 4 3 1,oM 6,oP 7 (nV 0)]) (nR [oI 8 3 3,oI 9 3 4,mV 10 2,oP 11 (.call (.f 218) [(.t 8),(.t 9),(.t 10),(.c (.bool false))]),oR 12 0 11,oR 13 1 11,oK 3 6 12 false,mV 7 13]))
@[simp] def qmj : AFn:=nG [(.cell 6 true 3),(.tmp 7)] (nS (nF [oU 3 3 0,oU 4 3 1,oM 6,oP 7 (nV 0)]) (nR [oI 8 3 3,oI 9 3 4,mV 10 2,oP 11 (.call (.f 218) [(.t 8),(.t 9),(.t 10),(.c (.bool true))]),oR 12 0 11,oR 13 1 11,oK 3 6 12 false,mV 7 13]))
@[simp] def qkw : AFn:=nG [(.tmp 2)] (nS (nF [oZ 2 false]) (nR [mV 3 0,oO 4 .geq 3 8,mV 5 4,oF 6 5 0,gT 7 5 (nX .leq 6 512),oY 8 5 7,mV 2 8]))
@[simp] def qok : AFn:=nG [(.cell 2 true 3)] (nS (nF [oU 1 3 0,oM 2]) (nS (nS (nF [oI 3 3 1,oA1 4 51 3,oW 5 4,mV 6 5,gF 7 6 (nA 1 1),oG 8 6 false 1 7,gF 9 6 (.len (.t 8)),gF 10 6 (nX .eql 9 0),oX 11 6 10]) (nC 11 (nR [oP 12 (.build nD []),oK 3 2 12 false]) .skip)) (nS (nT [oQ 13 0 1,oJ 14 13,oW 15 14,oQ 16 1 1,oJ 17 16,oA1 18 221 17,oQ 19 2 1,oJ 20 19,oP 21 (.build nD [(0,1,(.t 15)),(1,1,(.t 18)),(2,1,(.t 20))]),oK 3 2 21 true]) .ret)))
@[simp] def qob : AFn:=nG [(.cell 4 true 3),(.tmp 5)] (nS (nF [oU 2 3 0,oM 4,oP 5 (nV 0)]) (nR [oI 6 3 2,mV 7 1,oP 8 (.call (.f 222) [(.t 6),(.t 7),(.c (.bool false))]),oR 9 0 8,oR 10 1 8,oK 3 4 9 false,mV 5 10]))
@[simp] def qsd : AFn:=nG [(.cell 4 true 3),(.tmp 5)] (nS (nF [oU 2 3 0,oM 4,oP 5 (nV 0)]) (nR [oI 6 3 2,mV 7 1,oP 8 (.call (.f 222) [(.t 6),(.t 7),(.c (.bool true))]),oR 9 0 8,oR 10 1 8,oK 3 4 9 false,mV 5 10]))
@[simp] def qk8 : AFn:=nG [(.cell 4 true 3),(.tmp 5)] (nS (nF [oU 2 3 0,oM 4,oP 5 (nV 0)]) (nS (nS (nF [oI 6 3 2,oA1 7 51 6,oW 8 7,mV 9 8,oE 10 9 1,oC1 11 9 223 10,gF 12 9 (nU 11),oX 13 9 12]) (nC 13 (nR [oP 14 (.build nD []),oK 3 4 14 false,oP 5 (nV 1)]) .skip)) (nR [oQ 15 0 2,oJ 16 15,oQ 17 1 2,oJ 18 17,oQ 19 2 2,oJ 20 19,mV 21 1,oN 22 .add 20 21,oA3 23 225 16 18 22,oA1 24 224 23,oR 25 0 24,oR 26 1 24,oK 3 4 25 false,mV 5 26])))
@[simp] def qon : AFn:=nG [(.cell 2 true 3)] (nS (nF [oU 1 3 0,oM 2]) (nS (nS (nF [oI 3 3 1,oA1 4 51 3,oW 5 4,mV 6 5,gF 7 6 (nA 1 1),oG 8 6 false 1 7,gF 9 6 (.len (.t 8)),gF 10 6 (nX .eql 9 0),oX 11 6 10]) (nC 11 (nR [oP 12 (.build nD []),oK 3 2 12 false]) .skip)) (nS (nT [oQ 13 1 1,oJ 14 13,oA1 15 221 14,oQ 16 2 1,oJ 17 16,oP 18 (.build nD [(1,1,(.t 15)),(2,1,(.t 17))]),oK 3 2 18 true]) .ret)))
@[simp] def qgs : AFn:=nG [(.cell 4 true 3),(.tmp 5)] (nS (nF [oU 2 3 0,oM 4,oP 5 (nV 0)]) (nR [oI 6 3 2,mV 7 1,oP 8 (.call (.f 230) [(.t 6),(.t 7),(.c (.bool false))]),oR 9 0 8,oR 10 1 8,oK 3 4 9 false,mV 5 10]))
@[simp] def qkf : AFn:=nG [(.cell 4 true 3),(.tmp 5)] (nS (nF [oU 2 3 0,oM 4,oP 5 (nV 0)]) (nR [oI 6 3 2,mV 7 1,oP 8 (.call (.f 230) [(.t 6),(.t 7),(.c (.bool true))]),oR 9 0 8,oR 10 1 8,oK 3 4 9 false,mV 5 10]))
@[simp] def qol : AFn:=nG [(.cell 2 true 3)] (nS (nF [oM 2]) (nS (nF [mV 4 0,oP 5 (.conv .u64 (.t 4)),mV 3 5]) (nS (nS (nF [mV 6 0,oO 7 .lss 6 0]) (nC 7 (nF [mV 8 3,oP 9 (.un .neg (.t 8)),mV 3 9]) .skip)) (nR [mV 10 0,oO 11 .lss 10 0,mV 12 3,oP 13 (.conv .u32 (.t 12)),mV 14 3,oP 15 (.bin .num .shr (.t 14) (.c (.int .u64 32))),oP 16 (.conv .u32 (.t 15)),oP 17 (.bslice 1 2 (.int .u32 0) [(0,(.t 13)),(1,(.t 16))]),oP 18 (.call (.f 225) [(.t 11),(.t 17),(.c (.int .i64 0))]),oK 3 2 18 false]))))
@[simp] def qkl : AFn:=nG [(.cell 8 true 3),(.tmp 9)] (nS (nF [oU 4 3 0,oM 8,oP 9 (nV 0)]) (nS (nS (nF [oI 12 3 4,oA1 13 79 12,oO 14 .lss 13 0]) (nC 14 (nS (nF [oI 16 3 4,oA1 17 198 16,mV 18 1,mV 19 2,mV 20 3,oW 21 20,oA4 22 211 17 18 19 21,mV 15 22,oR 23 0 15,oR 24 1 15,oM 10,oK 3 10 23 false,mV 11 24]) (nR [oI 25 3 10,oA1 26 198 25,mV 27 11,oK 3 8 26 false,mV 9 27])) .skip)) (nS (nS (nF [mV 28 3]) (nC 28 (nR [oI 29 3 4,mV 30 1,mV 31 2,oP 32 (.call (.f 234) [(.t 29),(.t 30),(.t 31),(.f 200),(.f 192)]),
 oR 33 0 32,oR 34 1 32,oK 3 8 33 false,mV 9 34]) .skip)) (nR [oI 35 3 4,mV 36 1,mV 37 2,oP 38 (.call (.f 234) [(.t 35),(.t 36),(.t 37),(.f 199),(.f 191)]),oR 39 0 38,oR 40 1 38,oK 3 8 39 false,mV 9 40]))))
@[simp] def c_round_add : AFn:=nG [(.cell 8 true 3),(.tmp 9)] (nS (nF [oU 4 3 0,oU 5 3 1,oM 8,oP 9 (nV 0)]) (nS (nS (nF [mV 13 2,oI 14 3 4,oI 15 3 5,oP 16 (.bslice 3 2 (.agg nD) [(0,(.t 14)),(1,(.t 15))]),oA2 17 235 13 16,mV 10 17]) (nS (nF [mV 18 10,oO 19 .neq 18 0]) (nC 19 (nR [oP 20 (.build nD []),mV 21 10,oK 3 8 20 false,mV 9 21]) .skip))) (nS (.block 0 (nS (nF [oQ 23 1 4,oJ 24 23,oT 25 24,oO 26 .eql 25 0,mV 22 26]) (nC 22 (nR [oI 27 3 5,
 mV 28 2,mV 29 3,oA3 30 222 27 28 29,oR 31 0 30,oR 32 1 30,oK 3 8 31 false,mV 9 32]) (nS (nF [oQ 34 1 5,oJ 35 34,oT 36 35,oO 37 .eql 36 0,mV 33 37]) (nC 33 (nR [oI 38 3 4,mV 39 2,mV 40 3,oA3 41 222 38 39 40,oR 42 0 41,oR 43 1 41,oK 3 8 42 false,mV 9 43]) .skip))))) (nS (nS (nT [oI 44 3 4,oA1 45 98 44,oI 46 3 5,oB1 47 98 46,oN 48 .lss 45 47]) (nC 48 (nF [oI 49 3 5,oI 50 3 4,oK 3 4 49 false,oK 3 5 50 false]) .skip)) (nS (nF [oI 52 3 4,oI 53 3 5,mV 54 2,oA3 55 236 52 53 54,mV 51 55,oR 56 0 51,oR 57 1 51,
 oP 11 (.new 3 (.agg [.nil,(.int .i64 0),(.bool false)])),oK 3 11 56 false,mV 12 57]) (nS (nS (nF [oQ 58 0 11,oJ 59 58,oT 60 59,oO 61 .eql 60 0,mV 62 61,gT 63 62 (nA 2 11),oH 64 62 false 1 63,gT 65 62 (nU 64),oY 66 62 65]) (nC 66 (nR [oP 67 (.build nD []),oK 3 8 67 false,oP 9 (nV 0)]) .skip)) (nR [oQ 68 0 4,oJ 69 68,mV 70 12,oP 71 (.bin .bool .neq (.t 69) (.t 70)),oI 72 3 11,mV 73 2,mV 74 3,oA4 75 237 71 72 73 74,oR 76 0 75,oR 77 1 75,oK 3 8 76 false,mV 9 77])))))))
@[simp] def qqd : AFn:=nG [(.cell 8 true 3),(.tmp 9)] (nS (nF [oU 4 3 0,oU 5 3 1,oM 8,oP 9 (nV 0)]) (nS (nS (nF [mV 13 2,oI 14 3 4,oI 15 3 5,oP 16 (.bslice 3 2 (.agg nD) [(0,(.t 14)),(1,(.t 15))]),oA2 17 235 13 16,mV 10 17]) (nS (nF [mV 18 10,oO 19 .neq 18 0]) (nC 19 (nR [oP 20 (.build nD []),mV 21 10,oK 3 8 20 false,mV 9 21]) .skip))) (nS (nS (nF [oQ 22 1 4,oJ 23 22,oT 24 23,oO 25 .eql 24 0,mV 26 25,gF 27 26 (nA 1 5),oG 28 26 false 1 27,
 gF 29 26 (.len (.t 28)),gF 30 26 (nX .eql 29 0),oX 31 26 30]) (nC 31 (nR [oP 32 (.build nD []),oK 3 8 32 false,oP 9 (nV 0)]) .skip)) (nS (nF [oQ 34 1 4,oJ 35 34,oQ 36 1 5,oJ 37 36,oA2 38 238 35 37,mV 33 38,oR 39 0 33,oR 40 1 33,mV 11 39,mV 12 40]) (nR [oQ 41 0 4,oJ 42 41,oQ 43 0 5,oJ 44 43,oP 45 (.bin .bool .neq (.t 42) (.t 44)),mV 46 11,oQ 47 2 4,oJ 48 47,oQ 49 2 5,oJ 50 49,oN 51 .add 48 50,oP 52 (.build [.nil,(.int .i64 0),(.bool false)] [(0,1,(.t 46)),(1,1,(.t 51))]),
 mV 53 2,mV 54 3,oA4 55 237 45 52 53 54,oR 56 0 55,oR 57 1 55,oK 3 8 56 false,mV 9 57])))))
@[simp] def qqe : AFn:=nG [(.cell 8 true 3),(.tmp 9)] (nS (nF [oU 4 3 0,oU 5 3 1,oM 8,oP 9 (nV 0)]) (nS (nS (nF [mV 15 2,oI 16 3 4,oI 17 3 5,oP 18 (.bslice 3 2 (.agg nD) [(0,(.t 16)),(1,(.t 17))]),oA2 19 235 15 18,mV 10 19]) (nS (nF [mV 20 10,oO 21 .neq 20 0]) (nC 21 (nR [oP 22 (.build nD []),mV 23 10,oK 3 8 22 false,mV 9 23]) .skip))) (nS (.block 0 (nS (nF [oQ 25 1 5,oJ 26 25,oT 27 26,oO 28 .eql 27 0,mV 24 28]) (nC 24 (nR [oP 29 (.build nD []),
 oK 3 8 29 false,oP 9 (nV 10)]) (nS (nF [oQ 31 1 4,oJ 32 31,oT 33 32,oO 34 .eql 33 0,mV 30 34]) (nC 30 (nR [oP 35 (.build nD []),oK 3 8 35 false,oP 9 (nV 0)]) .skip))))) (nS (nT [mV 36 2,oO 37 .add 36 3,oI 38 3 5,oA1 39 239 38,oN 40 .add 37 39,oI 41 3 4,oB1 42 239 41,oN 43 .sub 40 42,oP 44 (.max (.c (.int .i64 0)) (.t 43)),mV 11 44]) (nS (nT [oQ 46 1 4,oJ 47 46,mV 48 11,oA2 49 241 47 48,oQ 50 1 5,oJ 51 50,oB2 52 240 49 51,mV 45 52,oR 53 0 45,oR 54 1 45,oR 55 2 45,
 mV 12 53,mV 13 54,mV 14 55]) (nS (nT [oQ 56 0 4,oJ 57 56,oQ 58 0 5,oJ 59 58,oP 60 (.bin .bool .neq (.t 57) (.t 59)),mV 61 12,oQ 62 2 4,oJ 63 62,mV 64 11,oN 65 .sub 63 64,oQ 66 2 5,oJ 67 66,oN 68 .sub 65 67,mV 69 13,oA1 70 110 69,oO 71 .gtr 70 0,oP 72 (.build [.nil,(.int .i64 0),(.bool false)] [(0,1,(.t 61)),(1,1,(.t 68)),(2,1,(.t 71))]),mV 73 2,mV 74 3,oB4 75 237 60 72 73 74,oR 76 0 75,oR 77 1 75,oK 3 8 76 true,mV 9 77]) .ret))))))
@[simp] def qdq : AFn:=nG [(.tmp 2)] (nS (nF [oP 2 (.mv (.c .nil))]) (nS (nS (nF [mV 3 0,oP 4 (.bin .slice .eql (.t 3) (.c .nil))]) (nC 4 (nR [oP 2 (.mv (.c .nil))]) .skip)) (nR [oP 5 (.bslice 1 0 (.int .u32 0) []),mV 6 0,oP 7 (.append 1 4 (.t 5) (.t 6)),mV 2 7])))
@[simp] def qmg : AFn:=nG [(.cell 6 true 3),(.tmp 7)] (nS (nF [oU 3 3 0,oM 6,oP 7 (nV 0)]) (nS (nS (nF [mV 9 1,oI 10 3 3,oP 11 (.bslice 3 1 (.agg nD) [(0,(.t 10))]),oA2 12 235 9 11,mV 8 12]) (nS (nF [mV 13 8,oO 14 .neq 13 0]) (nC 14 (nR [oP 15 (.build nD []),mV 16 8,oK 3 6 15 false,mV 7 16]) .skip))) (nS (nT [oQ 17 0 3,oJ 18 17,oI 19 3 3,oA1 20 243 19,mV 21 1,mV 22 2,oB4 23 237 18 20 21 22,oR 24 0 23,oR 25 1 23,oK 3 6 24 true,mV 7 25]) .ret)))
@[simp] def qga : AFn:=nG [(.tmp 2)] (nS (nF [oZ 2 false]) (nR [mV 3 0,oP 4 (nX .geq 3 (-32768)),mV 5 4,oF 6 5 0,gT 7 5 (nX .leq 6 32768),oY 8 5 7,mV 2 8]))
@[simp] def qhl : AFn:=nG [(.cell 2 true 3),(.tmp 3)] (nS (nF [oU 1 3 0,oM 2,oP 3 (nV 0)]) (nS (nS (nF [oI 4 3 1,oA1 5 78 4,oW 6 5]) (nC 6 (nR [oP 7 (.build nD []),oK 3 2 7 false,oP 3 (nV 9)]) .skip)) (nR [oI 8 3 1,oK 3 2 8 false,oP 3 (nV 0)])))
@[simp] def qfp : AFn:=nG [(.cell 6 true 3)] (nS (nF [oM 6]) (nS (nF [mV 10 1,oA1 11 244 10,mV 1 11]) (nS (nS (nF [mV 12 1,oT 13 12,oO 14 .eql 13 0]) (nC 14 (nR [oP 15 (.build nD []),oK 3 6 15 false]) .skip)) (nS (nF [mV 16 1,oA1 17 245 16,mV 7 17]) (nS (nF [mV 19 1,mV 20 7,oA2 21 246 19 20,mV 18 21,oR 22 0 18,oR 23 1 18,mV 8 22,mV 9 23]) (nR [mV 24 0,mV 25 8,oA1 26 221 25,oA1 27 119 26,mV 28 2,mV 29 7,oN 30 .add 28 29,oP 31 (.build nD [(0,1,(.t 24)),(1,1,(.t 27)),(2,1,(.t 30))]),
 oK 3 6 31 false]))))))
@[simp] def qoa : AFn:=nG [(.cell 6 true 3),(.tmp 7)] (nS (nF [oU 3 3 0,oM 6,oP 7 (nV 0)]) (nS (nF [mV 15 1,oI 16 3 3,oP 17 (.bslice 3 1 (.agg nD) [(0,(.t 16))]),oA2 18 235 15 17,mV 8 18]) (nS (nS (nF [mV 19 8,oO 20 .eql 19 0,mV 21 20,gT 22 21 (nA 0 3),oH 23 21 false 1 22,oY 24 21 23]) (nC 24 (nF [oP 8 (nV 2)]) .skip)) (nS (nS (nF [mV 25 8,oO 26 .neq 25 0,mV 27 26,gF 28 27 (nA 1 3),oG 29 27 false 1 28,gF 30 27 (.len (.t 29)),gF 31 27 (nX .eql 30 0),
 oX 32 27 31]) (nC 32 (nR [oP 33 (.build nD []),mV 34 8,oK 3 6 33 false,mV 7 34]) .skip)) (nS (nF [mV 35 1,oP 36 (.bin .num .mul (.c (.int .i64 2)) (.t 35)),oO 37 .add 36 4,oI 38 3 3,oA1 39 239 38,oN 40 .sub 37 39,oP 41 (.max (.c (.int .i64 0)) (.t 40)),mV 9 41]) (nS (nS (nF [oQ 42 2 3,oJ 43 42,mV 44 9,oN 45 .sub 43 44,oO 46 .rem 45 2,oO 47 .neq 46 0]) (nC 47 (nF [mV 48 9,oO 49 .add 48 1,mV 9 49]) .skip)) (nS (nF [oQ 50 1 3,oJ 51 50,mV 52 9,oA2 53 241 51 52,mV 10 53]) (nS (nF [mV 55 10,
 oA1 56 253 55,mV 54 56,oR 57 0 54,oR 58 1 54,mV 11 57,mV 12 58]) (nS (nF [mV 60 11,mV 61 11,oA2 62 238 60 61,mV 59 62,oR 63 0 59,oR 64 1 59,mV 13 63,mV 14 64]) (nS (nT [mV 65 11,oQ 66 2 3,oJ 67 66,mV 68 9,oN 69 .sub 67 68,oO 70 .quo 69 2,mV 71 13,mV 72 10,oA2 73 99 71 72,oO 74 .neq 73 0,oP 75 (.build [.nil,(.int .i64 0),(.bool false)] [(0,1,(.t 65)),(1,1,(.t 70)),(2,1,(.t 74))]),mV 76 1,mV 77 2,oB3 78 254 75 76 77,oR 79 0 78,oR 80 1 78,oK 3 6 79 true,mV 7 80]) .ret))))))))))
def qc0 : AC:=(nS (nS (nF [mV 22 14,mV 23 1,oN 24 .lss 22 23,mV 25 24,oF 26 25 13,gT 27 25 (nX .eql 26 0),oY 28 25 27]) (nC 28 .skip (.exit 0))) (nS (.block 1 (nF [mV 32 4,oI 33 3 12,oI 34 3 5,mV 35 2,oP 36 (.call (.t 32) [(.t 33),(.t 34),(.t 35)]),mV 31 36,oR 37 0 31,oR 38 1 31,oK 3 12 37 false,mV 13 38])) (nF [mV 29 14,oO 30 .add 29 1,mV 14 30])))
@[simp] def qgy : AFn:=nG [(.cell 10 true 3),(.tmp 11)] (nS (nF [oU 5 3 0,oM 10,oP 11 (nV 0)]) (nS (nF [mV 16 3,oI 17 3 5,mV 18 2,oP 19 (.call (.t 16) [(.t 17),(.t 18)]),mV 15 19,oR 20 0 15,oR 21 1 15,oM 12,oK 3 12 20 false,mV 13 21]) (nS (nS (nF [oP 14 (nV 1)]) (.block 0 (.loop qc0))) (nR [oI 39 3 12,mV 40 13,oK 3 10 39 false,mV 11 40]))))
def qgr : AC:=(nS (nF [oN 10 .lss 9 8]) (nS (nC 10 .skip (.exit 0)) (nS (.block 1 (nS (nF [oV 11 3 7 9,oI 12 3 11,oM 6,oK 3 6 12 false]) (nS (nF [oI 13 3 6,oA1 14 51 13,oW 15 14]) (nC 15 (nR [oP 4 (nV 1)]) .skip)))) (nF [oO 16 .add 9 1,mV 9 16]))))
@[simp] def qmh : AFn:=nG [(.tmp 4)] (nS (nF [oP 4 (nV 0)]) (nS (nS (nF [mV 7 1,oT 8 7,oP 9 (nV 0)]) (.block 0 (.loop qgr))) (nS (nS (nF [mV 17 0,oA1 18 255 17,oW 19 18]) (nC 19 (nR [oP 4 (nV 2)]) .skip)) (nR [oP 4 (nV 0)]))))
@[simp] def c_round_sum : AFn:=nG [(.cell 6 true 3),(.tmp 7)] (nS (nF [oU 3 3 0,oU 4 3 1,oP 6 (.new 3 (.agg [.nil,(.int .i64 0),(.bool false)])),oZ 7 false]) (nS (nT [oQ 18 2 3,oJ 19 18,oI 20 3 3,oA1 21 98 20,mV 22 2,oN 23 .sub 21 22,oO 24 .sub 23 8,oP 25 (.min (.t 19) (.t 24)),mV 8 25]) (nS (nS (nT [oI 26 3 3,oA1 27 98 26,oI 28 3 4,oB1 29 98 28,oN 30 .sub 27 29,oO 31 .leq 30 2]) (nC 31 (nF [mV 32 8,oQ 33 2 4,oJ 34 33,oP 35 (.min (.t 32) (.t 34)),mV 8 35]) .skip)) (nS (nF [oQ 36 1 3,oJ 37 36,oQ 38 2 3,oJ 39 38,mV 40 8,oN 41 .sub 39 40,
 oA2 42 241 37 41,mV 9 42]) (nS (nF [oP 10 (.mv (.c .nil))]) (nS (nF [oZ 11 false]) (nS (nS (nF [oQ 43 2 4,oJ 44 43,mV 45 8,oN 46 .geq 44 45]) (nC 46 (nF [oQ 47 1 4,oJ 48 47,oQ 49 2 4,oJ 50 49,mV 51 8,oN 52 .sub 50 51,oA2 53 241 48 52,mV 10 53]) (nF [oQ 55 1 4,oJ 56 55,mV 57 8,oQ 58 2 4,oJ 59 58,oN 60 .sub 57 59,oA2 61 256 56 60,mV 54 61,oR 62 0 54,oR 63 1 54,mV 10 62,mV 11 63]))) (nS (nS (nF [oQ 64 0 3,oJ 65 64,oQ 66 0 4,oJ 67 66,oP 68 (.bin .bool .eql (.t 65) (.t 67))]) (nC 68 (nS (nF [mV 70 9,
 mV 71 10,oA2 72 257 70 71,mV 69 72,oR 73 0 69,oR 74 1 69,mV 12 73,mV 13 74]) (nR [mV 75 12,mV 76 8,mV 77 11,oP 78 (.build [.nil,(.int .i64 0),(.bool false)] [(0,1,(.t 75)),(1,1,(.t 76)),(2,1,(.t 77))]),oK 3 6 78 false,oZ 7 false])) .skip)) (nS (nS (nF [mV 79 11]) (nC 79 (nF [mV 81 10,oP 82 (.bslice 1 1 (.int .u32 0) [(0,(.c (.int .u32 1)))]),oA2 83 257 81 82,mV 80 83,oR 84 0 80,oR 85 1 80,mV 10 84]) .skip)) (nS (nS (nF [mV 86 9,mV 87 10,oA2 88 99 86 87,oO 89 .lss 88 0]) (nC 89 (nS (nF [mV 91 10,mV 92 9,
 oA2 93 258 91 92,mV 90 93,oR 94 0 90,oR 95 1 90,mV 14 94,mV 15 95]) (nR [mV 96 14,mV 97 8,oP 98 (.build [.nil,(.int .i64 0),(.bool false)] [(0,1,(.t 96)),(1,1,(.t 97)),(2,1,(.c (.bool false)))]),oK 3 6 98 false,oZ 7 true])) .skip)) (nS (nF [mV 100 9,mV 101 10,oA2 102 258 100 101,mV 99 102,oR 103 0 99,oR 104 1 99,mV 16 103,mV 17 104]) (nR [mV 105 16,mV 106 8,mV 107 11,oP 108 (.build [.nil,(.int .i64 0),(.bool false)] [(0,1,(.t 105)),(1,1,(.t 106)),(2,1,(.t 107))]),oK 3 6 108 false,oZ 7 false]))))))))))))
@[simp] def qke : AFn:=nG [(.cell 8 true 3),(.tmp 9)] (nS (nF [oU 5 3 1,oM 8,oP 9 (nV 0)]) (nS (nF [oI 13 3 5,mV 14 2,mV 15 3,mV 16 0,oP 17 (.bin .bool .neq (.t 15) (.t 16)),oA3 18 254 13 14 17,mV 12 18,oR 19 0 12,oR 20 1 12,oM 10,oK 3 10 19 false,mV 11 20]) (nS (nS (nF [mV 21 11,oO 22 .eql 21 0,mV 23 22,oF 24 23 0,oY 25 23 24]) (nC 25 (nF [oI 26 3 10,oA1 27 198 26,oK 3 10 27 false]) .skip)) (nR [oI 28 3 10,mV 29 11,oK 3 8 28 false,mV 9 29]))))
@[simp] def qmu : AFn:=nG [(.tmp 4),(.tmp 5)] (nS (nF [oP 4 (.mv (.c .nil)),oP 5 (nV 0)]) (nS (nS (nF [mV 6 0,mV 7 1,oP 8 (.bslice 1 2 .nil [(0,(.t 6)),(1,(.t 7))]),oA1 9 114 8]) (nC 9 (nR [oP 4 (.mv (.c .nil)),oP 5 (nV 9)]) .skip)) (nR [mV 10 0,oA1 11 111 10,mV 12 1,oA1 13 111 12,oA2 14 259 11 13,oA1 15 115 14,oR 16 0 15,oR 17 1 15,mV 4 16,mV 5 17])))
@[simp] def qm5 : AFn:=nG [(.tmp 2)] (nS (nF [oU 1 3 0,oP 2 (nV 0)]) (nS (nS (nF [oI 3 3 1,oA1 4 51 3,oW 5 4]) (nC 5 (nR [oP 2 (nV 0)]) .skip)) (nR [oQ 6 1 1,oJ 7 6,oA1 8 97 7,mV 2 8])))
@[simp] def qgx : AFn:=nG [(.tmp 4),(.tmp 5),(.tmp 6)] (nS (nF [oP 4 (.mv (.c .nil)),oP 5 (.mv (.c .nil)),oP 6 (nV 0)]) (nS (.block 0 (nS (nF [mV 10 0,mV 11 1,oP 12 (.bslice 1 2 .nil [(0,(.t 10)),(1,(.t 11))]),oA1 13 114 12,mV 9 13]) (nC 9 (nR [oP 4 (.mv (.c .nil)),oP 5 (.mv (.c .nil)),oP 6 (nV 9)]) (nS (nF [mV 15 1,oA1 16 111 15,oT 17 16,oO 18 .eql 17 0,mV 14 18]) (nC 14 (nR [oP 4 (.mv (.c .nil)),oP 5 (.mv (.c .nil)),oP 6 (nV 10)]) .skip))))) (nS (nF [mV 20 0,
 mV 21 1,oA2 22 260 20 21,mV 19 22,oR 23 0 19,oR 24 1 19,mV 7 23,mV 8 24]) (nR [mV 25 7,oA1 26 111 25,oA1 27 119 26,mV 28 8,oA1 29 111 28,oA1 30 119 29,mV 4 27,mV 5 30,oP 6 (nV 0)]))))
@[simp] def qqc : AFn:=nG [(.tmp 4)] (nS (nF [oP 4 (.mv (.c .nil))]) (nS (nF [mV 8 0,mV 9 1,oA2 10 112 8 9,mV 7 10,oR 11 0 7,oR 12 1 7,mV 5 11,mV 6 12]) (nR [mV 13 5,mV 4 13])))
@[simp] def qsc : AFn:=nG [(.cell 2 true 3)] (nS (nF [oU 1 3 0,oP 2 (.new 3 (.agg [.nil,(.int .i64 0),(.bool false)]))]) (nR [oQ 3 1 1,oJ 4 3,oQ 5 2 1,oJ 6 5,oP 7 (.build [.nil,(.int .i64 0),(.bool false)] [(0,1,(.t 4)),(1,1,(.t 6))]),oK 3 2 7 false]))
def qc3 : AC:=(nS (nS (nF [mV 6 3,oO 7 .gtr 6 0,mV 8 7,oF 9 8 0,oF 10 8 3,gT 11 8 (nX .sub 10 1),gT 12 8 (.iaddr 1 (.t 9) (.t 11)),oH 13 8 false 1 12,gT 14 8 (.bin .num .eql (.t 13) (.c (.int .u32 0))),oY 15 8 14]) (nC 15 .skip (.exit 0))) (.block 1 (nF [mV 16 3,oO 17 .sub 16 1,mV 3 17])))
@[simp] def qhh : AFn:=nG [(.tmp 2)] (nS (nF [oP 2 (.mv (.c .nil))]) (nS (nF [mV 4 0,oT 5 4,mV 3 5]) (nS (.block 0 (.loop qc3)) (nR [mV 18 0,mV 19 3,oP 20 (.slice 1 (.t 18) none (some (.t 19)) none),mV 2 20]))))
def qjj : AC:=(nS (nF [oN 9 .lss 8 7]) (nS (nC 9 .skip (.exit 0)) (nS (.block 1 (nS (nF [oV 10 1 6 8,oJ 11 10,mV 5 11]) (nS (nS (nF [mV 12 5,oP 13 (.bin .num .neq (.t 12) (.c (.int .u32 0)))]) (nC 13 (nR [mV 14 3,mV 15 5,oA1 16 261 15,oN 17 .add 14 16,mV 2 17]) .skip)) (nF [mV 18 3,oO 19 .add 18 32,mV 3 19])))) (nF [oO 20 .add 8 1,mV 8 20]))))
@[simp] def qoi : AFn:=nG [(.tmp 2)] (nS (nF [oP 2 (nV 0)]) (nS (nF [oP 3 (nV 0)]) (nS (nS (nF [mV 6 0,oT 7 6,oP 8 (nV 0)]) (.block 0 (.loop qjj))) (nR [mV 21 3,mV 2 21]))))
@[simp] def qms : AFn:=nG [(.tmp 4),(.tmp 5)] (nS (nF [oP 4 (.mv (.c .nil)),oP 5 (nV 0)]) (nS (.block 0 (nS (nF [mV 7 0,oP 8 (.bslice 1 1 .nil [(0,(.t 7))]),oA1 9 114 8,mV 6 9]) (nC 6 (nR [oP 4 (.mv (.c .nil)),oP 5 (nV 9)]) (nS (nF [mV 11 1,oO 12 .lss 11 0,mV 13 12,oE 14 13 1,gF 15 13 (nX .gtr 14 65536),oX 16 13 15,mV 10 16]) (nC 10 (nR [oP 4 (.mv (.c .nil)),oP 5 (nV 2)]) .skip))))) (nR [mV 17 0,
 mV 18 1,oA2 19 262 17 18,oA1 20 115 19,oR 21 0 20,oR 22 1 20,mV 4 21,mV 5 22])))
def qlq : AC:=(.block 1 (nS (nF [mV 23 0,mV 24 5,oA2 25 260 23 24,mV 22 25,oR 26 0 22,oR 27 1 22,mV 6 26,mV 7 27]) (nS (nF [mV 28 5,mV 29 6,oA1 30 111 29,oA2 31 264 28 30,oP 32 (.call (.f 262) [(.t 31),(.c (.int .i64 1))]),oA1 33 111 32,mV 8 33]) (nS (nS (nF [mV 34 8,mV 35 5,oA2 36 99 34 35,oO 37 .geq 36 0]) (nC 37 (nR [mV 38 5,oA1 39 115 38,oR 40 0 39,oR 41 1 39,mV 2 40,mV 3 41]) .skip)) (nF [mV 42 8,mV 5 42])))))
@[simp] def qkk : AFn:=nG [(.tmp 2),(.tmp 3)] (nS (nF [oP 2 (.mv (.c .nil)),oP 3 (nV 0)]) (nS (nS (nF [mV 9 0,oP 10 (.bslice 1 1 .nil [(0,(.t 9))]),oA1 11 114 10]) (nC 11 (nR [oP 2 (.mv (.c .nil)),oP 3 (nV 9)]) .skip)) (nS (nF [mV 12 0,oA1 13 110 12,mV 4 13]) (nS (nS (nF [mV 14 4,oO 15 .eql 14 0]) (nC 15 (nR [oP 2 (.mv (.c .nil)),oP 3 (nV 0)]) .skip)) (nS (nF [oP 16 (.bslice 1 1 (.int .u32 0) [(0,(.c (.int .u32 1)))]),
 mV 17 4,oO 18 .add 17 1,oO 19 .quo 18 2,oA2 20 116 16 19,oA1 21 111 20,mV 5 21]) (.block 0 (.loop qlq)))))))
@[simp] def c_round_cut : AFn:=nG [(.cell 6 true 3),(.tmp 7)] (nS (nF [oU 3 3 0,oM 6,oP 7 (nV 0)]) (nS (nT [oQ 13 1 3,oJ 14 13,oQ 15 0 3,oJ 16 15,oA1 17 110 16,oN 18 .add 14 17,mV 19 1,oN 20 .sub 18 19,oP 21 (.max (.t 20) (.c (.int .i64 (-16384)))),mV 8 21]) (nS (nT [oQ 22 0 3,oJ 23 22,oQ 24 2 3,oJ 25 24,mV 9 23,mV 10 25]) (nS (nS (nF [oQ 26 1 3,oJ 27 26,mV 28 8,oN 29 .geq 27 28]) (nC 29 (nF [oQ 30 0 3,oJ 31 30,oQ 32 1 3,oJ 33 32,mV 34 8,oN 35 .sub 33 34,oA2 36 241 31 35,mV 9 36]) (nS (nF [oQ 38 0 3,
 oJ 39 38,mV 40 8,oQ 41 1 3,oJ 42 41,oN 43 .sub 40 42,oA2 44 256 39 43,mV 37 44,oR 45 0 37,oR 46 1 37,mV 11 45,mV 12 46]) (nF [mV 47 11,mV 48 10,mV 49 48,oE 50 49 12,oX 51 49 50,mV 9 47,mV 10 51])))) (nS (nS (nF [mV 52 2,mV 53 52,oF 54 53 10,oY 55 53 54]) (nC 55 (nF [mV 57 9,oP 58 (.bslice 1 1 (.int .u32 0) [(0,(.c (.int .u32 1)))]),oA2 59 257 57 58,mV 56 59,oR 60 0 56,oR 61 1 56,mV 9 60]) .skip)) (nS (nS (nF [mV 62 9,oA1 63 110 62,mV 64 8,oN 65 .add 63 64,oO 66 .gtr 65 16384]) (nC 66 (nS (nS (nF [mV 67 2]) (nC 67 (nR [oP 68 (.build nD []),
 oK 3 6 68 false,oP 7 (nV 9)]) .skip)) (nS (nF [oP 70 (.bslice 1 1 (.int .u32 0) [(0,(.c (.int .u32 1)))]),mV 71 1,oA2 72 241 70 71,oP 73 (.bslice 1 1 (.int .u32 0) [(0,(.c (.int .u32 1)))]),oA2 74 258 72 73,mV 69 74,oR 75 0 69,oR 76 1 69,mV 9 75]) (nF [mV 77 1,oP 78 (.bin .num .sub (.c (.int .i64 16384)) (.t 77)),mV 8 78]))) .skip)) (nR [mV 79 9,mV 80 8,oP 81 (.call (.f 265) [(.c (.bool false)),(.t 79),(.t 80)]),oR 82 0 81,oR 83 1 81,oK 3 6 82 false,mV 7 83])))))))
@[simp] def qil : AFn:=nG [(.tmp 2)] (nS (nF [oZ 2 false]) (nR [mV 3 0,oO 4 .geq 3 8,mV 5 4,oF 6 5 0,gT 7 5 (nX .leq 6 512),oY 8 5 7,mV 2 8]))
@[simp] def qqb : AFn:=nG [(.tmp 4),(.tmp 5)] (nS (nF [oP 4 (.mv (.c .nil)),oZ 5 false]) (nS (nS (nF [mV 8 1,mV 9 0,oA1 10 110 9,oN 11 .gtr 8 10]) (nC 11 (nF [mV 12 0,oA1 13 110 12,mV 1 13]) .skip)) (nS (nF [mV 15 0,mV 16 1,oA2 17 246 15 16,mV 14 17,oR 18 0 14,oR 19 1 14,mV 6 18,mV 7 19]) (nR [mV 20 6,mV 21 6,mV 22 1,oA2 23 241 21 22,mV 24 0,oA2 25 99 23 24,oO 26 .neq 25 0,mV 4 20,mV 5 26]))))
@[simp] def qmv : AFn:=nG [(.tmp 4),(.tmp 5)] (nS (nF [oP 4 (.mv (.c .nil)),oP 5 (nV 0)]) (nS (nS (nF [mV 6 0,mV 7 1,oP 8 (.bslice 1 2 .nil [(0,(.t 6)),(1,(.t 7))]),oA1 9 114 8]) (nC 9 (nR [oP 4 (.mv (.c .nil)),oP 5 (nV 9)]) .skip)) (nR [mV 10 0,mV 11 1,oA2 12 264 10 11,oA1 13 115 12,oR 14 0 13,oR 15 1 13,mV 4 14,mV 5 15])))
@[simp] def qmr : AFn:=nG [(.tmp 4),(.tmp 5)] (nS (nF [oP 4 (.mv (.c .nil)),oP 5 (nV 0)]) (nS (.block 0 (nS (nF [mV 7 0,mV 8 1,oP 9 (.bslice 1 2 .nil [(0,(.t 7)),(1,(.t 8))]),oA1 10 114 9,mV 6 10]) (nC 6 (nR [oP 4 (.mv (.c .nil)),oP 5 (nV 9)]) (nS (nF [mV 12 0,mV 13 1,oA2 14 99 12 13,oO 15 .lss 14 0,mV 11 15]) (nC 11 (nR [oP 4 (.mv (.c .nil)),oP 5 (nV 2)]) .skip))))) (nR [mV 16 0,mV 17 1,oA2 18 266 16 17,oA1 19 115 18,oR 20 0 19,
 oR 21 1 19,mV 4 20,mV 5 21])))
def qer : AC:=(nS (nF [oN 28 .lss 27 26]) (nS (nC 28 .skip (.exit 2)) (nS (.block 3 (nS (nF [mV 29 27,oV 30 1 25 27,oJ 31 30,mV 9 29,mV 10 31]) (nS (nF [mV 32 7,oP 33 (.conv .u64 (.t 32)),mV 34 10,oP 35 (.conv .u64 (.t 34)),oN 36 .mul 33 35,mV 37 5,mV 38 6,mV 39 9,oN 40 .add 38 39,oV 41 1 37 40,oJ 42 41,oP 43 (.conv .u64 (.t 42)),oN 44 .add 36 43,mV 45 8,oN 46 .add 44 45,mV 11 46]) (nF [mV 47 5,mV 48 6,mV 49 9,oN 50 .add 48 49,mV 51 11,oP 52 (.conv .u32 (.t 51)),mV 53 11,oP 54 (.bin .num .shr (.t 53) (.c (.int .u64 32))),oV 55 1 47 50,
 oK 1 55 52 false,mV 8 54])))) (nF [oO 56 .add 27 1,mV 27 56]))))
def qgu : AC:=(nS (nF [oN 21 .lss 20 19]) (nS (nC 21 .skip (.exit 0)) (nS (.block 1 (nS (nF [mV 22 20,oV 23 1 18 20,oJ 24 23,mV 6 22,mV 7 24]) (nS (nF [oP 8 (.mv (.c (.int .u64 0)))]) (nS (nS (nF [mV 25 1,oT 26 25,oP 27 (nV 0)]) (.block 2 (.loop qer))) (nF [mV 57 5,mV 58 6,mV 59 1,oT 60 59,oN 61 .add 58 60,mV 62 8,oP 63 (.conv .u32 (.t 62)),oV 64 1 57 61,oK 1 64 63 false]))))) (nF [oO 65 .add 20 1,mV 20 65]))))
@[simp] def qmp : AFn:=nG [(.tmp 4)] (nS (nF [oP 4 (.mv (.c .nil))]) (nS (nF [mV 12 0,oT 13 12,mV 14 1,oT 15 14,oN 16 .add 13 15,oP 17 (.mkslice 1 4 (.int .u32 0) (.t 16) (.t 16)),mV 5 17]) (nS (nS (nF [mV 18 0,oT 19 18,oP 20 (nV 0)]) (.block 0 (.loop qgu))) (nR [mV 66 5,mV 4 66]))))
def qit : AC:=(nS (nS (nF [mV 56 9,oT 57 56,mV 58 0,oT 59 58,oN 60 .leq 57 59]) (nC 60 .skip (.exit 0))) (.block 1 (nF [mV 61 9,oP 62 (.bslice 1 1 (.int .u32 0) [(0,(.c (.int .u32 0)))]),oP 63 (.append 1 4 (.t 61) (.t 62)),mV 9 63])))
def qcz : AC:=(nS (nF [oN 126 .lss 125 124]) (nS (nC 126 .skip (.exit 4)) (nS (.block 5 (nS (nF [mV 127 125,oV 128 1 123 125,oJ 129 128,mV 16 127,mV 17 129]) (nF [mV 131 9,mV 132 13,mV 133 16,oN 134 .add 132 133,mV 135 9,mV 136 13,mV 137 16,oN 138 .add 136 137,oV 139 1 135 138,oJ 140 139,mV 141 17,mV 142 15,oA3 143 271 140 141 142,mV 130 143,oR 144 0 130,oR 145 1 130,oV 146 1 131 134,oK 1 146 144 false,mV 15 145]))) (nF [oO 147 .add 125 1,mV 125 147]))))
def qcy : AC:=(nS (nS (nF [mV 76 13,oO 77 .geq 76 0]) (nC 77 .skip (.exit 2))) (nS (.block 3 (nS (nT [mV 80 9,mV 81 13,mV 82 11,oN 83 .add 81 82,oV 84 1 80 83,oJ 85 84,mV 86 9,mV 87 13,mV 88 11,oN 89 .add 87 88,oO 90 .sub 89 1,oV 91 1 86 90,oJ 92 91,mV 93 9,mV 94 13,mV 95 11,oN 96 .add 94 95,oO 97 .sub 96 2,oV 98 1 93 97,oJ 99 98,mV 100 10,mV 101 11,oO 102 .sub 101 1,oV 103 1 100 102,oJ 104 103,mV 105 10,mV 106 11,oO 107 .sub 106 2,oV 108 1 105 107,oJ 109 108,oB5 110 269 85 92 99 104 109,mV 14 110]) (nS (nS (nF [mV 111 9,mV 112 13,mV 113 13,mV 114 11,
 oN 115 .add 113 114,oO 116 .add 115 1,oP 117 (.slice 1 (.t 111) (some (.t 112)) (some (.t 116)) none),mV 118 10,mV 119 14,oA3 120 270 117 118 119]) (nC 120 (nS (nF [mV 121 14,oP 122 (.bin .num .sub (.t 121) (.c (.int .u64 1))),mV 14 122]) (nS (nF [oP 15 (.mv (.c (.int .u32 0)))]) (nS (nS (nF [mV 123 10,oT 124 123,oP 125 (nV 0)]) (.block 4 (.loop qcz))) (nF [mV 148 9,mV 149 13,mV 150 11,oN 151 .add 149 150,oV 152 1 148 151,oJ 153 152,mV 154 15,oN 155 .add 153 154,oV 156 1 148 151,oK 1 156 155 false])))) .skip)) (nF [mV 157 12,
 mV 158 13,mV 159 14,oP 160 (.conv .u32 (.t 159)),oV 161 1 157 158,oK 1 161 160 false])))) (nF [mV 78 13,oO 79 .sub 78 1,mV 13 79])))
@[simp] def qgw : AFn:=nG [(.tmp 4),(.tmp 5)] (nS (nF [oP 4 (.mv (.c .nil)),oP 5 (.mv (.c .nil))]) (nS (nF [mV 18 0,oA1 19 111 18,mV 20 1,oA1 21 111 20,mV 0 19,mV 1 21]) (nS (nS (nF [mV 22 0,mV 23 1,oA2 24 99 22 23,oO 25 .lss 24 0]) (nC 25 (nR [mV 26 0,oA1 27 221 26,oP 4 (.mv (.c .nil)),mV 5 27]) .skip)) (nS (nS (nF [mV 28 1,oT 29 28,oO 30 .eql 29 1]) (nC 30 (nS (nF [mV 32 0,mV 33 1,oP 34 (.iaddr 1 (.t 33) (.c (.int .i64 0))),oJ 35 34,oA2 36 267 32 35,mV 31 36,oR 37 0 31,oR 38 1 31,mV 6 37,
 mV 7 38]) (nR [mV 39 6,mV 40 7,oP 41 (.bslice 1 1 (.int .u32 0) [(0,(.t 40))]),mV 4 39,mV 5 41])) .skip)) (nS (nF [mV 42 1,mV 43 1,oT 44 43,oO 45 .sub 44 1,oV 46 1 42 45,oJ 47 46,oA1 48 268 47,mV 8 48]) (nS (nF [mV 49 0,mV 50 8,oA2 51 116 49 50,mV 52 1,mV 53 8,oA2 54 116 52 53,oA1 55 111 54,mV 9 51,mV 10 55]) (nS (.block 0 (.loop qit)) (nS (nF [mV 64 10,oT 65 64,mV 11 65]) (nS (nF [mV 66 9,oT 67 66,mV 68 11,oN 69 .sub 67 68,oP 70 (.mkslice 1 4 (.int .u32 0) (.t 69) (.t 69)),mV 12 70]) (nS (nS (nF [mV 71 9,
 oT 72 71,mV 73 11,oN 74 .sub 72 73,oO 75 .sub 74 1,mV 13 75]) (.block 2 (.loop qcy))) (nR [mV 162 12,mV 163 9,mV 164 11,oP 165 (.slice 1 (.t 163) none (some (.t 164)) none),mV 166 8,oA2 167 262 165 166,mV 4 162,mV 5 167])))))))))))
@[simp] def qb4 : AFn:=nG [(.tmp 2)] (nS (nF [oP 2 (nV 0)]) (nS (nS (nF [mV 3 0,oP 4 (.bin .num .eql (.t 3) (.c (.int .u32 0)))]) (nC 4 (nR [oP 2 (nV 32)]) .skip)) (nR [mV 5 0,mV 6 0,oP 7 (.un .neg (.t 6)),oN 8 .and 5 7,oP 9 (.bin .num .mul (.t 8) (.c (.int .u32 125613361))),oP 10 (.bin .num .shr (.t 9) (.c (.int .u64 27))),oP 11 (.aiaddr 32 1 (.c (.eptr [(.int .u8 0),(.int .u8 1),(.int .u8 28),(.int .u8 2),(.int .u8 29),(.int .u8 14),(.int .u8 24),(.int .u8 3),(.int .u8 30),(.int .u8 22),(.int .u8 20),(.int .u8 15),(.int .u8 25),(.int .u8 17),(.int .u8 4),(.int .u8 8),(.int .u8 31),(.int .u8 27),(.int .u8 13),(.int .u8 23),(.int .u8 21),(.int .u8 19),(.int .u8 16),(.int .u8 7),(.int .u8 26),(.int .u8 12),(.int .u8 18),(.int .u8 6),(.int .u8 11),(.int .u8 5),(.int .u8 10),(.int .u8 9)])) (.t 10)),
 oJ 12 11,oP 13 (.conv .i64 (.t 12)),mV 2 13])))
def qeq : AC:=(nS (nF [oN 26 .lss 25 24]) (nS (nC 26 .skip (.exit 0)) (nS (.block 1 (nS (nF [mV 27 25,oV 28 1 23 25,oJ 29 28,mV 6 27,mV 7 29]) (nS (nF [mV 30 7,oP 31 (.conv .u64 (.t 30)),mV 8 31]) (nS (nS (nF [mV 32 6,oO 33 .add 32 1,mV 34 0,oT 35 34,oN 36 .lss 33 35]) (nC 36 (nF [mV 37 8,mV 38 0,mV 39 6,oO 40 .add 39 1,oV 41 1 38 40,oJ 42 41,oP 43 (.conv .u64 (.t 42)),oP 44 (.bin .num .shl (.t 43) (.c (.int .u64 32))),oN 45 .or 37 44,mV 8 45]) .skip)) (nF [mV 46 5,mV 47 6,mV 48 8,mV 49 1,oO 50 .rem 49 32,
 oN 51 .shr 48 50,oP 52 (.conv .u32 (.t 51)),oV 53 1 46 47,oK 1 53 52 false]))))) (nF [oO 54 .add 25 1,mV 25 54]))))
@[simp] def qmo : AFn:=nG [(.tmp 4)] (nS (nF [oP 4 (.mv (.c .nil))]) (nS (nF [mV 9 0,oA1 10 111 9,mV 0 10]) (nS (nS (nF [mV 11 1,oO 12 .quo 11 32,mV 13 0,oT 14 13,oN 15 .geq 12 14]) (nC 15 (nR [oP 4 (.mv (.c .nil))]) .skip)) (nS (nF [mV 16 0,mV 17 1,oO 18 .quo 17 32,oP 19 (.slice 1 (.t 16) (some (.t 18)) none none),mV 0 19]) (nS (nF [mV 20 0,oT 21 20,oP 22 (.mkslice 1 4 (.int .u32 0) (.t 21) (.t 21)),mV 5 22]) (nS (nS (nF [mV 23 0,oT 24 23,oP 25 (nV 0)]) (.block 0 (.loop qeq))) (nR [mV 55 5,
 mV 4 55])))))))
def qc8 : AC:=(nS (nF [oN 24 .lss 23 22]) (nS (nC 24 .skip (.exit 0)) (nS (.block 1 (nS (nF [mV 25 23,oV 26 1 21 23,oJ 27 26,mV 7 25,mV 8 27]) (nS (nF [oP 9 (.mv (.c (.int .u32 0)))]) (nS (nS (nF [mV 28 7,mV 29 1,oT 30 29,oN 31 .lss 28 30]) (nC 31 (nF [mV 32 1,mV 33 7,oV 34 1 32 33,oJ 35 34,mV 9 35]) .skip)) (nF [mV 37 5,mV 38 7,mV 39 8,mV 40 9,mV 41 6,oA3 42 271 39 40 41,mV 36 42,oR 43 0 36,oR 44 1 36,oV 45 1 37 38,oK 1 45 43 false,mV 6 44]))))) (nF [oO 46 .add 23 1,mV 23 46]))))
@[simp] def qmq : AFn:=nG [(.tmp 4)] (nS (nF [oP 4 (.mv (.c .nil))]) (nS (nS (nF [mV 10 0,oT 11 10,mV 12 1,oT 13 12,oN 14 .lss 11 13]) (nC 14 (nF [mV 15 1,mV 16 0,mV 0 15,mV 1 16]) .skip)) (nS (nF [mV 17 0,oT 18 17,oO 19 .add 18 1,oP 20 (.mkslice 1 4 (.int .u32 0) (.t 19) (.t 19)),mV 5 20]) (nS (nF [oP 6 (.mv (.c (.int .u32 0)))]) (nS (nS (nF [mV 21 0,oT 22 21,oP 23 (nV 0)]) (.block 0 (.loop qc8))) (nS (nF [mV 47 5,mV 48 0,oT 49 48,mV 50 6,oV 51 1 47 49,oK 1 51 50 false]) (nR [mV 52 5,
 mV 4 52])))))))
@[simp] def qm4 : AFn:=nG [(.cell 6 true 3),(.tmp 7)] (nS (nF [oM 6,oP 7 (nV 0)]) (nS (nS (nF [mV 8 1,oT 9 8,oO 10 .gtr 9 256,mV 11 10,oE 12 11 2,oC1 13 11 223 12,gF 14 11 (nU 13),oX 15 11 14]) (nC 15 (nR [oP 16 (.build nD []),oK 3 6 16 false,oP 7 (nV 1)]) .skip)) (nR [mV 17 0,mV 18 1,mV 19 2,oA3 20 225 17 18 19,oA1 21 224 20,oR 22 0 21,oR 23 1 21,oK 3 6 22 false,mV 7 23])))
def qep : AC:=(nS (nF [oN 20 .lss 19 18]) (nS (nC 20 .skip (.exit 0)) (nS (.block 1 (nS (nF [mV 21 19,oV 22 1 17 19,oJ 23 22,mV 7 21,mV 8 23]) (nS (nF [oP 9 (.mv (.c (.int .u32 0)))]) (nS (nS (nF [mV 24 7,mV 25 1,oT 26 25,oN 27 .lss 24 26]) (nC 27 (nF [mV 28 1,mV 29 7,oV 30 1 28 29,oJ 31 30,mV 9 31]) .skip)) (nF [mV 33 5,mV 34 7,mV 35 8,mV 36 9,mV 37 6,oA3 38 272 35 36 37,mV 32 38,oR 39 0 32,oR 40 1 32,oV 41 1 33 34,oK 1 41 39 false,mV 6 40]))))) (nF [oO 42 .add 19 1,mV 19 42]))))
@[simp] def qmn : AFn:=nG [(.tmp 4)] (nS (nF [oP 4 (.mv (.c .nil))]) (nS (nF [mV 10 0,oA1 11 111 10,mV 12 1,oA1 13 111 12,mV 0 11,mV 1 13]) (nS (nF [mV 14 0,oT 15 14,oP 16 (.mkslice 1 4 (.int .u32 0) (.t 15) (.t 15)),mV 5 16]) (nS (nF [oP 6 (.mv (.c (.int .u32 0)))]) (nS (nS (nF [mV 17 0,oT 18 17,oP 19 (nV 0)]) (.block 0 (.loop qep))) (nR [mV 43 5,mV 4 43]))))))
def qfl : AC:=(nS (nS (nF [mV 15 8,oO 16 .geq 15 0]) (nC 16 .skip (.exit 0))) (nS (.block 1 (nF [mV 20 6,mV 21 8,mV 22 7,mV 23 0,mV 24 8,oV 25 1 23 24,oJ 26 25,mV 27 1,oA3 28 273 22 26 27,mV 19 28,oR 29 0 19,oR 30 1 19,oV 31 1 20 21,oK 1 31 29 false,mV 7 30])) (nF [mV 17 8,oO 18 .sub 17 1,mV 8 18])))
@[simp] def qir : AFn:=nG [(.tmp 4),(.tmp 5)] (nS (nF [oP 4 (.mv (.c .nil)),oP 5 (.mv (.c (.int .u32 0)))]) (nS (nF [mV 9 0,oT 10 9,oP 11 (.mkslice 1 4 (.int .u32 0) (.t 10) (.t 10)),mV 6 11]) (nS (nF [oP 7 (.mv (.c (.int .u32 0)))]) (nS (nS (nF [mV 12 0,oT 13 12,oO 14 .sub 13 1,mV 8 14]) (.block 0 (.loop qfl))) (nR [mV 32 6,mV 33 7,mV 4 32,mV 5 33])))))
@[simp] def qcb : AFn:=nG [(.tmp 2)] (nS (nF [oP 2 (nV 0)]) (nR [mV 3 0,oA1 4 113 3,oP 5 (.bin .num .sub (.c (.int .i64 32)) (.t 4)),mV 2 5]))
@[simp] def qis : AFn:=nG [(.tmp 10)] (nS (nF [oP 10 (.mv (.c (.int .u64 0)))]) (nS (nS (nF [mV 12 0,mV 13 3,oN 14 .geq 12 13]) (nC 14 (nR [mV 15 0,mV 16 3,oN 17 .sub 15 16,oP 18 (.conv .u64 (.t 17)),oP 19 (.bin .num .shl (.t 18) (.c (.int .u64 32))),mV 20 1,oP 21 (.conv .u64 (.t 20)),oN 22 .add 19 21,mV 23 3,oP 24 (.conv .u64 (.t 23)),oN 25 .add 22 24,mV 26 2,mV 27 3,mV 28 4,oP 29 (.call (.f 274) [(.c (.int .u64 4294967295)),(.t 25),(.t 26),(.t 27),(.t 28)]),mV 10 29]) .skip)) (nS (nF [mV 30 0,oP 31 (.conv .u64 (.t 30)),oP 32 (.bin .num .shl (.t 31) (.c (.int .u64 32))),
 mV 33 1,oP 34 (.conv .u64 (.t 33)),oN 35 .or 32 34,mV 11 35]) (nS (nT [mV 36 11,mV 37 3,oP 38 (.conv .u64 (.t 37)),oN 39 .quo 36 38,mV 40 11,mV 41 3,oP 42 (.conv .u64 (.t 41)),oN 43 .rem 40 42,mV 44 2,mV 45 3,mV 46 4,oB5 47 274 39 43 44 45 46,mV 10 47]) .ret))))
def qd5 : AC:=(nS (nF [oN 17 .lss 16 15]) (nS (nC 17 .skip (.exit 0)) (nS (.block 1 (nS (nF [mV 18 16,oV 19 1 14 16,oJ 20 19,mV 9 18,mV 10 20]) (nS (nF [mV 21 2,mV 22 10,oP 23 (.conv .u64 (.t 22)),oN 24 .mul 21 23,mV 25 7,oN 26 .add 24 25,mV 11 26]) (nS (nF [mV 27 11,oP 28 (.bin .num .shr (.t 27) (.c (.int .u64 32))),mV 7 28]) (nS (nF [mV 29 0,mV 30 9,oV 31 1 29 30,oJ 32 31,oP 33 (.conv .u64 (.t 32)),mV 34 11,oP 35 (.bin .num .and (.t 34) (.c (.int .u64 4294967295))),oN 36 .sub 33 35,mV 37 8,oN 38 .sub 36 37,mV 12 38]) (nF [mV 39 0,
 mV 40 9,mV 41 12,oP 42 (.conv .u32 (.t 41)),mV 43 12,oP 44 (.bin .num .shr (.t 43) (.c (.int .u64 63))),oV 45 1 39 40,oK 1 45 42 false,mV 8 44])))))) (nF [oO 46 .add 16 1,mV 16 46]))))
@[simp] def qgh : AFn:=⟨[(.tmp 6)],(nS (nF [oZ 6 false]) (nS (nF [oP 7 (.mv (.c (.int .u64 0))),oP 8 (.mv (.c (.int .u64 0)))]) (nS (nS (nF [mV 14 1,oT 15 14,oP 16 (nV 0)]) (.block 0 (.loop qd5))) (nS (nF [mV 47 0,mV 48 1,oT 49 48,oV 50 1 47 49,oJ 51 50,oP 52 (.conv .u64 (.t 51)),mV 53 7,oN 54 .sub 52 53,mV 55 8,oN 56 .sub 54 55,mV 13 56]) (nS (nF [mV 57 0,mV 58 1,oT 59 58,mV 60 13,oP 61 (.conv .u32 (.t 60)),oV 62 1 57 59,oK 1 62 61 false]) (nR [mV 63 13,oP 64 (.bin .num .shr (.t 63) (.c (.int .u64 63))),
 oP 65 (.bin .num .eql (.t 64) (.c (.int .u64 1))),mV 6 65])))))),false,true⟩
@[simp] def qf1 : AFn:=nG [(.tmp 6),(.tmp 7)] (nS (nF [oP 6 (.mv (.c (.int .u32 0))),oP 7 (.mv (.c (.int .u32 0)))]) (nS (nF [mV 9 0,oP 10 (.conv .u64 (.t 9)),mV 11 1,oP 12 (.conv .u64 (.t 11)),oN 13 .add 10 12,mV 14 2,oP 15 (.conv .u64 (.t 14)),oN 16 .add 13 15,mV 8 16]) (nS (nF [mV 17 8,oP 18 (.conv .u32 (.t 17)),mV 6 18]) (nR [mV 19 8,oP 20 (.bin .num .shr (.t 19) (.c (.int .u64 32))),oP 21 (.conv .u32 (.t 20)),mV 7 21]))))
@[simp] def qfz : AFn:=nG [(.tmp 6),(.tmp 7)] (nS (nF [oP 6 (.mv (.c (.int .u32 0))),oP 7 (.mv (.c (.int .u32 0)))]) (nS (nF [mV 8 0,mV 9 1,oN 10 .sub 8 9,mV 11 2,oN 12 .sub 10 11,mV 6 12]) (nR [mV 13 0,oP 14 (.un .xor (.t 13)),mV 15 1,oN 16 .and 14 15,mV 17 0,mV 18 1,oN 19 .xor 17 18,oP 20 (.un .xor (.t 19)),mV 21 6,oN 22 .and 20 21,oN 23 .or 16 22,oP 24 (.bin .num .shr (.t 23) (.c (.int .u64 31))),mV 7 24])))
@[simp] def qf0 : AFn:=nG [(.tmp 6),(.tmp 7)] (nS (nF [oP 6 (.mv (.c (.int .u32 0))),oP 7 (.mv (.c (.int .u32 0)))]) (nS (nS (nF [mV 9 2,oP 10 (.bin .num .neq (.t 9) (.c (.int .u32 0))),mV 11 10,oF 12 11 2,oF 13 11 0,gT 14 11 (nY .leq 12 13),oY 15 11 14]) (nC 15 .stop .skip)) (nS (nF [mV 17 0,oP 18 (.conv .u64 (.t 17)),oP 19 (.bin .num .shl (.t 18) (.c (.int .u64 32))),mV 20 1,oP 21 (.conv .u64 (.t 20)),oN 22 .or 19 21,mV 8 22]) (nS (nT [mV 23 8,mV 24 2,oP 25 (.conv .u64 (.t 24)),oN 26 .quo 23 25,oP 27 (.conv .u32 (.t 26)),
 mV 28 8,mV 29 2,oP 30 (.conv .u64 (.t 29)),oN 31 .rem 28 30,oP 32 (.conv .u32 (.t 31)),mV 6 27,mV 7 32]) .ret))))
def qdh : AC:=(nS (nS (nF [mV 11 1,oP 12 (.bin .num .lss (.t 11) (.c (.int .u64 4294967296))),mV 13 12,oF 14 13 0,oF 15 13 4,gT 16 13 (.conv .u64 (.t 15)),gT 17 13 (nY .mul 14 16),oF 18 13 1,gT 19 13 (.bin .num .shl (.t 18) (.c (.int .u64 32))),oF 20 13 2,gT 21 13 (.conv .u64 (.t 20)),gT 22 13 (nY .or 19 21),gT 23 13 (nY .gtr 17 22),oY 24 13 23]) (nC 24 .skip (.exit 0))) (.block 1 (nS (nF [mV 25 0,oP 26 (.bin .num .sub (.t 25) (.c (.int .u64 1))),mV 0 26]) (nF [mV 27 1,mV 28 3,oP 29 (.conv .u64 (.t 28)),
 oN 30 .add 27 29,mV 1 30]))))
@[simp] def qiu : AFn:=nG [(.tmp 10)] (nS (nF [oP 10 (.mv (.c (.int .u64 0)))]) (nS (.block 0 (.loop qdh)) (nR [mV 31 0,mV 10 31])))
@[simp] def qbm : AFn:=⟨[(.tmp 2)],(nS (nF [oP 2 (.mv (.c .nil))]) (nS (nS (nF [mV 3 0,oP 4 (.bin .slice .eql (.t 3) (.c .nil))]) (nC 4 (nR [oP 2 (.mv (.c .nil))]) .skip)) (nR [oP 5 (.bslice 7 0 (.agg nI) []),mV 6 0,oP 7 (.append 7 88 (.t 5) (.t 6)),mV 2 7]))),true,false⟩
@[simp] def qk5 : AFn:=nG [(.cell 4 true 7)] (nS (nF [oU 2 7 0,oL 4]) (nS (nS (nF [oI 5 7 2,mV 6 1,oA2 7 429 5 6,oW 8 7,mV 9 8,gF 10 9 (nA 0 2),oG 11 9 true 3 10,oC1 12 9 79 11,gF 13 9 (nX .leq 12 0),oX 14 9 13]) (nC 14 (nR [oA0 15 107,oK 7 4 15 false]) .skip)) (nS (nT [oQ 16 0 2,oI 17 3 16,mV 18 1,oA2 19 431 17 18,oQ 20 3 2,oI 21 3 20,mV 22 1,oB2 23 431 21 22,oB2 24 430 19 23,oK 7 4 24 true]) .ret)))
@[simp] def qk6 : AFn:=nG [(.cell 4 true 7)] (nS (nF [oU 2 7 0,oL 4]) (nS (nS (nF [oI 5 7 2,mV 6 1,oA2 7 429 5 6,oW 8 7,mV 9 8,gF 10 9 (nA 0 2),oG 11 9 true 3 10,oC1 12 9 437 11,gF 13 9 (nU 12),oX 14 9 13,mV 15 14,gF 16 15 (nA 3 2),oG 17 15 true 3 16,oC1 18 15 437 17,gF 19 15 (nU 18),oX 20 15 19]) (nC 20 (nR [oA0 21 107,oK 7 4 21 false]) .skip)) (nS (nT [oQ 22 0 2,oI 23 3 22,mV 24 1,oA2 25 438 23 24,oQ 26 3 2,oI 27 3 26,mV 28 1,oB2 29 438 27 28,oB2 30 430 25 29,oK 7 4 30 true]) .ret)))
@[simp] def qji : AFn:=nG [(.cell 2 true 7)] (nS (nF [oL 2]) (nS (nS (nF [mV 4 0,oO 5 .lss 4 8,mV 6 5,oE 7 6 0,gF 8 6 (nX .gtr 7 512),oX 9 6 8]) (nC 9 (nR [oA0 10 107,oK 7 2 10 false]) .skip)) (nS (nF [mV 11 0,oP 12 (.call (.f 442) [(.t 11),(.c (.int .i64 16))]),oP 3 (.new 1 (.agg [(.int .i64 0)])),oK 1 3 12 false]) (nS (nT [oI 13 1 3,oI 14 1 3,oP 15 (.call (.f 445) [(.c (.int .i64 1))]),oP 16 (.call (.f 445) [(.c (.int .i64 3))]),oA3 17 444 14 15 16,oB2 18 443 13 17,mV 19 0,oB2 20 149 18 19,
 oK 7 2 20 true]) .ret))))
@[simp] def qjg : AFn:=nG [(.tmp 4)] (nS (nF [oU 2 7 0,oZ 4 false]) (nR [oQ 5 6 2,oJ 6 5,oW 7 6,mV 8 7,oH 9 8 true 7 2,oD1 10 8 77 9,oY 11 8 10,mV 12 11,oF 13 12 1,gT 14 12 (nX .geq 13 8),oY 15 12 14,mV 16 15,oF 17 16 1,gT 18 16 (nX .leq 17 512),oY 19 16 18,mV 4 19]))
@[simp] def qjh : AFn:=nG [(.cell 4 true 7)] (nS (nF [oU 2 7 0,oU 3 7 1,oL 4]) (nS (nS (nF [oQ 5 6 2,oJ 6 5,mV 7 6,gF 8 7 (nA 6 3),oG 9 7 false 1 8,oX 10 7 9]) (nC 10 (nR [oA0 11 107,oK 7 4 11 false]) .skip)) (nR [oQ 12 0 2,oI 13 3 12,oQ 14 3 3,oI 15 3 14,oP 16 (.build nI [(0,3,(.t 13)),(3,3,(.t 15))]),oK 7 4 16 false])))
@[simp] def qee : AFn:=nG [(.cell 4 true 7)] (nS (nF [oU 2 3 0,oL 4]) (nS (nS (nT [oI 9 3 2,oP 10 (.call (.f 210) [(.c (.int .i64 1))]),oB2 11 52 9 10,oO 12 .eql 11 0]) (nC 12 (nR [oP 13 (.build nI []),oK 7 4 13 false]) .skip)) (nS (nF [mV 14 1,oP 15 (.call (.f 442) [(.t 14),(.c (.int .i64 40))]),oP 5 (.new 1 (.agg [(.int .i64 0)])),oK 1 5 15 false]) (nS (nF [oI 16 3 2,oA1 17 98 16,mV 6 17]) (nS (nT [oI 18 3 2,oA1 19 152 18,
 oQ 20 0 5,oJ 21 20,oA2 22 149 19 21,mV 23 6,oP 24 (.un .neg (.t 23)),oA2 25 158 22 24,oL 7,oK 7 7 25 true]) (nS (nT [oI 26 1 5,oI 27 1 5,oI 28 7 7,oP 29 (.call (.f 445) [(.c (.int .i64 (-1)))]),oA3 30 446 27 28 29,oI 31 1 5,oI 32 7 7,oP 33 (.call (.f 445) [(.c (.int .i64 1))]),oA3 34 446 31 32 33,oA3 35 444 26 30 34,oL 8,oK 7 8 35 true]) (nS (nT [oI 36 1 5,oI 37 1 5,oI 38 7 8,oA2 39 443 37 38,oI 40 1 5,mV 41 6,oA1 42 445 41,oQ 43 0 5,oJ 44 43,oA1 45 423 44,oA3 46 447 40 42 45,oB3 47 446 36 39 46,mV 48 1,oB2 49 149 47 48,oK 7 4 49 true]) .ret)))))))
@[simp] def qey : AFn:=nG [(.tmp 2)] (nS (nF [oU 1 3 0,oZ 2 false]) (nR [oI 3 3 1,oA1 4 205 3,oP 5 (.call (.f 210) [(.c (.int .i64 1000))]),oA2 6 52 4 5,oO 7 .leq 6 0,mV 2 7]))
@[simp] def qhe : AFn:=nG [(.cell 4 true 7)] (nS (nF [oU 2 3 0,oL 4]) (nS (nS (nF [oI 7 3 2,oA1 8 79 7,oO 9 .eql 8 0]) (nC 9 (nR [oP 10 (.call (.f 445) [(.c (.int .i64 1))]),oK 7 4 10 false]) .skip)) (nS (nF [oI 11 3 2,oA1 12 98 11,oO 13 .add 12 1,oP 14 (.max (.t 13) (.c (.int .i64 0))),mV 5 14]) (nS (nF [mV 15 1,mV 16 5,oO 17 .add 16 24,oA2 18 442 15 17,oP 6 (.new 1 (.agg [(.int .i64 0)])),oK 1 6 18 false]) (nS (nT [oI 19 1 6,oI 20 3 2,oA1 21 152 20,oQ 22 0 6,oJ 23 22,oA2 24 149 21 23,mV 25 5,oB3 26 448 19 24 25,
 mV 27 1,oB2 28 149 26 27,oK 7 4 28 true]) .ret)))))
@[simp] def qhf : AFn:=nG [(.cell 4 true 1)] (nS (nF [oP 4 (.new 1 (.agg [(.int .i64 0)]))]) (nR [mV 5 0,mV 6 1,oN 7 .add 5 6,oP 8 (.min (.t 7) (.c (.int .i64 512))),oP 9 (.build [(.int .i64 0)] [(0,1,(.t 8))]),oK 1 4 9 false]))
def qe4 : AC:=(nS (nS (nF [oI 15 1 2,oI 16 7 6,oA2 17 449 15 16,oW 18 17]) (nC 18 .skip (.exit 0))) (nS (.block 1 (nS (nF [oI 21 1 2,oI 22 7 6,oI 23 7 5,oA3 24 447 21 22 23,oK 7 6 24 false]) (nT [oI 25 1 2,oI 26 7 7,oI 27 1 2,oI 28 7 6,mV 29 8,oA1 30 445 29,oA3 31 444 27 28 30,oB3 32 446 25 26 31,oK 7 7 32 true]))) (nF [mV 19 8,oO 20 .add 19 2,mV 8 20])))
@[simp] def qds : AFn:=nG [(.cell 4 true 7)] (nS (nF [oU 2 1 0,oU 3 7 1,oL 4]) (nS (nF [oI 9 7 3,oQ 10 0 2,oJ 11 10,oA2 12 141 9 11,oL 5,oK 7 5 12 false]) (nS (nT [oI 13 7 3,oP 14 (.sload true 7 3),oL 6,oL 7,⟨none,.storeN 7 (.t 6) (.t 13) [3],none,true⟩,oK 7 7 14 true]) (nS (nS (nF [oP 8 (nV 3)]) (.block 0 (.loop qe4))) (nS (nT [oI 33 1 2,oI 34 7 7,oI 35 7 6,oA1 36 450 35,oB3 37 446 33 34 36,oS 38 (.call (.f 158) [(.t 37),(.c (.int .i64 1))]),oK 7 4 38 true]) .ret)))))
@[simp] def qdu : AFn:=nG [(.cell 6 true 7)] (nS (nF [oU 3 1 0,oU 4 7 1,oU 5 7 2,oL 6]) (nR [oI 7 7 4,oI 8 7 5,oQ 9 0 3,oJ 10 9,oA3 11 142 7 8 10,oK 7 6 11 false]))
@[simp] def qhd : AFn:=nG [(.cell 2 true 7)] (nS (nF [oL 2]) (nR [mV 3 0,oA1 4 210 3,oA1 5 152 4,oK 7 2 5 false]))
@[simp] def qdv : AFn:=nG [(.cell 6 true 7)] (nS (nF [oU 3 1 0,oU 4 7 1,oU 5 7 2,oL 6]) (nR [oI 7 7 4,oI 8 7 5,oQ 9 0 3,oJ 10 9,oA3 11 138 7 8 10,oK 7 6 11 false]))
@[simp] def qdr : AFn:=nG [(.cell 6 true 7)] (nS (nF [oU 3 1 0,oU 4 7 1,oU 5 7 2,oL 6]) (nR [oI 7 7 4,oI 8 7 5,oQ 9 0 3,oJ 10 9,oA3 11 140 7 8 10,oK 7 6 11 false]))
@[simp] def qcu : AFn:=nG [(.cell 6 true 7)] (nS (nF [oU 3 1 0,oU 4 7 1,oL 6]) (nS (nS (nF [mV 7 2,oO 8 .eql 7 0]) (nC 8 (nR [oI 9 1 3,oI 10 7 4,oA2 11 451 9 10,oK 7 6 11 false]) .skip)) (nS (nT [oI 12 1 3,oI 13 7 4,oP 14 (.call (.f 158) [(.t 13),(.c (.int .i64 (-1)))]),mV 15 2,oO 16 .sub 15 1,oA3 17 448 12 14 16,oQ 18 0 3,oJ 19 18,oB2 20 141 17 19,oK 7 6 20 true]) .ret)))
@[simp] def qc4 : AFn:=nG [(.tmp 4)] (nS (nF [oU 2 1 0,oU 3 7 1,oZ 4 false]) (nS (nF [oI 8 7 3,oA1 9 164 8,mV 7 9,oR 10 0 7,oR 11 1 7,oM 5,oK 3 5 10 false,mV 6 11]) (nS (nT [mV 12 6,oW 13 12,mV 14 13,oG 15 14 true 3 5,⟨some 16,.call (.f 79) [(.t 15)],some (14,false),true⟩,gF 17 14 (nX .eql 16 0),oX 18 14 17,mV 19 18,oG 20 19 true 3 5,oC1 21 19 98 20,gF 22 19 (nA 0 2),oG 23 19 false 1 22,gF 24 19 (.un .neg (.t 23)),gF 25 19 (nY .leq 21 24),oX 26 19 25,mV 4 26]) .ret)))
@[simp] def qf9 : AFn:=nG [(.cell 2 true 7)] (nS (nF [oU 1 7 0,oL 2]) (nS (nF [oI 6 7 1,oA1 7 164 6,mV 5 7,oR 8 0 5,oR 9 1 5,oM 3,oK 3 3 8 false,mV 4 9]) (nS (nS (nF [mV 10 4,oW 11 10]) (nC 11 (nR [oA0 12 107,oK 7 2 12 false]) .skip)) (nS (nT [oI 13 3 3,oA1 14 198 13,oI 15 3 3,oP 16 (.build nI [(0,3,(.t 14)),(3,3,(.t 15))]),oK 7 2 16 true]) .ret))))
def qe5 : AC:=(nS (.block 1 (nS (nT [oI 12 1 2,oI 13 1 2,oI 14 7 5,oI 15 7 3,oA3 16 447 13 14 15,mV 17 7,oA1 18 445 17,oB3 19 444 12 16 18,oK 7 5 19 true]) (nS (nF [oI 20 1 2,oI 21 7 6,oI 22 7 5,oA3 23 446 20 21 22,oK 7 6 23 false]) (nS (nF [oI 24 1 2,oI 25 7 5,oA2 26 449 24 25]) (nC 26 (.exit 0) .skip))))) (nF [mV 10 7,oO 11 .add 10 1,mV 7 11]))
@[simp] def qdt : AFn:=nG [(.cell 4 true 7)] (nS (nF [oU 2 1 0,oU 3 7 1,oL 4]) (.scope (nS (nF [oP 8 (.call (.f 445) [(.c (.int .i64 1))]),oP 9 (.call (.f 445) [(.c (.int .i64 1))]),oL 5,oL 6,oK 7 5 8 false,oK 7 6 9 false]) (.seq .skip (nS (nS (nF [oP 7 (nV 1)]) (.block 0 (.loop qe5))) (nS (nT [oI 27 1 2,oI 28 7 6,oI 29 7 5,oA1 30 450 29,oB3 31 446 27 28 30,oK 7 4 31 true]) .ret))))))
@[simp] def qoo : AFn:=nG [(.cell 4 true 7)] (nS (nF [oU 2 7 0,oL 4]) (nR [oI 5 7 2,mV 6 1,oP 7 (.call (.f 486) [(.t 5),(.c (.bool false)),(.t 6)]),oK 7 4 7 false]))
@[simp] def qop : AFn:=nG [(.cell 4 true 7)] (nS (nF [oU 2 7 0,oL 4]) (nR [oI 5 7 2,mV 6 1,oP 7 (.call (.f 486) [(.t 5),(.c (.bool true)),(.t 6)]),oK 7 4 7 false]))
@[simp] def qhn : AFn:=nG [(.tmp 2)] (nS (nF [oZ 2 false]) (nR [mV 3 0,oO 4 .geq 3 8,mV 5 4,oF 6 5 0,gT 7 5 (nX .leq 6 512),oY 8 5 7,mV 2 8]))
@[simp] def qm7 : AFn:=nG [(.cell 6 true 7)] (nS (nF [oU 3 2 0,oL 6]) (nS (nF [oP 14 (.bslice 1 1 (.int .u32 0) [(0,(.c (.int .u32 1)))]),oP 15 (.call (.f 493) [(.t 14),(.c (.int .i64 24))]),oP 16 (.build nB [(0,1,(.c (.bool false))),(1,1,(.t 15))]),oP 7 (.new 2 (.agg nB)),oK 2 7 16 false]) (nS (nT [oI 17 2 3,oI 18 2 7,oA1 19 495 18,oA2 20 494 17 19,oI 21 2 3,oI 22 2 7,oA2 23 494 21 22,oP 8 (.new 2 (.agg nB)),oP 9 (.new 2 (.agg nB)),oK 2 8 20 true,oK 2 9 23 true]) (nS (nF [oQ 25 0 8,
 oJ 26 25,oQ 27 1 8,oJ 28 27,mV 29 1,oP 30 (.un .neg (.t 29)),oA3 31 265 26 28 30,mV 24 31,oR 32 0 24,oR 33 1 24,oM 10,oK 3 10 32 false,mV 11 33]) (nS (nF [oQ 35 0 9,oJ 36 35,oQ 37 1 9,oJ 38 37,mV 39 1,oP 40 (.un .neg (.t 39)),oA3 41 265 36 38 40,mV 34 41,oR 42 0 34,oR 43 1 34,oM 12,oK 3 12 42 false,mV 13 43]) (nS (nS (nF [mV 44 11,oO 45 .neq 44 0,mV 46 45,oE 47 46 13,gF 48 46 (nX .neq 47 0),oX 49 46 48]) (nC 49 (nR [oA0 50 107,oK 7 6 50 false]) .skip)) (nS (nF [oI 52 3 10,mV 53 2,oA2 54 199 52 53,
 mV 51 54,oR 55 0 51,oR 56 1 51,oK 3 10 55 false,mV 11 56]) (nS (nF [oI 58 3 12,mV 59 2,oA2 60 200 58 59,mV 57 60,oR 61 0 57,oR 62 1 57,oK 3 12 61 false,mV 13 62]) (nS (nS (nF [mV 63 11,oO 64 .neq 63 0,mV 65 64,oE 66 65 13,gF 67 65 (nX .neq 66 0),oX 68 65 67]) (nC 68 (nR [oA0 69 107,oK 7 6 69 false]) .skip)) (nR [oI 70 3 10,oI 71 3 12,oP 72 (.build nI [(0,3,(.t 70)),(3,3,(.t 71))]),oK 7 6 72 false]))))))))))
@[simp] def qql : AFn:=nG [(.cell 2 true 2)] (nS (nF [oP 2 (.new 2 (.agg nB))]) (nS (nF [mV 5 0,oP 6 (.call (.f 496) [(.c (.int .i64 5)),(.t 5)]),mV 7 0,oP 8 (.call (.f 496) [(.c (.int .i64 239)),(.t 7)]),oP 3 (.new 2 (.agg nB)),oP 4 (.new 2 (.agg nB)),oK 2 3 6 false,oK 2 4 8 false]) (nS (nT [oQ 9 1 3,oJ 10 9,oP 11 (.call (.f 493) [(.t 10),(.c (.int .i64 4))]),oP 12 (.build nB [(0,1,(.c (.bool false))),(1,1,(.t 11))]),oQ 13 1 4,oJ 14 13,oS 15 (.call (.f 493) [(.t 14),(.c (.int .i64 2))]),
 oP 16 (.build nB [(0,1,(.c (.bool true))),(1,1,(.t 15))]),oB2 17 494 12 16,oK 2 2 17 true]) .ret)))
@[simp] def qm9 : AFn:=nG [(.cell 6 true 7)] (nS (nF [oU 3 7 0,oL 6]) (nS (nS (nF [mV 12 2,oA1 13 480 12,oW 14 13,mV 15 14,oG 16 15 true 7 3,oC1 17 15 77 16,gF 18 15 (nU 17),oX 19 15 18,mV 20 19,gF 21 20 (nA 6 3),oG 22 20 false 1 21,oX 23 20 22]) (nC 23 (nR [oA0 24 107,oK 7 6 24 false]) .skip)) (nS (nS (nF [oQ 25 0 3,oI 26 3 25,oA1 27 98 26,oO 28 .gtr 27 100,mV 29 28,gF 30 29 (nA 3 3),oG 31 29 true 3 30,oC1 32 29 98 31,gF 33 29 (nX .gtr 32 100),oX 34 29 33]) (nC 34 (nR [oA0 35 499,
 oK 7 6 35 false]) .skip)) (nS (nF [oI 37 7 3,oP 38 (.call (.f 160) [(.t 37),(.c (.int .i64 64))]),mV 36 38,oR 39 0 36,oR 40 1 36,oM 7,oK 3 7 39 false,mV 8 40]) (nS (nS (nT [mV 41 8,oW 42 41,mV 43 42,oG 44 43 true 3 7,gF 45 43 (.call (.f 210) [(.c (.int .i64 7))]),⟨some 46,.call (.f 52) [(.t 44),(.t 45)],some (43,false),true⟩,gF 47 43 (nX .geq 46 0),oX 48 43 47]) (nC 48 (nR [oA0 49 499,oK 7 6 49 false]) .skip)) (nS (nT [oQ 51 0 3,oI 52 3 51,mV 53 1,mV 54 2,oA3 55 500 52 53 54,oQ 56 3 3,oI 57 3 56,
 mV 58 1,mV 59 2,oA3 60 500 57 58 59,oA2 61 94 55 60,oA0 62 499,oA2 63 90 61 62,mV 50 63,oR 64 0 50,oR 65 1 50,oL 9,oK 7 9 64 true,mV 8 65]) (nS (nS (nF [mV 66 8,oW 67 66]) (nC 67 (nR [oA0 68 499,oK 7 6 68 false]) .skip)) (nS (nS (nF [oQ 69 0 3,oI 70 3 69,oQ 71 3 3,oI 72 3 71,oA2 73 52 70 72,oO 74 .eql 73 0]) (nC 74 (nR [oI 75 7 9,oK 7 6 75 false]) .skip)) (nS (nF [oP 10 (nV 1),oP 11 (nV 3)]) (nS (nS (nF [mV 76 1]) (nC 76 (nF [oP 10 (nV 0),
 oP 11 (nV 2)]) .skip)) (nS (nS (nF [oI 77 7 3,mV 78 10,mV 79 2,oO 80 .add 79 64,oA3 81 501 77 78 80]) (nC 81 (nF [oP 82 (.call (.f 210) [(.c (.int .i64 1))]),oQ 83 3 9,oK 3 83 82 false]) .skip)) (nS (nS (nF [oI 84 7 3,mV 85 11,mV 86 2,oO 87 .add 86 64,oA3 88 501 84 85 87]) (nC 88 (nF [oP 89 (.call (.f 210) [(.c (.int .i64 (-1)))]),oQ 90 0 9,oK 3 90 89 false]) .skip)) (nR [oI 91 7 9,oK 7 6 91 false])))))))))))))
@[simp] def qm8 : AFn:=nG [(.tmp 4)] (nS (nF [oP 4 (.mv (.c .nil))]) (nS (nF [mV 8 0,mV 9 1,oA2 10 112 8 9,mV 7 10,oR 11 0 7,oR 12 1 7,mV 5 11,mV 6 12]) (nR [mV 13 5,mV 4 13])))
@[simp] def qfs : AFn:=nG [(.cell 4 true 2)] (nS (nF [oU 2 2 0,oU 3 2 1,oP 4 (.new 2 (.agg nB))]) (nS (nS (nF [oQ 9 0 2,oJ 10 9,oQ 11 0 3,oJ 12 11,oP 13 (.bin .bool .eql (.t 10) (.t 12))]) (nC 13 (nS (nF [oQ 15 1 2,oJ 16 15,oQ 17 1 3,oJ 18 17,oA2 19 257 16 18,mV 14 19,oR 20 0 14,oR 21 1 14,mV 5 20,mV 6 21]) (nR [oQ 22 0 2,oJ 23 22,mV 24 5,oP 25 (.build nB [(0,1,(.t 23)),(1,1,(.t 24))]),oK 2 4 25 false])) .skip)) (nS (nS (nF [oQ 26 1 2,oJ 27 26,oQ 28 1 3,oJ 29 28,oA2 30 99 27 29,
 oO 31 .lss 30 0]) (nC 31 (nF [oI 32 2 3,oI 33 2 2,oK 2 2 32 false,oK 2 3 33 false]) .skip)) (nS (nF [oQ 35 1 2,oJ 36 35,oQ 37 1 3,oJ 38 37,oA2 39 258 36 38,mV 34 39,oR 40 0 34,oR 41 1 34,mV 7 40,mV 8 41]) (nR [oQ 42 0 2,oJ 43 42,mV 44 7,oP 45 (.build nB [(0,1,(.t 43)),(1,1,(.t 44))]),oK 2 4 45 false])))))
@[simp] def qeh : AFn:=nG [(.cell 2 true 2)] (nS (nF [oU 1 2 0,oP 2 (.new 2 (.agg nB))]) (nR [oQ 3 0 1,oJ 4 3,oW 5 4,oQ 6 1 1,oJ 7 6,oP 8 (.build nB [(0,1,(.t 5)),(1,1,(.t 7))]),oK 2 2 8 false]))
@[simp] def qho : AFn:=nG [(.cell 4 true 2)] (nS (nF [oU 2 1 0,oP 4 (.new 2 (.agg nB))]) (nS (nF [oP 6 (.bslice 1 1 (.int .u32 0) [(0,(.c (.int .u32 1)))]),mV 7 1,oA2 8 493 6 7,oP 9 (.build nB [(0,1,(.c (.bool false))),(1,1,(.t 8))]),oP 5 (.new 2 (.agg nB)),oK 2 5 9 false]) (nR [oI 10 2 5,oJ 11 2,oA2 12 507 10 11,oP 13 (.mkfn 508 [(.t 2)]),oA2 14 506 12 13,oK 2 4 14 false])))
@[simp] def qm6 : AFn:=nG [(.cell 0 true 7)] (nS (nF [oL 0]) (nR [oP 1 (.call (.f 210) [(.c (.int .i64 (-1)))]),oP 2 (.call (.f 210) [(.c (.int .i64 1))]),oP 3 (.build nI [(0,3,(.t 1)),(3,3,(.t 2))]),oK 7 0 3 false]))
@[simp] def qlb : AFn:=nG [(.cell 6 true 7)] (nS (nF [oU 3 3 0,oL 6]) (nS (nS (nF [oI 12 3 3,oA1 13 79 12,oO 14 .eql 13 0]) (nC 14 (nS (nS (nF [mV 15 1]) (nC 15 (nR [oP 16 (.call (.f 210) [(.c (.int .i64 1))]),oA1 17 152 16,oK 7 6 17 false]) .skip)) (nR [oI 18 3 3,oA1 19 152 18,oK 7 6 19 false])) .skip)) (nS (nF [mV 20 2,oO 21 .add 20 64,mV 7 21]) (nS (nF [oI 23 3 3,mV 24 7,oA2 25 509 23 24,mV 22 25,oR 26 0 22,oR 27 1 22,oP 8 (.new 2 (.agg nB)),oK 2 8 26 false,
 mV 9 27]) (nS (nF [oI 29 2 8,mV 30 7,oA2 31 510 29 30,mV 28 31,oR 32 0 28,oR 33 1 28,oP 10 (.new 2 (.agg nB)),oP 11 (.new 2 (.agg nB)),oK 2 10 32 false,oK 2 11 33 false]) (nS (nS (nF [mV 34 1]) (nC 34 (nF [mV 35 9,oO 36 .add 35 1,mV 9 36]) .skip)) (nS (nS (nF [mV 37 9,oO 38 .rem 37 4]) (.block 0 (nS (nF [oO 40 .eql 38 1,mV 39 40]) (nC 39 (nF [oI 41 2 11,oK 2 10 41 false]) (nS (nF [oO 43 .eql 38 2,mV 42 43]) (nC 42 (nF [oI 44 2 10,oA1 45 495 44,
 oK 2 10 45 false]) (nS (nF [oO 47 .eql 38 3,mV 46 47]) (nC 46 (nF [oI 48 2 11,oA1 49 495 48,oK 2 10 49 false]) .skip)))))))) (nR [oI 50 2 10,mV 51 7,mV 52 2,oA3 53 481 50 51 52,oK 7 6 53 false]))))))))
@[simp] def qlc : AFn:=nG [(.tmp 6)] (nS (nF [oU 3 7 0,oZ 6 false]) (nS (nT [oQ 18 0 3,oI 19 3 18,oA1 20 98 19,oQ 21 3 3,oI 22 3 21,oB1 23 98 22,oP 24 (.max3 (.t 20) (.t 23) (.c (.int .i64 0))),mV 7 24]) (nS (nF [mV 25 2,mV 26 7,oN 27 .add 25 26,oO 28 .add 27 40,mV 8 28]) (nS (nF [mV 29 8,oA1 30 482 29,oP 9 (.new 2 (.agg nB)),oK 2 9 30 false]) (nS (nF [oQ 31 1 9,oJ 32 31,oP 33 (.call (.f 493) [(.t 32),(.c (.int .i64 1))]),oP 34 (.build nB [(0,1,(.c (.bool false))),(1,1,(.t 33))]),oP 10 (.new 2 (.agg nB)),
 oK 2 10 34 false]) (nS (nT [mV 35 1,oA1 36 511 35,oI 37 2 9,oP 38 (.call (.f 512) [(.t 36),(.t 37),(.c (.int .i64 0))]),oP 39 (.field false 1 1 (.t 38)),oP 40 (.call (.f 504) [(.t 39),(.c (.int .i64 1))]),oP 41 (.build nB [(0,1,(.c (.bool false))),(1,1,(.t 40))]),oP 11 (.new 2 (.agg nB)),oK 2 11 41 true]) (nS (nF [oP 42 (.bslice 1 1 (.int .u32 0) [(0,(.c (.int .u32 1)))]),mV 43 7,oO 44 .add 43 24,oO 45 .add 44 4,oA2 46 493 42 45,oP 47 (.build nB [(0,1,(.c (.bool false))),(1,1,(.t 46))]),oP 12 (.new 2 (.agg nB)),
 oK 2 12 47 false]) (nS (nT [oQ 48 3 3,oI 49 3 48,mV 50 8,oA2 51 503 49 50,oI 52 2 11,oA1 53 495 52,oA2 54 494 51 53,oI 55 2 12,oA2 56 494 54 55,oI 57 2 10,oA2 58 513 56 57,oP 13 (.new 2 (.agg nB)),oK 2 13 58 true]) (nS (nF [oQ 60 1 13,oJ 61 60,oQ 62 1 10,oJ 63 62,oA2 64 238 61 63,mV 59 64,oR 65 0 59,oR 66 1 59,mV 14 65,mV 15 66]) (nS (nF [oQ 67 0 13,oJ 68 67,mV 69 14,oP 70 (.build nB [(0,1,(.t 68)),(1,1,(.t 69))]),oI 71 2 11,oA2 72 494 70 71,oP 16 (.new 2 (.agg nB)),oK 2 16 72 false]) (nS (nT [oI 73 2 16,
 oQ 74 0 3,oI 75 3 74,mV 76 8,oA2 77 503 75 76,oA1 78 495 77,oA2 79 494 73 78,oI 80 2 12,oA2 81 494 79 80,oP 17 (.new 2 (.agg nB)),oK 2 17 81 true]) (nR [oI 82 2 17,oA1 83 514 82,mV 84 83,gF 85 84 (nA 0 17),oG 86 84 false 1 85,gF 87 84 (nU 86),oX 88 84 87,mV 6 88]))))))))))))
@[simp] def qqm : AFn:=nG [(.cell 4 true 2)] (nS (nF [oU 2 3 0,oP 4 (.new 2 (.agg nB))]) (nS (nS (nF [oQ 6 2 2,oJ 7 6,mV 8 1,oN 9 .add 7 8,mV 5 9]) (nS (nF [mV 10 5,oO 11 .lss 10 0]) (nC 11 (nS (nT [oQ 12 0 2,oJ 13 12,oQ 14 1 2,oJ 15 14,mV 16 5,oP 17 (.un .neg (.t 16)),oA2 18 504 15 17,oP 19 (.build nB [(0,1,(.t 13)),(1,1,(.t 18))]),oK 2 4 19 true]) .ret) .skip))) (nS (nT [oQ 20 0 2,oJ 21 20,oQ 22 1 2,oJ 23 22,oQ 24 2 2,oJ 25 24,mV 26 1,oN 27 .add 25 26,oA2 28 493 23 27,oP 29 (.build nB [(0,1,(.t 21)),(1,1,(.t 28))]),
 oK 2 4 29 true]) .ret)))
@[simp] def qla : AFn:=nG [(.tmp 4)] (nS (nF [oP 4 (.mv (.c .nil))]) (nS (nF [mV 8 0,mV 9 1,oA2 10 246 8 9,mV 7 10,oR 11 0 7,oR 12 1 7,mV 5 11,mV 6 12]) (nR [mV 13 5,mV 4 13])))
def qfr : AC:=(nS (.block 1 (nS (nF [mV 11 1,oI 12 2 2,oP 13 (.call (.t 11) [(.t 12)]),oK 2 2 13 false]) (nS (nS (nF [oI 14 2 2,oA1 15 514 14]) (nC 15 (nR [oI 16 2 5,oK 2 4 16 false]) .skip)) (nS (nF [oI 17 2 2,mV 18 6,oP 19 (.bin .num .mul (.c (.int .i64 2)) (.t 18)),oO 20 .add 19 1,oA2 21 507 17 20,oP 7 (.new 2 (.agg nB)),oK 2 7 21 false]) (nS (nS (nF [mV 22 6,oO 23 .rem 22 2,oO 24 .eql 23 1]) (nC 24 (nF [oI 25 2 7,oA1 26 495 25,oK 2 7 26 false]) .skip)) (nF [oI 27 2 5,
 oI 28 2 7,oA2 29 494 27 28,oK 2 5 29 false])))))) (nF [mV 9 6,oO 10 .add 9 1,mV 6 10]))
@[simp] def qef : AFn:=nG [(.cell 4 true 2)] (nS (nF [oU 2 2 0,oP 4 (.new 2 (.agg nB))]) (nS (nF [oI 8 2 2,oP 5 (.new 2 (.agg nB)),oK 2 5 8 false]) (nS (nF [oP 6 (nV 1)]) (.block 0 (.loop qfr)))))
@[simp] def qgb : AFn:=nG [(.cell 4 true 2)] (nS (nF [oU 2 2 0,oP 4 (.new 2 (.agg nB))]) (nS (nT [oQ 9 1 2,oJ 10 9,mV 11 1,oA1 12 511 11,oP 13 (.field false 1 1 (.t 12)),oB2 14 240 10 13,mV 8 14,oR 15 0 8,oR 16 1 8,oR 17 2 8,mV 5 15,mV 6 16,mV 7 17]) (nR [oQ 18 0 2,oJ 19 18,mV 20 5,oP 21 (.build nB [(0,1,(.t 19)),(1,1,(.t 20))]),oK 2 4 21 false])))
@[simp] def qfq : AFn:=nG [(.cell 3 true 2)] (nS (nF [oU 2 2 0,oP 3 (.new 2 (.agg nB))]) (nR [oI 4 2 2,oJ 5 1,oJ 6 1,oN 7 .mul 5 6,oA2 8 507 4 7,oK 2 3 8 false]))
@[simp] def qhm : AFn:=nG [(.cell 4 true 2),(.tmp 5)] (nS (nF [oU 2 3 0,oP 4 (.new 2 (.agg nB)),oP 5 (nV 0)]) (nS (nF [oI 17 3 2,oA1 18 98 17,oP 19 (.max (.t 18) (.c (.int .i64 0))),mV 6 19]) (nS (nF [mV 20 1,mV 21 6,oN 22 .add 20 21,oO 23 .add 22 40,mV 7 23]) (nS (nF [mV 24 7,oA1 25 482 24,oP 26 (.field false 1 1 (.t 25)),oP 27 (.call (.f 504) [(.t 26),(.c (.int .i64 1))]),oP 28 (.build nB [(0,1,(.c (.bool false))),(1,1,(.t 27))]),oP 8 (.new 2 (.agg nB)),oK 2 8 28 false]) (nS (nF [oI 29 3 2,
 mV 30 7,oA2 31 503 29 30,oP 9 (.new 2 (.agg nB)),oK 2 9 31 false]) (nS (nF [oQ 33 1 9,oJ 34 33,oQ 35 1 8,oJ 36 35,oA2 37 240 34 36,mV 32 37,oR 38 0 32,oR 39 1 32,oR 40 2 32,mV 10 38,mV 11 39,mV 12 40]) (nS (nF [mV 42 10,oQ 43 1 8,oJ 44 43,oA2 45 238 42 44,mV 41 45,oR 46 0 41,oR 47 1 41,mV 13 46,mV 14 47]) (nS (nF [oQ 48 0 9,oJ 49 48,oQ 50 1 9,oJ 51 50,oP 52 (.build nB [(0,1,(.t 49)),(1,1,(.t 51))]),oQ 53 0 9,oJ 54 53,oW 55 54,mV 56 13,oP 57 (.build nB [(0,1,(.t 55)),(1,1,(.t 56))]),oA2 58 494 52 57,oP 15 (.new 2 (.agg nB)),
 oK 2 15 58 false]) (nS (nF [oP 16 (nV 0)]) (nS (nS (nF [mV 59 10,oT 60 59,oO 61 .gtr 60 0]) (nC 61 (nF [mV 62 10,oP 63 (.iaddr 1 (.t 62) (.c (.int .i64 0))),oJ 64 63,oP 65 (.bin .num .and (.t 64) (.c (.int .u32 3))),oP 66 (.conv .i64 (.t 65)),mV 16 66]) .skip)) (nS (nS (nF [oQ 67 0 9,oJ 68 67]) (nC 68 (nF [mV 69 16,oP 70 (.bin .num .sub (.c (.int .i64 4)) (.t 69)),oO 71 .and 70 3,mV 16 71]) .skip)) (nS (nT [oQ 72 0 15,oJ 73 72,oQ 74 1 15,oJ 75 74,mV 76 6,oO 77 .add 76 40,oA2 78 504 75 77,
 oP 79 (.build nB [(0,1,(.t 73)),(1,1,(.t 78))]),mV 80 16,oK 2 4 79 true,mV 5 80]) .ret))))))))))))
def qj2 : AC:=(nS (.block 1 (nS (nF [oI 18 2 7,oI 19 2 2,mV 20 1,oA3 21 512 18 19 20,mV 22 8,oA2 23 507 21 22,oK 2 7 23 false]) (nS (nS (nF [oI 24 2 7,oA1 25 514 24]) (nC 25 (nS (nT [oI 26 2 4,oP 27 (.sload true 2 5),⟨none,.storeN 2 (.t 4) (.t 26) [5],none,true⟩,oK 2 5 27 true]) .ret) .skip)) (nS (nF [oI 28 2 7,oP 9 (.new 2 (.agg nB)),oK 2 9 28 false]) (nS (nS (nF [mV 29 8,oO 30 .rem 29 4,oO 31 .geq 30 2]) (nC 31 (nF [oI 32 2 9,oA1 33 495 32,oK 2 9 33 false]) .skip)) (nS (nF [mV 34 8,
 oO 35 .rem 34 2,oO 36 .eql 35 1]) (nC 36 (nF [oI 37 2 4,oI 38 2 9,oA2 39 494 37 38,oK 2 4 39 false]) (nF [oI 40 2 5,oI 41 2 9,oA2 42 494 40 41,oK 2 5 42 false])))))))) (nF [mV 16 8,oO 17 .add 16 1,mV 8 17]))
@[simp] def qjk : AFn:=nG [(.cell 4 true 2),(.cell 5 true 2)] (nS (nF [oU 2 2 0,oP 4 (.new 2 (.agg nB)),oP 5 (.new 2 (.agg nB))]) (nS (nF [oP 10 (.bslice 1 1 (.int .u32 0) [(0,(.c (.int .u32 1)))]),mV 11 1,oA2 12 493 10 11,oP 13 (.build nB [(0,1,(.c (.bool false))),(1,1,(.t 12))]),oP 6 (.new 2 (.agg nB)),oK 2 6 13 false]) (nS (nF [oI 14 2 6,oP 7 (.new 2 (.agg nB)),oK 2 7 14 false]) (nS (nF [oI 15 2 6,oK 2 5 15 false]) (nS (nF [oP 8 (nV 1)]) (.block 0 (.loop qj2)))))))
@[simp] def qk9 : AFn:=nG [(.cell 2 true 2)] (nS (nF [oP 2 (.new 2 (.agg nB))]) (nS (nF [mV 4 0,oA1 5 210 4,oM 3,oK 3 3 5 false]) (nS (nT [oQ 6 0 3,oJ 7 6,oQ 8 1 3,oJ 9 8,oQ 10 2 3,oJ 11 10,oA2 12 493 9 11,oP 13 (.build nB [(0,1,(.t 7)),(1,1,(.t 12))]),oK 2 2 13 true]) .ret)))
@[simp] def qeg : AFn:=nG [(.cell 6 true 2)] (nS (nF [oU 3 2 0,oU 4 2 1,oP 6 (.new 2 (.agg nB))]) (nS (nF [oQ 10 1 3,oJ 11 10,oQ 12 1 4,oJ 13 12,oA2 14 238 11 13,mV 9 14,oR 15 0 9,oR 16 1 9,mV 7 15,mV 8 16]) (nS (nT [oQ 17 0 3,oJ 18 17,oQ 19 0 4,oJ 20 19,oP 21 (.bin .bool .neq (.t 18) (.t 20)),mV 22 7,mV 23 2,oA2 24 504 22 23,oP 25 (.build nB [(0,1,(.t 21)),(1,1,(.t 24))]),oK 2 6 25 true]) .ret)))
@[simp] def qld : AFn:=nG [(.cell 4 true 2)] (nS (nF [oU 2 2 0,oU 3 2 1,oP 4 (.new 2 (.agg nB))]) (nS (nF [oQ 10 1 2,oJ 11 10,oQ 12 1 3,oJ 13 12,oA2 14 240 11 13,mV 9 14,oR 15 0 9,oR 16 1 9,oR 17 2 9,mV 5 15,mV 6 16,mV 7 17]) (nS (nF [oQ 18 0 2,oJ 19 18,mV 20 5,oP 21 (.build nB [(0,1,(.t 19)),(1,1,(.t 20))]),oP 8 (.new 2 (.agg nB)),oK 2 8 21 false]) (nS (nS (nF [oQ 22 0 2,oJ 23 22,mV 24 23,oF 25 24 6,oD1 26 24 110 25,gT 27 24 (nX .gtr 26 0),oY 28 24 27]) (nC 28 (nT [oI 29 2 8,
 oP 30 (.call (.f 511) [(.c (.int .i64 (-1)))]),oB2 31 494 29 30,oK 2 8 31 true]) .skip)) (nR [oI 32 2 8,oK 2 4 32 false])))))
@[simp] def qez : AFn:=nG [(.tmp 2)] (nS (nF [oU 1 2 0,oZ 2 false]) (nR [oQ 3 1 1,oJ 4 3,oA1 5 110 4,oO 6 .eql 5 0,mV 2 6]))
def qc2 : AC:=(nS (nF [oN 88 .lss 87 86]) (nS (nC 88 .skip (.exit 0)) (nS (.block 1 (nS (nF [mV 89 87,oV 90 8 85 87,oI 91 8 90,oP 11 (.new 8 (.agg [(.bool false),.nil,(.int .i64 0),(.bool false),.nil,(.int .i64 0),.nil,.nil])),mV 10 89,oK 8 11 91 false]) (nS (nF [oI 92 3 4,oQ 93 6 11,oJ 94 93,mV 95 2,oA3 96 598 92 94 95,mV 12 96]) (nS (nS (nF [mV 97 12,oT 98 97,oO 99 .neq 98 1]) (nC 99 (nR [oZ 6 false]) .skip)) (nS (nS (nF [mV 100 10,oO 101 .eql 100 0]) (nC 101 (nF [mV 102 12,
 oP 103 (.iaddr 7 (.t 102) (.c (.int .i64 0))),oI 104 7 103,oK 7 9 104 false]) .skip)) (nT [oI 105 7 9,mV 106 12,oP 107 (.iaddr 7 (.t 106) (.c (.int .i64 0))),oI 108 7 107,oB2 109 95 105 108,oK 7 9 109 true])))))) (nF [oO 110 .add 87 1,mV 87 110]))))
@[simp] def qed : AFn:=nG [(.tmp 6)] (nS (nF [oU 3 2 0,oU 4 3 1,oZ 6 false]) (nS (nS (nF [oA0 13 614,oW 14 13]) (nC 14 (nR [oZ 6 false]) .skip)) (nS (nS (nF [oI 15 2 3,oP 16 (.bslice 2 1 (.agg [.nil,.nil]) [(0,(.t 15))]),oA1 17 8 16,mV 18 17,gF 19 18 (nA 1 4),oG 20 18 false 1 19,gF 21 18 (.len (.t 20)),gF 22 18 (nX .gtr 21 40),oX 23 18 22,mV 24 23,oE 25 24 2,gF 26 24 (nX .gtr 25 64),oE 27 24 26,oF 28 27 2,gT 29 27 (nX .leq 28 512),
 gF 30 24 (.pick (.t 27) (.t 29) (.c (.bool false))),oX 31 24 30]) (nC 31 (nR [oZ 6 true]) .skip)) (nS (nF [oI 33 2 3,oI 34 3 4,mV 35 2,oA3 36 596 33 34 35,mV 32 36,oR 37 0 32,oR 38 1 32,oL 7,oK 7 7 37 false,mV 8 38]) (nS (nS (nF [oI 39 2 3,oA1 40 11 39,oW 41 40,mV 42 41,oG 43 42 true 3 4,oC1 44 42 597 43,gF 45 42 (nU 44),oX 46 42 45,mV 47 46,gF 48 47 (nA 0 4),oG 49 47 false 1 48,gF 50 47 (nA 0 3),oG 51 47 false 1 50,gF 52 47 (.len (.t 51)),gF 53 47 (nY .neq 49 52),oX 54 47 53,mV 55 54,gF 56 55 (nA 2 4),
 oG 57 55 false 1 56,gF 58 55 (.len (.t 57)),gF 59 55 (nX .neq 58 1),oX 60 55 59,mV 61 60,oE 62 61 2,oC1 63 61 195 62,gF 64 61 (nU 63),oX 65 61 64]) (nC 65 (nR [mV 66 8,oO 67 .eql 66 1,mV 68 67,oH 69 68 true 7 7,gT 70 68 (.build nI []),oD2 71 68 60 69 70,oY 72 68 71,mV 6 72]) .skip)) (nS (nS (nF [oQ 73 1 3,oJ 74 73,oT 75 74,oO 76 .eql 75 0]) (nC 76 (nR [mV 77 8,oO 78 .eql 77 7,mV 79 78,oH 80 79 true 7 7,gT 81 79 (.build nI []),
 oD2 82 79 60 80 81,oY 83 79 82,mV 6 83]) .skip)) (nS (nF [oL 9]) (nS (nS (nF [oQ 84 1 3,oJ 85 84,oT 86 85,oP 87 (nV 0)]) (.block 0 (.loop qc2))) (nR [mV 111 8,oO 112 .eql 111 0,mV 113 112,oH 114 113 true 7 7,oH 115 113 true 7 9,oD2 116 113 60 114 115,oY 117 113 116,mV 6 117])))))))))
def qiq : AC:=(nS (nF [oN 54 .lss 53 52]) (nS (nC 54 .skip (.exit 1)) (nS (.block 2 (nS (nF [mV 55 53,oV 56 8 51 53,oI 57 8 56,oP 10 (.new 8 (.agg [(.bool false),.nil,(.int .i64 0),(.bool false),.nil,(.int .i64 0),.nil,.nil])),mV 9 55,oK 8 10 57 false]) (nS (nF [oI 58 3 4,oQ 59 6 10,oJ 60 59,mV 61 2,oA3 62 598 58 60 61,oP 63 (.iaddr 7 (.t 62) (.c (.int .i64 0))),oI 64 7 63,oL 11,oK 7 11 64 false]) (nS (nF [mV 65 9,oO 66 .eql 65 0]) (nC 66 (nF [oI 67 7 11,oK 7 8 67 false]) (nF [oI 68 7 8,oI 69 7 11,oA2 70 94 68 69,
 oK 7 8 70 false])))))) (nF [oO 71 .add 53 1,mV 53 71]))))
@[simp] def qof : AFn:=nG [(.cell 6 true 7),(.tmp 7)] (nS (nF [oU 3 2 0,oU 4 3 1,oL 6,oP 7 (nV 0)]) (nS (.block 0 (nS (nF [oI 13 2 3,oA1 14 17 13,oW 15 14,mV 16 15,oG 17 16 true 3 4,oC1 18 16 597 17,gF 19 16 (nU 18),oX 20 16 19,mV 21 20,gF 22 21 (nA 0 4),oG 23 21 false 1 22,gF 24 21 (nA 0 3),oG 25 21 false 1 24,gF 26 21 (.len (.t 25)),gF 27 21 (nY .neq 23 26),oX 28 21 27,mV 29 28,gF 30 29 (nA 2 4),oG 31 29 false 1 30,gF 32 29 (.len (.t 31)),gF 33 29 (nX .neq 32 1),oX 34 29 33,
 mV 35 34,oE 36 35 2,gF 37 35 (nX .lss 36 8),oX 38 35 37,mV 39 38,oE 40 39 2,gF 41 39 (nX .gtr 40 512),oX 42 39 41,mV 12 42]) (nC 12 (nR [oP 43 (.build nI []),oK 7 6 43 false,oP 7 (nV 1)]) (nS (nF [oQ 45 1 3,oJ 46 45,oT 47 46,oO 48 .eql 47 0,mV 44 48]) (nC 44 (nR [oP 49 (.build nI []),oK 7 6 49 false,
 oP 7 (nV 7)]) .skip))))) (nS (nF [oL 8]) (nS (nS (nF [oQ 50 1 3,oJ 51 50,oT 52 51,oP 53 (nV 0)]) (.block 1 (.loop qiq))) (nR [oI 72 7 8,oK 7 6 72 false,oP 7 (nV 0)])))))
def qik : AC:=(nS (nF [oN 29 .lss 28 27]) (nS (nC 29 .skip (.exit 0)) (nS (.block 1 (nS (nF [mV 30 28,oV 31 6 26 28,oI 32 6 31,oP 4 (.new 6 (.agg [(.int .i64 0),(.int .i64 0),(.int .i64 0),(.int .i64 0),(.int .i64 0),(.int .i64 0)])),mV 3 30,oK 6 4 32 false]) (nS (nF [oI 33 6 4,oQ 34 0 1,oJ 35 34,mV 36 3,oN 37 .add 35 36,oA2 38 599 33 37,oW 39 38]) (nC 39 (nR [oZ 2 false]) .skip)))) (nF [oO 40 .add 28 1,mV 28 40]))))
@[simp] def qn9 : AFn:=nG [(.tmp 2)] (nS (nF [oU 1 3 0,oZ 2 false]) (nS (nS (nF [oQ 5 0 1,oJ 6 5,oO 7 .lss 6 0,mV 8 7,gF 9 8 (nA 0 1),oG 10 8 false 1 9,gF 11 8 (nX .gtr 10 8),oX 12 8 11,mV 13 12,gF 14 13 (nA 1 1),oG 15 13 false 1 14,gF 16 13 (.len (.t 15)),gF 17 13 (nX .gtr 16 200),oX 18 13 17,mV 19 18,gF 20 19 (nA 2 1),oG 21 19 false 1 20,gF 22 19 (.len (.t 21)),gF 23 19 (nX .gtr 22 200),oX 24 19 23]) (nC 24 (nR [oZ 2 false]) .skip)) (nS (nS (nF [oQ 25 1 1,
 oJ 26 25,oT 27 26,oP 28 (nV 0)]) (.block 0 (.loop qik))) (nR [oQ 41 2 1,oJ 42 41,oP 43 (.mkfn 601 [(.t 1)]),oA2 44 600 42 43,oW 45 44,mV 2 45]))))
def qme : AC:=(nS (nF [oN 40 .lss 39 38]) (nS (nC 40 .skip (.exit 0)) (nS (.block 1 (nS (nF [oV 41 1 37 39,oJ 42 41,mV 10 42]) (nF [mV 43 8,mV 44 7,mV 45 10,oV 46 7 44 45,oI 47 7 46,oP 48 (.bslice 7 1 (.agg nI) [(0,(.t 47))]),oP 49 (.append 7 88 (.t 43) (.t 48)),mV 8 49]))) (nF [oO 50 .add 39 1,mV 39 50]))))
@[simp] def qsa : AFn:=nG [(.tmp 6)] (nS (nF [oU 3 3 0,oP 6 (.mv (.c .nil))]) (nS (nF [oI 11 3 3,mV 12 1,mV 13 2,oA3 14 602 11 12 13,mV 7 14]) (nS (nS (nF [mV 15 7,oT 16 15,oQ 17 0 3,oJ 18 17,oQ 19 1 3,oJ 20 19,oT 21 20,oN 22 .add 18 21,oN 23 .lss 16 22,mV 24 23,oE 25 24 1,gF 26 24 (.len (.t 25)),gF 27 24 (nA 0 3),oG 28 24 false 1 27,gF 29 24 (nY .neq 26 28),oX 30 24 29,mV 31 30,oG 32 31 true 3 3,oC1 33 31 597 32,gF 34 31 (nU 33),oX 35 31 34]) (nC 35 (nR [oP 6 (.mv (.c .nil))]) .skip)) (nS (nF [oP 8 (.mv (.c .nil))]) (nS (nS (nF [oQ 36 2 3,
 oJ 37 36,oT 38 37,oP 39 (nV 0)]) (.block 0 (.loop qme))) (nR [mV 51 8,mV 6 51]))))))
@[simp] def qmd : AFn:=nG [(.tmp 4)] (nS (nF [oU 2 6 0,oZ 4 false]) (nS (nF [oQ 7 0 2,oJ 8 7,oA1 9 603 8,mV 5 9]) (nS (nF [oI 10 6 2,oP 6 (.new 6 (.agg [(.int .i64 0),(.int .i64 0),(.int .i64 0),(.int .i64 0),(.int .i64 0),(.int .i64 0)])),oK 6 6 10 false]) (nS (nF [oQ 11 0 6,⟨none,.store 1 (.t 11) (.c (.int .i64 0)),none,false⟩]) (nS (.block 0 (nS (nF [mV 13 5,oO 14 .lss 13 0,mV 12 14]) (nC 12 (nR [oZ 4 false]) (nS (nF [mV 16 5,oO 17 .eql 16 0,mV 15 17]) (nC 15 (nS (nS (nF [oQ 18 4 2,
 oI 19 2 18,oA1 20 604 19,oW 21 20]) (nC 21 (nR [oZ 4 false]) .skip)) (nF [oP 22 (.build [(.int .i64 0),(.int .i64 0)] []),oQ 23 4 6,oK 2 23 22 false])) .skip))))) (nS (nS (nF [oQ 24 0 2,oJ 25 24,oO 26 .eql 25 8]) (nC 26 (nS (nS (nF [oQ 27 3 2,oJ 28 27,oO 29 .lss 28 0,mV 30 29,gF 31 30 (nA 3 2),oG 32 30 false 1 31,gF 33 30 (nX .gtr 32 16),oX 34 30 33]) (nC 34 (nR [oZ 4 false]) .skip)) (nF [oQ 35 3 6,⟨none,.store 1 (.t 35) (.c (.int .i64 0)),none,false⟩])) .skip)) (nS (nS (nF [mV 36 5,
 oO 37 .gtr 36 0]) (nC 37 (nS (nS (nF [oQ 38 1 2,oJ 39 38,oO 40 .lss 39 0,mV 41 40,gF 42 41 (nA 1 2),oG 43 41 false 1 42,oE 44 41 1,gF 45 41 (nY .geq 43 44),oX 46 41 45]) (nC 46 (nR [oZ 4 false]) .skip)) (nF [oQ 47 1 6,⟨none,.store 1 (.t 47) (.c (.int .i64 0)),none,false⟩])) .skip)) (nS (nS (nF [mV 48 5,oO 49 .gtr 48 1]) (nC 49 (nS (nS (nF [oQ 50 2 2,oJ 51 50,oO 52 .lss 51 0,mV 53 52,gF 54 53 (nA 2 2),oG 55 53 false 1 54,oE 56 53 1,gF 57 53 (nY .geq 55 56),
 oX 58 53 57]) (nC 58 (nR [oZ 4 false]) .skip)) (nF [oQ 59 2 6,⟨none,.store 1 (.t 59) (.c (.int .i64 0)),none,false⟩])) .skip)) (nR [oI 60 6 6,oP 61 (.build [(.int .i64 0),(.int .i64 0),(.int .i64 0),(.int .i64 0),(.int .i64 0),(.int .i64 0)] []),oP 62 (.bin (.ints 6) .eql (.t 60) (.t 61)),mV 4 62])))))))))
@[simp] def qcj : AFn:=nG [(.tmp 4)] (nS (nF [oZ 4 false]) (nR [mV 5 0,mV 6 1,oA2 7 605 5 6,oO 8 .geq 7 0,mV 4 8]))
@[simp] def qkd : AFn:=nG [(.tmp 3)] (nS (nF [oZ 3 false]) (nR [mV 4 0,oO 5 .lss 4 0,mV 6 5,oE 7 6 0,gF 8 6 (nA 0 1),oG 9 6 false 1 8,gF 10 6 (nA 1 1),oG 11 6 false 1 10,gF 12 6 (.len (.t 11)),gF 13 6 (nY .add 9 12),gF 14 6 (nY .geq 7 13),oX 15 6 14,mV 3 15]))
def qmf : AC:=(nS (nF [oN 27 .lss 26 25]) (nS (nC 27 .skip (.exit 0)) (nS (.block 1 (nS (nF [oV 28 6 24 26,oI 29 6 28,oP 9 (.new 6 (.agg [(.int .i64 0),(.int .i64 0),(.int .i64 0),(.int .i64 0),(.int .i64 0),(.int .i64 0)])),oK 6 9 29 false]) (nS (nF [oL 10]) (nS (nS (nF [oQ 30 0 9,oJ 31 30,oA1 32 603 31]) (.block 2 (nS (nF [oO 50 .eql 32 0,mV 49 50]) (nC 49 (nF [oQ 51 4 9,oI 52 2 51,mV 53 2,oA2 54 606 52 53,oK 7 10 54 false]) (nS (nF [oO 56 .eql 32 1,mV 55 56]) (nC 55 (nT [oQ 57 0 9,
 oJ 58 57,oQ 59 3 9,oJ 60 59,mV 61 7,oQ 62 1 9,oJ 63 62,oV 64 7 61 63,oI 65 7 64,oP 66 (.build nI [(6,1,(.c (.bool true)))]),mV 67 2,oB5 68 607 58 60 65 66 67,oK 7 10 68 true]) (nT [oQ 33 0 9,oJ 34 33,oQ 35 3 9,oJ 36 35,mV 37 7,oQ 38 1 9,oJ 39 38,oV 40 7 37 39,oI 41 7 40,mV 42 7,oQ 43 2 9,oJ 44 43,oV 45 7 42 44,oI 46 7 45,mV 47 2,oB5 48 607 34 36 41 46 47,oK 7 10 48 true]))))))) (nF [mV 69 7,oI 70 7 10,oP 71 (.bslice 7 1 (.agg nI) [(0,(.t 70))]),
 oP 72 (.append 7 88 (.t 69) (.t 71)),mV 7 72]))))) (nF [oO 73 .add 26 1,mV 26 73]))))
@[simp] def qsb : AFn:=nG [(.tmp 6)] (nS (nF [oU 3 3 0,oP 6 (.mv (.c .nil))]) (nS (nS (nF [oI 11 3 3,oA1 12 597 11,oW 13 12,mV 14 13,oE 15 14 1,gF 16 14 (.len (.t 15)),gF 17 14 (nA 0 3),oG 18 14 false 1 17,gF 19 14 (nY .neq 16 18),oX 20 14 19]) (nC 20 (nR [oP 6 (.mv (.c .nil))]) .skip)) (nS (nF [mV 21 1,oA1 22 330 21,mV 7 22]) (nS (nS (nF [oQ 23 1 3,oJ 24 23,oT 25 24,oP 26 (nV 0)]) (.block 0 (.loop qmf))) (nR [mV 74 7,mV 6 74])))))
@[simp] def qij : AFn:=nG [(.tmp 2)] (nS (nF [oP 2 (nV 0)]) (nS (nS (nF [mV 3 0]) (.block 0 (nS (nF [oO 5 .eql 3 1,mV 4 5]) (nC 4 (nR [oP 2 (nV 0)]) (nS (nS (nF [oO 7 .eql 3 3,mV 6 7]) (nC 6 .skip (nS (nF [oO 8 .eql 3 4,mV 6 8]) (nC 6 .skip (nS (nF [oO 9 .eql 3 5,mV 6 9]) (nC 6 .skip (nF [oO 10 .eql 3 6,mV 6 10]))))))) (nC 6 (nR [oP 2 (nV 2)]) (nS (nS (nF [oO 12 .eql 3 7,
 mV 11 12]) (nC 11 .skip (nS (nF [oO 13 .eql 3 8,mV 11 13]) (nC 11 .skip (nS (nF [oO 14 .eql 3 9,mV 11 14]) (nC 11 .skip (nS (nF [oO 15 .eql 3 10,mV 11 15]) (nC 11 .skip (nS (nF [oO 16 .eql 3 11,mV 11 16]) (nC 11 .skip (nS (nF [oO 17 .eql 3 12,mV 11 17]) (nC 11 .skip (nF [oO 18 .eql 3 13,mV 11 18]))))))))))))) (nC 11 (nR [oP 2 (nV 1)]) .skip)))))))) (nR [oP 2 (nV (-1))])))
@[simp] def qml : AFn:=nG [(.tmp 2)] (nS (nF [oU 1 2 0,oZ 2 false]) (nS (nT [oQ 3 1 1,oJ 4 3,oO 5 .geq 4 1,mV 6 5,gT 7 6 (nA 1 1),oH 8 6 false 1 7,gT 9 6 (nX .leq 8 1073741824),oY 10 6 9,mV 11 10,gT 12 11 (nA 0 1),oH 13 11 false 1 12,gT 14 11 (nX .geq 13 (-1073741824)),oY 15 11 14,mV 16 15,gT 17 16 (nA 0 1),oH 18 16 false 1 17,gT 19 16 (nX .leq 18 1073741824),oY 20 16 19,mV 21 20,gT 22 21 (nA 0 1),oH 23 21 false 1 22,oD1 24 21 609 23,gT 25 21 (nA 1 1),
 oH 26 21 false 1 25,⟨some 27,.call (.f 609) [(.t 26)],some (21,true),true⟩,⟨some 28,.call (.f 608) [(.t 24),(.t 27)],some (21,true),true⟩,gT 29 21 (.bin .num .eql (.t 28) (.c (.int .u64 1))),oY 30 21 29,mV 2 30]) .ret))
def qci : AC:=(nS (nF [oN 9 .lss 8 7]) (nS (nC 9 .skip (.exit 0)) (nS (.block 1 (nS (nF [mV 10 8,mV 5 10]) (nS (nF [mV 11 1,mV 12 0,mV 13 5,oV 14 1 12 13,oJ 15 14,oP 16 (.call (.t 11) [(.t 15)])]) (nC 16 (nR [mV 17 5,mV 4 17]) .skip)))) (nF [oO 18 .add 8 1,mV 8 18]))))
@[simp] def qde : AFn:=nG [(.tmp 4)] (nS (nF [oP 4 (nV 0)]) (nS (nS (nF [mV 6 0,oT 7 6,oP 8 (nV 0)]) (.block 0 (.loop qci))) (nR [oP 4 (nV (-1))])))
@[simp] def qip : AFn:=nG [(.cell 4 true 7)] (nS (nF [oU 2 2 0,oL 4]) (nS (nS (nF [oI 9 2 2,oA1 10 604 9,oW 11 10]) (nC 11 (nR [oP 12 (.build nI [(6,1,(.c (.bool true)))]),oK 7 4 12 false]) .skip)) (nS (nT [oQ 14 0 2,oJ 15 14,oA1 16 210 15,oQ 17 1 2,oJ 18 17,oA1 19 210 18,mV 20 1,oA3 21 193 16 19 20,mV 13 21,oR 22 0 13,oR 23 1 13,oM 5,oK 3 5 22 true,mV 6 23]) (nS (nT [oQ 25 0 2,oJ 26 25,oA1 27 210 26,oQ 28 1 2,oJ 29 28,oA1 30 210 29,mV 31 1,
 oA3 32 194 27 30 31,mV 24 32,oR 33 0 24,oR 34 1 24,oM 7,oK 3 7 33 true,mV 8 34]) (nS (nS (nF [mV 35 6,oO 36 .neq 35 0,mV 37 36,oE 38 37 8,gF 39 37 (nX .neq 38 0),oX 40 37 39]) (nC 40 (nR [oP 41 (.build nI [(6,1,(.c (.bool true)))]),oK 7 4 41 false]) .skip)) (nR [oI 42 3 5,oI 43 3 7,oP 44 (.build nI [(0,3,(.t 42)),(3,3,(.t 43))]),oK 7 4 44 false]))))))
@[simp] def qhg : AFn:=nG [(.cell 10 true 7)] (nS (nF [oU 7 7 2,oU 8 7 3,oL 10]) (nS (nS (nF [mV 11 0]) (.block 0 (nS (nF [oO 13 .eql 11 3,mV 12 13]) (nC 12 (nR [oI 14 7 7,oI 15 7 8,mV 16 4,oA3 17 138 14 15 16,oK 7 10 17 false]) (nS (nF [oO 19 .eql 11 4,mV 18 19]) (nC 18 (nR [oI 20 7 7,oI 21 7 8,mV 22 4,oA3 23 139 20 21 22,oK 7 10 23 false]) (nS (nF [oO 25 .eql 11 5,mV 24 25]) (nC 24 (nR [oI 26 7 7,oI 27 7 8,mV 28 4,oA3 29 140 26 27 28,oK 7 10 29 false]) (nS (nF [oO 31 .eql 11 6,
 mV 30 31]) (nC 30 (nR [oI 32 7 7,oI 33 7 8,mV 34 4,oA3 35 142 32 33 34,oK 7 10 35 false]) (nS (nF [oO 37 .eql 11 7,mV 36 37]) (nC 36 (nR [oI 38 7 7,oA1 39 147 38,oK 7 10 39 false]) (nS (nF [oO 41 .eql 11 8,mV 40 41]) (nC 40 (nR [oI 42 7 7,mV 43 1,mV 44 4,oA3 45 178 42 43 44,oK 7 10 45 false]) (nS (nF [oO 47 .eql 11 9,mV 46 47]) (nC 46 (nR [oI 48 7 7,mV 49 4,oA2 50 416 48 49,oK 7 10 50 false]) (nS (nF [oO 52 .eql 11 10,mV 51 52]) (nC 51 (nR [oI 53 7 7,
 mV 54 4,oA2 55 411 53 54,oK 7 10 55 false]) (nS (nF [oO 57 .eql 11 11,mV 56 57]) (nC 56 (nR [oI 58 7 7,mV 59 4,oA2 60 470 58 59,oK 7 10 60 false]) (nS (nF [oO 62 .eql 11 12,mV 61 62]) (nC 61 (nR [oI 63 7 7,mV 64 4,oA2 65 471 63 64,oK 7 10 65 false]) (nS (nF [oO 67 .eql 11 13,mV 66 67]) (nC 66 (nR [oI 68 7 7,mV 69 4,oA2 70 176 68 69,oK 7 10 70 false]) .skip)))))))))))))))))))))))) (nR [oA0 71 107,oK 7 10 71 false])))
def qkg : AC:=(nS (nS (nF [mV 5 1,oP 6 (.bin .num .neq (.t 5) (.c (.int .u64 0)))]) (nC 6 .skip (.exit 0))) (.block 1 (nT [mV 7 1,mV 8 0,mV 9 1,oN 10 .rem 8 9,mV 0 7,mV 1 10])))
@[simp] def qqf : AFn:=nG [(.tmp 4)] (nS (nF [oP 4 (.mv (.c (.int .u64 0)))]) (nS (.block 0 (.loop qkg)) (nR [mV 11 0,mV 4 11])))
@[simp] def qoc : AFn:=nG [(.tmp 2)] (nS (nF [oP 2 (.mv (.c (.int .u64 0)))]) (nS (nS (nF [mV 3 0,oO 4 .lss 3 0]) (nC 4 (nR [mV 5 0,oP 6 (.un .neg (.t 5)),oP 7 (.conv .u64 (.t 6)),mV 2 7]) .skip)) (nR [mV 8 0,oP 9 (.conv .u64 (.t 8)),mV 2 9])))
@[simp] def qsf : AFn:=nG [(.tmp 4),(.tmp 5)] (nS (nF [oU 2 2 0,oU 3 3 1,oP 4 (.mv (.c .nil)),oP 5 (nV 0)]) (nS (.block 0 (nS (nF [oI 7 2 2,oA1 8 17 7,oW 9 8,mV 10 9,oG 11 10 true 3 3,oC1 12 10 51 11,gF 13 10 (nU 12),oX 14 10 13,mV 6 14]) (nC 6 (nR [oP 4 (.mv (.c .nil)),oP 5 (nV 1)]) (nS (nF [oI 16 2 2,oI 17 3 3,oA2 18 58 16 17,oW 19 18,mV 15 19]) (nC 15 (nR [oP 4 (.mv (.c .nil)),oP 5 (nV 2)]) .skip))))) (nR [oI 20 2 2,
 oI 21 3 3,oA2 22 612 20 21,mV 4 22,oP 5 (nV 0)])))
def qkh : AC:=(nS (nF [oN 27 .lss 26 25]) (nS (nC 27 .skip (.exit 0)) (nS (.block 1 (nS (nF [mV 28 26,oV 29 8 24 26,oI 30 8 29,oP 10 (.new 8 (.agg [(.bool false),.nil,(.int .i64 0),(.bool false),.nil,(.int .i64 0),.nil,.nil])),mV 9 28,oK 8 10 30 false]) (nS (nS (nF [oI 31 3 3,oQ 32 3 10,oI 33 3 32,oA2 34 46 31 33,oW 35 34]) (nC 35 (.exit 1) .skip)) (nS (nS (nF [oQ 36 0 10,oI 37 3 36,oI 38 3 3,oA2 39 46 37 38]) (nC 39 (nS (nT [oQ 40 1 8,oJ 41 40,mV 42 9,oQ 43 1 8,oP 44 (.sload false 1 43),mV 45 9,oI 46 3 3,
 oQ 47 6 10,oJ 48 47,oA1 49 330 48,oV 50 8 41 42,oQ 51 3 50,⟨none,.storeN 3 (.t 51) (.t 46) [43],none,true⟩,oV 52 8 44 45,oQ 53 7 52,oK 1 53 49 true]) (nF [mV 54 9,oO 55 .add 54 1,mV 9 55])) .skip)) (nS (nF [oQ 56 1 8,oJ 57 56,mV 58 9,oP 59 (.slice 8 (.t 57) none (some (.t 58)) none),oQ 60 1 8,oK 1 60 59 false]) (.exit 0)))))) (nF [oO 61 .add 26 1,mV 26 61]))))
@[simp] def qqj : AFn:=nG [(.cell 4 true 2),(.tmp 5)] (nS (nF [oU 2 2 0,oU 3 3 1,oP 4 (.new 2 (.agg [.nil,.nil])),oP 5 (nV 0)]) (nS (nS (nF [oI 12 2 2,oI 13 3 3,oA2 14 610 12 13,mV 11 14,oR 15 0 11,oR 16 1 11,mV 6 15,mV 7 16]) (nS (nF [mV 17 7,oO 18 .neq 17 0]) (nC 18 (nR [oP 19 (.build [.nil,.nil] []),mV 20 7,oK 2 4 19 false,mV 5 20]) .skip))) (nS (nF [oI 21 2 2,oA1 22 613 21,oP 8 (.new 2 (.agg [.nil,.nil])),oK 2 8 22 false]) (nS (nS (nF [oQ 23 1 8,oJ 24 23,oT 25 24,oP 26 (nV 0)]) (.block 0 (.loop qkh))) (nR [oI 62 2 8,
 oK 2 4 62 false,oP 5 (nV 0)])))))
@[simp] def qse : AFn:=nG [(.tmp 4)] (nS (nF [oU 2 2 0,oU 3 3 1,oP 4 (.mv (.c .nil))]) (nS (nS (nT [oI 7 3 3,oI 8 2 2,oA1 9 64 8,oB2 10 52 7 9,oO 11 .eql 10 0]) (nC 11 (nR [oQ 12 0 2,oJ 13 12,oA1 14 330 13,mV 4 14]) .skip)) (nS (nF [oQ 15 1 2,oJ 16 15,oP 17 (.mkfn 88 [(.t 3)]),oA2 18 32 16 17,mV 5 18]) (nS (nS (nF [oQ 19 1 2,oJ 20 19,mV 21 5,oV 22 8 20 21,oI 23 8 22,oP 6 (.new 8 (.agg [(.bool false),.nil,(.int .i64 0),(.bool false),.nil,(.int .i64 0),.nil,.nil])),oK 8 6 23 false]) (nS (nF [oI 24 3 3,
 oQ 25 3 6,oI 26 3 25,oA2 27 46 24 26]) (nC 27 (nR [oQ 28 6 6,oJ 29 28,oA1 30 330 29,mV 4 30]) .skip))) (nR [oQ 31 1 2,oJ 32 31,mV 33 5,oV 34 8 32 33,oQ 35 7 34,oJ 36 35,oA1 37 330 36,mV 4 37])))))
def qd3 : AC:=(nS (nF [oN 14 .lss 13 12]) (nS (nC 14 .skip (.exit 0)) (nS (.block 1 (nS (nF [oV 15 8 11 13,oI 16 8 15,oP 5 (.new 8 (.agg [(.bool false),.nil,(.int .i64 0),(.bool false),.nil,(.int .i64 0),.nil,.nil])),oK 8 5 16 false]) (nS (nT [oQ 17 6 5,oJ 18 17,oA1 19 330 18,oQ 20 7 5,oJ 21 20,oB1 22 330 21,oQ 23 6 5,oK 1 23 19 true,oQ 24 7 5,oK 1 24 22 true]) (nF [oQ 25 1 3,oJ 26 25,oI 27 8 5,oP 28 (.bslice 8 1 (.agg [(.bool false),.nil,(.int .i64 0),(.bool false),.nil,(.int .i64 0),.nil,.nil]) [(0,(.t 27))]),oP 29 (.append 8 128 (.t 26) (.t 28)),
 oQ 30 1 3,oK 1 30 29 false])))) (nF [oO 31 .add 13 1,mV 13 31]))))
@[simp] def qgg : AFn:=⟨[(.cell 2 true 2)],(nS (nF [oU 1 2 0,oP 2 (.new 2 (.agg [.nil,.nil]))]) (nS (nF [oQ 6 0 1,oJ 7 6,oA1 8 330 7,oP 9 (.build [.nil,.nil] [(0,1,(.t 8))]),oP 3 (.new 2 (.agg [.nil,.nil])),oK 2 3 9 false]) (nS (nS (nF [oQ 10 1 1,oJ 11 10,oT 12 11,oP 13 (nV 0)]) (.block 0 (.loop qd3))) (nR [oI 32 2 3,oK 2 2 32 false])))),true,false⟩
@[simp] def qhc : AFn:=nG [(.tmp 0)] (nS (nF [oZ 0 false]) (nS (nF [oA0 8 38,oP 1 (.new 2 (.agg [.nil,.nil])),oK 2 1 8 false]) (nS (nT [oI 10 2 1,oP 11 (.call (.f 39) [(.c (.int .i64 1))]),oB2 12 610 10 11,mV 9 12,oR 13 0 9,oR 14 1 9,mV 2 13,mV 3 14]) (nS (nT [oI 16 2 1,oP 17 (.call (.f 39) [(.c (.int .i64 2))]),oB2 18 610 16 17,mV 15 18,oR 19 0 15,oR 20 1 15,mV 4 19,mV 5 20]) (nS (nT [oI 22 2 1,oP 23 (.call (.f 39) [(.c (.int .i64 2))]),oA2 24 611 22 23,mV 21 24,oR 25 0 21,oR 26 1 21,oP 6 (.new 2 (.agg [.nil,.nil])),oK 2 6 25 true,mV 7 26]) (nS (nT [mV 27 3,
 oO 28 .eql 27 0,mV 29 28,oF 30 29 5,gT 31 29 (nX .eql 30 0),oY 32 29 31,mV 33 32,oF 34 33 7,gT 35 33 (nX .eql 34 0),oY 36 33 35,mV 37 36,oF 38 37 2,⟨some 39,.call (.f 40) [(.c (.int .i64 1)),(.c (.int .i64 1))],some (37,true),true⟩,⟨some 40,.call (.f 20) [(.t 38),(.t 39)],some (37,true),true⟩,oY 41 37 40,mV 42 41,oF 43 42 4,⟨some 44,.call (.f 40) [(.c (.int .i64 1)),(.c (.int .i64 3))],some (42,true),true⟩,⟨some 45,.call (.f 20) [(.t 43),(.t 44)],some (42,true),true⟩,oY 46 42 45,mV 47 46,gT 48 47 (nA 1 6),oH 49 47 false 1 48,gT 50 47 (.len (.t 49)),
 gT 51 47 (nX .eql 50 2),oY 52 47 51,mV 53 52,gT 54 53 (nA 1 6),oH 55 53 false 1 54,gT 56 53 (.iaddr 8 (.t 55) (.c (.int .i64 1))),gT 57 53 (nA 7 56),oH 58 53 false 1 57,gT 59 53 (.call (.f 40) [(.c (.int .i64 1)),(.c (.int .i64 3))]),⟨some 60,.call (.f 20) [(.t 58),(.t 59)],some (53,true),true⟩,oY 61 53 60,mV 62 61,oH 63 62 true 2 1,⟨some 64,.call (.f 17) [(.t 63)],some (62,true),true⟩,oY 65 62 64,mV 0 65]) .ret))))))
abbrev qv0 : Nat:=8
abbrev qxy : Nat:=9
abbrev qvo : Nat:=11
abbrev qvy : Nat:=12
abbrev q3b : Nat:=17
abbrev qq9 : Nat:=18
abbrev qvp : Nat:=20
abbrev qvz : Nat:=23
abbrev qte : Nat:=27
abbrev qxx : Nat:=29
abbrev q0y : Nat:=31
abbrev qjp : Nat:=32
abbrev qr3 : Nat:=38
abbrev q5w : Nat:=39
abbrev q3e : Nat:=40
abbrev qjq : Nat:=41
abbrev qr2 : Nat:=42
abbrev qgq : Nat:=43
abbrev qp2 : Nat:=44
abbrev q5t : Nat:=46
abbrev qnk : Nat:=48
abbrev qka : Nat:=49
abbrev q5y : Nat:=50
abbrev qx1 : Nat:=51
abbrev q3i : Nat:=52
abbrev q3m : Nat:=53
abbrev qxw : Nat:=54
abbrev q0z : Nat:=55
abbrev q00 : Nat:=56
abbrev q01 : Nat:=57
abbrev q0o : Nat:=58
abbrev qvu : Nat:=60
abbrev q5u : Nat:=61
abbrev qr1 : Nat:=63
abbrev q3a : Nat:=64
abbrev qtf : Nat:=65
abbrev qgl : Nat:=67
abbrev qtg : Nat:=68
abbrev qvt : Nat:=70
abbrev q02 : Nat:=74
abbrev ql7 : Nat:=75
abbrev q1b : Nat:=76
abbrev qs9 : Nat:=77
abbrev qto : Nat:=78
abbrev q04 : Nat:=79
abbrev qtp : Nat:=80
abbrev qadd : Nat:=81
abbrev qid : Nat:=82
abbrev qr0 : Nat:=83
abbrev qxv : Nat:=84
abbrev q3d : Nat:=85
abbrev qxu : Nat:=86
abbrev qvx : Nat:=87
abbrev qvd : Nat:=88
abbrev qic : Nat:=89
abbrev qvm : Nat:=90
abbrev qxq : Nat:=91
abbrev qxr : Nat:=92
abbrev qvq : Nat:=93
abbrev qvn : Nat:=94
abbrev qxt : Nat:=95
abbrev qq8 : Nat:=96
abbrev q03 : Nat:=97
abbrev q3g : Nat:=98
abbrev qq7 : Nat:=99
abbrev qtn : Nat:=100
abbrev qek : Nat:=101
abbrev qvv : Nat:=102
abbrev qvw : Nat:=103
abbrev qvg : Nat:=104
abbrev qvi : Nat:=105
abbrev qs6 : Nat:=106
abbrev qs8 : Nat:=107
abbrev qvr : Nat:=108
abbrev qvs : Nat:=109
abbrev qps : Nat:=110
abbrev qpr : Nat:=111
abbrev qq6 : Nat:=112
abbrev qll : Nat:=113
abbrev qxg : Nat:=114
abbrev qj9 : Nat:=115
abbrev q0r : Nat:=116
abbrev qgp : Nat:=117
abbrev qs2 : Nat:=118
abbrev qpf : Nat:=119
abbrev qjo : Nat:=120
abbrev qxo : Nat:=138
abbrev qxi : Nat:=139
abbrev qxk : Nat:=140
abbrev qrz : Nat:=141
abbrev qxn : Nat:=142
abbrev qxj : Nat:=147
abbrev qtb : Nat:=149
abbrev qtd : Nat:=152
abbrev qxp : Nat:=156
abbrev qta : Nat:=158
abbrev qs7 : Nat:=160
abbrev qxm : Nat:=164
abbrev qxl : Nat:=165
abbrev qvl : Nat:=173
abbrev qvk : Nat:=176
abbrev qtc : Nat:=178
abbrev qpg : Nat:=186
abbrev qvb : Nat:=187
abbrev q0m : Nat:=188
abbrev qvh : Nat:=189
abbrev qvj : Nat:=190
abbrev qie : Nat:=191
abbrev ql8 : Nat:=192
abbrev qny : Nat:=193
abbrev qq5 : Nat:=194
abbrev qxs : Nat:=195
abbrev q3h : Nat:=198
abbrev qsp : Nat:=199
abbrev qy5 : Nat:=200
abbrev qx2 : Nat:=204
abbrev q3j : Nat:=205
abbrev qs1 : Nat:=207
abbrev qxd : Nat:=208
abbrev qsq : Nat:=210
abbrev qpt : Nat:=211
abbrev q5r : Nat:=216
abbrev q5p : Nat:=217
abbrev q5q : Nat:=218
abbrev qdo : Nat:=221
abbrev q0k : Nat:=222
abbrev qr5 : Nat:=223
abbrev qtq : Nat:=224
abbrev qra : Nat:=225
abbrev q28 : Nat:=230
abbrev qs5 : Nat:=234
abbrev q0l : Nat:=235
abbrev qu8 : Nat:=236
abbrev qxc : Nat:=237
abbrev q0w : Nat:=238
abbrev q06 : Nat:=239
abbrev qs4 : Nat:=240
abbrev q5o : Nat:=241
abbrev q9v : Nat:=243
abbrev qtm : Nat:=244
abbrev q3f : Nat:=245
abbrev q0v : Nat:=246
abbrev qxh : Nat:=253
abbrev qva : Nat:=254
abbrev qu9 : Nat:=255
abbrev q5n : Nat:=256
abbrev q0x : Nat:=257
abbrev q0u : Nat:=258
abbrev q0s : Nat:=259
abbrev qs3 : Nat:=260
abbrev qif : Nat:=261
abbrev q0q : Nat:=262
abbrev q0t : Nat:=264
abbrev q05 : Nat:=265
abbrev q0p : Nat:=266
abbrev qve : Nat:=267
abbrev qjr : Nat:=268
abbrev qvf : Nat:=269
abbrev qxf : Nat:=270
abbrev qry : Nat:=271
abbrev qrw : Nat:=272
abbrev qrx : Nat:=273
abbrev qnz : Nat:=274
abbrev qe3 : Nat:=330
abbrev qxz : Nat:=411
abbrev qx0 : Nat:=416
abbrev qv3 : Nat:=423
abbrev qv1 : Nat:=429
abbrev qv2 : Nat:=430
abbrev qpi : Nat:=431
abbrev qp3 : Nat:=437
abbrev qtj : Nat:=438
abbrev qtk : Nat:=442
abbrev qn1 : Nat:=443
abbrev qn3 : Nat:=444
abbrev qti : Nat:=445
abbrev qn4 : Nat:=446
abbrev qn0 : Nat:=447
abbrev qlm : Nat:=448
abbrev ql9 : Nat:=449
abbrev qr4 : Nat:=450
abbrev qn2 : Nat:=451
abbrev q3k : Nat:=470
abbrev q3l : Nat:=471
abbrev qts : Nat:=480
abbrev q08 : Nat:=481
abbrev q5x : Nat:=482
abbrev q1a : Nat:=486
abbrev q09 : Nat:=493
abbrev qrb : Nat:=494
abbrev qpk : Nat:=495
abbrev qtt : Nat:=496
abbrev q07 : Nat:=499
abbrev qx4 : Nat:=500
abbrev qx5 : Nat:=501
abbrev qv5 : Nat:=503
abbrev qx3 : Nat:=504
abbrev qhr : Nat:=506
abbrev qr6 : Nat:=507
abbrev qfc : Nat:=508
abbrev qtr : Nat:=509
abbrev qv4 : Nat:=510
abbrev qkb : Nat:=511
abbrev qpj : Nat:=512
abbrev qx6 : Nat:=513
abbrev qp4 : Nat:=514
abbrev qph : Nat:=595
abbrev q3c : Nat:=596
abbrev q27 : Nat:=597
abbrev q9t : Nat:=598
abbrev q0j : Nat:=599
abbrev qj8 : Nat:=600
abbrev qxb : Nat:=601
abbrev q9u : Nat:=602
abbrev qu7 : Nat:=603
abbrev q0n : Nat:=604
abbrev qnl : Nat:=605
abbrev qvc : Nat:=606
abbrev qtl : Nat:=607
abbrev q5s : Nat:=608
abbrev q29 : Nat:=609
abbrev q9x : Nat:=610
abbrev q5v : Nat:=611
abbrev q9w : Nat:=612
abbrev qxe : Nat:=613
abbrev qth : Nat:=614
def fnList : List (Nat × AFn):=
 [(8,qjf),
  (9,qk4),
  (11,qi3),
  (12,qjd),
  (17,qoe),
  (18,qm1),
  (20,qi4),
  (23,qje),
  (27,qg7),
  (29,qk3),
  (31,qmw),
  (32,qb8),
  (38,qf8),
  (39,qqk),
  (40,qoh),
  (41,qca),
  (42,qf7),
  (43,qbq),
  (44,qex),
  (46,qqg),
  (48,qg9),
  (49,qk1),
  (50,qqn),
  (51,qk7),
  (52,qom),
  (53,qoq),
  (54,qk2),
  (55,qmx),
  (56,qmy),
  (57,qmz),
  (58,qmm),
  (60,qi9),
  (61,qqh),
  (63,qf5),
  (64,qod),
  (65,qha),
  (67,qbk),
  (68,qhb),
  (70,qi8),
  (74,qm0),
  (75,qcx),
  (76,qna),
  (77,qg2),
  (78,qhj),
  (79,qm3),
  (80,qhk),
  (81,qwm),
  (82,qb3),
  (83,qf3),
  (84,qk0),
  (85,qog),
  (86,qkz),
  (87,qjc),
  (88,qqi),
  (89,qb2),
  (90,qi1),
  (91,qku),
  (92,qkv),
  (93,qi5),
  (94,qi2),
  (95,qkx),
  (96,qfm),
  (97,qm2),
  (98,qoj),
  (99,qhx),
  (100,qhi),
  (101,qky),
  (102,qja),
  (103,qjb),
  (104,qiv),
  (105,qix),
  (106,qgz),
  (107,qg1),
  (108,qi6),
  (109,qi7),
  (110,qgi),
  (111,qem),
  (112,qmt),
  (113,qd6),
  (114,qki),
  (115,qkj),
  (116,qhw),
  (117,qbp),
  (118,qgv),
  (119,qeb),
  (120,qb7),
  (138,qks),
  (139,qkm),
  (140,qko),
  (141,qf2),
  (142,qkr),
  (147,qkn),
  (149,qg4),
  (152,qg6),
  (156,qkt),
  (158,qg3),
  (160,qg0),
  (164,qkq),
  (165,qkp),
  (173,qi0),
  (176,qiz),
  (178,qg5),
  (186,qec),
  (187,qio),
  (188,qmk),
  (189,qiw),
  (190,qiy),
  (191,qim),
  (192,qmi),
  (193,qin),
  (194,qmj),
  (195,qkw),
  (198,qok),
  (199,qob),
  (200,qsd),
  (204,qk8),
  (205,qon),
  (207,qgs),
  (208,qkf),
  (210,qol),
  (211,qkl),
  (216,c_round_add),
  (217,qqd),
  (218,qqe),
  (221,qdq),
  (222,qmg),
  (223,qga),
  (224,qhl),
  (225,qfp),
  (230,qoa),
  (234,qgy),
  (235,qmh),
  (236,c_round_sum),
  (237,qke),
  (238,qmu),
  (239,qm5),
  (240,qgx),
  (241,qqc),
  (243,qsc),
  (244,qhh),
  (245,qoi),
  (246,qms),
  (253,qkk),
  (254,c_round_cut),
  (255,qil),
  (256,qqb),
  (257,qmv),
  (258,qmr),
  (259,qmp),
  (260,qgw),
  (261,qb4),
  (262,qmo),
  (264,qmq),
  (265,qm4),
  (266,qmn),
  (267,qir),
  (268,qcb),
  (269,qis),
  (270,qgh),
  (271,qf1),
  (272,qfz),
  (273,qf0),
  (274,qiu),
  (330,qbm),
  (411,qk5),
  (416,qk6),
  (423,qji),
  (429,qjg),
  (430,qjh),
  (431,qee),
  (437,qey),
  (438,qhe),
  (442,qhf),
  (443,qds),
  (444,qdu),
  (445,qhd),
  (446,qdv),
  (447,qdr),
  (448,qcu),
  (449,qc4),
  (450,qf9),
  (451,qdt),
  (470,qoo),
  (471,qop),
  (480,qhn),
  (481,qm7),
  (482,qql),
  (486,qm9),
  (493,qm8),
  (494,qfs),
  (495,qeh),
  (496,qho),
  (499,qm6),
  (500,qlb),
  (501,qlc),
  (503,qqm),
  (504,qla),
  (506,qef),
  (507,qgb),
  (508,qfq),
  (509,qhm),
  (510,qjk),
  (511,qk9),
  (512,qeg),
  (513,qld),
  (514,qez),
  (595,qed),
  (596,qof),
  (597,qn9),
  (598,qsa),
  (599,qmd),
  (600,qcj),
  (601,qkd),
  (602,qsb),
  (603,qij),
  (604,qml),
  (605,qde),
  (606,qip),
  (607,qhg),
  (608,qqf),
  (609,qoc),
  (610,qsf),
  (611,qqj),
  (612,qse),
  (613,qgg),
  (614,qhc)]
section
variable {S : AProg}
def WC (S:AProg)(n0:Nat)(c:AC)(E:Env)(H:Heap)(Q:AX->Env->Heap->Prop):Prop:=
 ∃x E1 H1,Ev S (.code n0 c E H) (.cd x E1 H1)/\Q x E1 H1
def WO (S:AProg)(n0:Nat)(d:Bool)(l:List AOper)(E:Env)(H:Heap)(Q:Env->Heap->Prop):Prop:=
 ∃E1 H1,Ev S (.ops n0 d l E H) (.cd .normal E1 H1)/\Q E1 H1
def CT (S:AProg)(g:Nat)(args:List V)(H:Heap)(Q:V->Heap->Prop):Prop:=
 ∃v H1,Ev S (.call g args H) (.ret v H1)/\Q v H1
def CQ (S:AProg)(g:Nat)(args:List V)(v:V):Prop:=∀H,Ev S (.call g args H) (.ret v H)
variable {n0 : Nat} {E : Env} {H : Heap} {Q : AX → Env → Heap → Prop} {R : Env → Heap → Prop} {d : Bool}
theorem WC.mono {c:AC}{Q':AX->Env->Heap->Prop}(h:WC S n0 c E H Q)(hq:∀x E H,Q x E H->Q' x E H):WC S n0 c E H Q':=
 let ⟨x,E1,H1,e,q⟩:=h;⟨x,E1,H1,e,hq _ _ _ q⟩
theorem WO.mono {l:List AOper}{R':Env->Heap->Prop}(h:WO S n0 d l E H R)(hq:∀E H,R E H->R' E H):WO S n0 d l E H R':=
 let ⟨E1,H1,e,q⟩:=h;⟨E1,H1,e,hq _ _ q⟩
theorem CT.mono {g:Nat}{args:List V}{Q Q':V->Heap->Prop}(h:CT S g args H Q)(hq:∀v H,Q v H->Q' v H):CT S g args H Q':=
 let ⟨v,H1,e,q⟩:=h;⟨v,H1,e,hq _ _ q⟩
theorem qall (h:Q .normal E H):WC S n0 .skip E H Q:=⟨_,_,_,.skip,h⟩
theorem qaln {id:Nat}(h:Q (.exit id) E H):WC S n0 (.exit id) E H Q:=⟨_,_,_,.exit,h⟩
theorem qaou (h:Q .ret E H):WC S n0 .ret E H Q:=⟨_,_,_,.ret,h⟩
def AX.thn (K:Env->Heap->Prop)(Q:AX->Env->Heap->Prop):AX->Env->Heap->Prop
 | .normal,E,H=>K E H
 |x,E,H=>Q x E H
theorem qfu {a b:AC}(h:WC S n0 a E H (AX.thn (fun E H=>WC S n0 b E H Q) Q)):WC S n0 (.seq a b) E H Q:=by
 obtain⟨x,E1,H1,e,q⟩:=h;cases x with
 |normal=>obtain⟨y,E2,H2,e2,q2⟩:=q;exact⟨y,E2,H2,.seqN e e2,q2⟩
 |exit id=>exact⟨_,_,_,.seqX e (by simp),q⟩
 |ret=>exact⟨_,_,_,.seqX e (by simp),q⟩
theorem qae6 {c:X}{a b:AC}{t:Bool}(hc:getX E c=.bool t)(h1:t=true->WC S n0 a E H Q)(h2:t=false->WC S n0 b E H Q):WC S n0 (.cond c a b) E H Q:=by
 cases t with
 |true=>obtain⟨x,E1,H1,e,q⟩:=h1 rfl;exact⟨x,E1,H1,.cond hc (by simpa using e),q⟩
 |false=>obtain⟨x,E1,H1,e,q⟩:=h2 rfl;exact⟨x,E1,H1,.cond hc (by simpa using e),q⟩
theorem qalk {c:X}{a b:AC}(hc:getX E c=.bool true)(h:WC S n0 a E H Q):WC S n0 (.cond c a b) E H Q:=qae6 hc (fun _=>h) (by simp)
theorem qahw {c:X}{a b:AC}(hc:getX E c=.bool false)(h:WC S n0 b E H Q):WC S n0 (.cond c a b) E H Q:=qae6 hc (by simp) (fun _=>h)
theorem qahx {id:Nat}{c:AC}(h:WC S n0 c E H (fun x E H=>Q (x.outOf id) E H)):WC S n0 (.block id c) E H Q:=by
 obtain⟨x,E1,H1,e,q⟩:=h;exact⟨_,_,_,.block e,q⟩
theorem qahv {c:AC}(h:WC S n0 c E H Q):WC S n0 (.scope c) E H Q:=by
 obtain⟨x,E1,H1,e,q⟩:=h;exact⟨_,_,_,.scope e,q⟩
theorem qae5 {l:List AOper}(h:WO S n0 d l E H (fun E H=>Q .normal E H)):WC S n0 (.region d l) E H Q:=by
 obtain⟨E1,H1,e,q⟩:=h;exact⟨_,_,_,.region e,q⟩
theorem qalm {c:AC}(I:Nat->Env->Heap->Prop)(k:Nat)(h0:I k E H)
 (round:∀k E H,I k E H->WC S n0 c E H (AX.thn (fun E1 H1=>∃j,j<k/\I j E1 H1) Q)):WC S n0 (.loop c) E H Q:=by
 induction k using Nat.strongRecOn generalizing E H with
 |_ k ih=>
  obtain⟨x,E1,H1,e,q⟩:=round k E H h0;cases x with
  |normal=>
   obtain⟨j,hj,hI⟩:=q;obtain⟨y,E2,H2,e2,q2⟩:=ih j hj hI;exact⟨y,E2,H2,.loopN e e2,q2⟩
  |exit id=>exact⟨_,_,_,.loopX e (by simp),q⟩
  |ret=>exact⟨_,_,_,.loopX e (by simp),q⟩
theorem qaoo (h:R E H):WO S n0 d [] E H R:=⟨_,_,.opNil,h⟩
def qae1 (S:AProg)(n0:Nat)(d:Bool)(dst:Option Nat)(x:X)(xs:List X)(gu:Option (Nat × Bool))(sy:Bool)(l:List AOper)(E:Env)(H:Heap)(R:Env->Heap->Prop):Prop:=
 WO S n0 d (⟨dst,.call x xs,gu,sy⟩ :: l) E H R
def stepP (S:AProg)(n0:Nat)(d:Bool)(dst:Option Nat)(op:AOp)(gu:Option (Nat × Bool))(sy:Bool)(l:List AOper)(E:Env)(H:Heap)(R:Env->Heap->Prop):Prop:=
 match gd ⟨dst,op,gu,sy⟩ E with
 |some false=>WO S n0 d l (put E dst .undef) H R
 |some true=>
  match op with
  | .call x xs=>qae1 S n0 d dst x xs none sy l E H R
  |op=>
   match stp n0 op E H with
   |some (v,H1)=>((d&&!sy)=true->H <+: H1)/\WO S n0 d l (put E dst v) H1 R
   |none=>False
 |none=>False
theorem qalf {dst:Option Nat}{op:AOp}{gu:Option (Nat × Bool)}{sy:Bool}{l:List AOper}(h:stepP S n0 d dst op gu sy l E H R):WO S n0 d (⟨dst,op,gu,sy⟩ :: l) E H R:=by
 unfold stepP at h;split at h
 ·rename_i hg;obtain⟨E1,H1,e,q⟩:=h;exact⟨_,_,.opSkip hg e,q⟩
 ·rename_i hg;split at h
  ·obtain⟨E1,H1,e,q⟩:=h;refine⟨E1,H1,?_,q⟩;cases e with
   |opSkip hg' _=>simp[gd]at hg'
   |opDo _ hs _ _=>cases hs
   |opCall _ ho hx hp e1 hpre e2=>exact .opCall hg ho hx hp e1 hpre e2
  ·split at h
   ·rename_i v H1 hs;obtain⟨hp,E1,H2,e,q⟩:=h;exact⟨_,_,.opDo hg hs (fun hd hsy=>hp (by simp[hd];simpa using hsy)) e,q⟩
   ·exact h.elim
 ·exact h.elim
theorem qaop {dst:Option Nat}{op:AOp}{gu:Option (Nat × Bool)}{sy:Bool}{l:List AOper}:WO S n0 d (⟨dst,op,gu,sy⟩ :: l) E H R↔stepP S n0 d dst op gu sy l E H R:=by
 refine⟨fun h=>?_,qalf⟩;obtain⟨E1,H1,e,q⟩:=h;unfold stepP;cases e with
 |opSkip hg e1=>rw[hg];exact⟨_,_,e1,q⟩
 |opDo hg hs hp e1=>
  rw[hg];cases op<;>first
   | (cases hs;done)
   | (simp only[]at hs ⊢;rw[hs];exact⟨fun h=>by simp at h;exact hp h.1 h.2,_,_,e1,q⟩)
 |opCall hg ho hx hp e1 hpre e2=>
  simp only[]at ho;subst ho;rw[hg];exact⟨_,_,.opCall rfl rfl hx hp e1 hpre e2,q⟩
theorem qaae : WO S n0 d [] E H R↔R E H:=by
 refine⟨fun h=>?_,qaoo⟩;obtain⟨E1,H1,e,q⟩:=h;cases e;exact q
theorem qw0 {dst:Option Nat}{sy:Bool}{l:List AOper}{x:X}{args caps vs:List V}{xs:List X}{g:Nat}{H1:Heap}(hx:getX E x=.fn g caps)
 (ha:xs.map (getX E)++caps=args) (hp:prep S g H args=some (vs,H1))
 (h:CT S g vs H1 (fun v H2=>((d&&!sy)=true->H <+: H2)/\WO S n0 d l (put E dst v) H2 R)):qae1 S n0 d dst x xs none sy l E H R:=by
 obtain⟨v,H2,e,hpre,E1,H3,e1,q⟩:=h;subst ha;exact⟨_,_,.opCall rfl rfl hx hp e (fun hd hsy=>hpre (by simp[hd];simpa using hsy)) e1,q⟩
theorem CQ.ct {g:Nat}{args:List V}{v:V}{Q:V->Heap->Prop}(h:CQ S g args v)(hq:Q v H):CT S g args H Q:=⟨_,_,h H,hq⟩
theorem CQ_of {g:Nat}{f:AFn}{args:List V}{v:V}(hf:S.fn g=some f)
 (h:∀H,WC S H.length f.body (E0 args) H (fun x E1 H1=>(x=.normal\/x=.ret)/\∃v0,resV E1 H1 f.results=some v0/\fin f.own H.length H1 v0=some (v,H))):CQ S g args v:=by
 intro H;obtain⟨x,E1,H1,e,hx,v0,hr,hfin⟩:=h H;exact .call hf e hx hr hfin
theorem CT_of {g:Nat}{f:AFn}{args:List V}{Q:V->Heap->Prop}(hf:S.fn g=some f)
 (h:WC S H.length f.body (E0 args) H (fun x E1 H1=>(x=.normal\/x=.ret)/\∃v0 v H2,resV E1 H1 f.results=some v0/\fin f.own H.length H1 v0=some (v,H2)/\Q v H2)):CT S g args H Q:=by
 obtain⟨x,E1,H1,e,hx,v0,v,H2,hr,hfin,hq⟩:=h;exact⟨_,_,.call hf e hx hr hfin,hq⟩
theorem qapa {g:Nat}{pre post:List V}{v:V}(h1:CQ S g (pre++.nil :: post) v)(h2:CQ S g (pre++.emp :: post) v):CQ S g (pre++.sl [] :: post) v:=fun H=>.emp (h1 H) (h2 H)
end
theorem qaas (E:Env)(d:Nat)(v:V)(i:Nat):upd E d v i=if i=d then v else E i:=rfl
theorem wrap_i64 {n:Int}(h1:-9223372036854775808<=n)(h2:n<9223372036854775808):IntKind.wrap .i64 n=n:=by
 simp[IntKind.wrap,IntKind.bits,IntKind.signed];split<;>omega
theorem qafn {n:Int}(h1:0<=n)(h2:n<4294967296):IntKind.wrap .u32 n=n:=by
 simp only[IntKind.wrap,IntKind.bits,IntKind.signed];simp;omega
theorem qbe {n:Int}(h1:0<=n)(h2:n<18446744073709551616):IntKind.wrap .u64 n=n:=by
 simp only[IntKind.wrap,IntKind.bits,IntKind.signed];simp;omega
end Go.Abs
namespace Go.Abs
def prog : AProg:=⟨look fnList,fun _ _=>none⟩
def qby (z bytes:Nat)(x y:V)(H:Heap):Option (V × Heap):=
 (elems H y).bind fun ys=>
  if qe2 z ys=true then
   match x with
   | .nil=>
    if ys=[]then some (.nil,H)
    else if qbd ys.length bytes=true then some (.ref H.length z 0 ys.length,H++[some ⟨z,ys,true,true⟩])else none
   | .ref b z' off len=>
    match H[b]? with
    |some (some k)=>
     if k.arr=true/\k.wr=true/\k.z=z/\z'=z/\off+len<=k.el.length/\qbd (len+ys.length) bytes=true then
      if ys=[]then some (.ref b z' off len,H)
      else some (.ref H.length z 0 (len+ys.length),H.set b none++[some ⟨z,(k.el.drop off).take len++ys,true,true⟩])
     else none
    |_=>none
   |_=>none
  else none
theorem q9g {n0 z bytes:Nat}{x y:X}{E:Env}{H:Heap}:stp n0 (.append z bytes x y) E H=qby z bytes (getX E x) (getX E y) H:=rfl
theorem qamh {n0:Nat}{E:Env}{H:Heap}{x:X}:stp n0 (.mv x) E H=(some (getX E x,H)):=rfl
theorem qafz {n0:Nat}{E:Env}{H:Heap}{c a b:X}:stp n0 (.pick c a b) E H =
 match getX E c with
 | .bool t=>some (if t then getX E a else getX E b,H)
 |_=>none:=rfl
theorem qajh {n0:Nat}{E:Env}{H:Heap}{z:Nat}{x:X}:stp n0 (.box z x) E H =
 if(getX E x).cells.length=z/\(getX E x).isTup=false then some (.ptr H.length 0 0,H++[some ⟨z,[getX E x],false,true⟩])else none:=rfl
theorem qajd {n0:Nat}{E:Env}{H:Heap}{z:Nat}{v:V}:stp n0 (.new z v) E H=(if v.cells.length=z/\v.pure=true then some (.ptr H.length 0 0,H++[some ⟨z,[v],false,true⟩])else none):=rfl
theorem qaba {n0:Nat}{E:Env}{H:Heap}{zero:List V}{parts:List (Nat × Nat × X)}:stp n0 (.build zero parts) E H =
 if zero.all V.cellPure=true then(fillC zero (parts.map fun p=>(p.1,p.2.1,getX E p.2.2))).map fun cs=>(.agg cs,H)else none:=rfl
theorem q9f {n0:Nat}{E:Env}{H:Heap}{z len:Nat}{zero:V}{parts:List (Nat × X)}:stp n0 (.bslice z len zero parts) E H =
 if zero.cells.length=z/\zero.pure=true then
  (qcp H (parts.map fun p=>getX E p.2)).bind fun(vs,H1)=>
   (fillE z (List.replicate len zero) ((parts.map (·.1)).zip vs)).map fun el=>(.ref H1.length z 0 len,H1++[some ⟨z,el,true,true⟩])
 else none:=rfl
theorem qafy {n0:Nat}{E:Env}{H:Heap}{z len:Nat}{zero:V}{parts:List (Nat × X)}:stp n0 (.plit z len zero parts) E H =
 if zero.cells.length=z/\zero.pure=true then
  (qcp [] (parts.map fun p=>getX E p.2)).bind fun q=>
   (fillE z (List.replicate len zero) ((parts.map (·.1)).zip q.1)).bind fun el=>if 0+len<=el.length then some (.sl ((el.drop 0).take len),H)else none
 else none:=rfl
theorem qaf2 {n0:Nat}{E:Env}{H:Heap}{ag:Bool}{z:Nat}{x:X}:stp n0 (.load ag z x) E H =
 match getX E x with
 | .eptr cs=>(wrapC ag z cs).map fun v=>(v,H)
 | .ptr b i off=>
  match H[b]? with
  |some (some k)=>
   match k.el[i]? with
   |some e=>(wrapC ag z (e.cells.drop off)).map fun v=>(v,H)
   |none=>none
  |_=>none
 |_=>none:=rfl
theorem qaa3 {n0:Nat}{E:Env}{H:Heap}{z:Nat}{a x:X}:stp n0 (.store z a x) E H=(qlw n0 z (getX E a) (getX E x) H):=rfl
theorem qaa4 {n0:Nat}{E:Env}{H:Heap}{ag:Bool}{z t:Nat}:stp n0 (.sload ag z t) E H =
 match E t with
 | .eptr cs=>(wrapC ag z cs).map fun v=>(v,H)
 | .ptr b i off=>
  match H[b]? with
  |some (some k)=>
   match k.el[i]? with
   |some e=>(wrapC ag z (e.cells.drop off)).bind fun v=>if v.cells.all (V.lowB H.length)=true/\v.isTup=false then some (v,H)else none
   |none=>none
  |_=>none
 |_=>none:=rfl
theorem q9d {n0:Nat}{E:Env}{H:Heap}{z:Nat}{a x:X}{av:List Nat}:stp n0 (.storeN z a x av) E H=(if(getX E x).pure=true/\(av.all fun t=>apart (E t) (getX E a))=true then qlw n0 z (getX E a) (getX E x) H else none):=rfl
theorem qaji {n0:Nat}{E:Env}{H:Heap}{bk:BK}{op:BinOp}{x y:X}:stp n0 (.bin bk op x y) E H=((binV bk op (getX E x) (getX E y)).map fun v=>(v,H)):=rfl
theorem qamg {n0:Nat}{E:Env}{H:Heap}{op:UnOp}{x:X}:stp n0 (.un op x) E H=((unV op (getX E x)).map fun v=>(v,H)):=rfl
theorem qaf5 {n0:Nat}{E:Env}{H:Heap}{k:IntKind}{x:X}:stp n0 (.conv k x) E H =
 match getX E x with
 | .int _ n=>some (.int k (k.wrap n),H)
 |_=>none:=rfl
theorem qaf0 {n0:Nat}{E:Env}{H:Heap}{g:Nat}{caps:List X}:stp n0 (.mkfn g caps) E H=(if(caps.map (getX E)).all V.isCell=true then some (.fn g (caps.map (getX E)),H)else none):=rfl
theorem q4z {n0:Nat}{E:Env}{H:Heap}{z bytes:Nat}{zero:V}{l c:X}:stp n0 (.mkslice z bytes zero l c) E H =
 match natOf (getX E l),natOf (getX E c)with
 |some l,some c=>
  if l<=c/\c*bytes<=281474976710656/\c<=9223372036854775807/\zero.cells.length=z/\zero.pure=true then
   some (.ref H.length z 0 l,H++[some ⟨z,List.replicate c zero,true,true⟩])
  else none
 |_,_=>none:=rfl
theorem q41 {n0 z bytes:Nat}{zero:V}{x n:X}{E:Env}{H:Heap}:stp n0 (.appendZ z bytes zero x n) E H =
 match getX E x,natOf (getX E n)with
 | .nil,some m=>
  if 0<m/\m*bytes<=140737488355328/\m<=9223372036854775807/\zero.cells.length=z/\zero.pure=true then some (.ref H.length z 0 m,H++[some ⟨z,List.replicate m zero,true,true⟩])else none
 |_,_=>none:=rfl
theorem qaa5 {n0:Nat}{E:Env}{H:Heap}{z:Nat}{x:X}{lo hi mx:Option X}:stp n0 (.slice z x lo hi mx) E H =
 match getX E x with
 | .nil=>
  match qbr E 0 lo,qbr E 0 hi,qbr E 0 mx with
  |some 0,some 0,some 0=>some (.nil,H)
  |_,_,_=>none
 | .sl l=>
  match qbr E 0 lo,qbr E l.length hi,qbr E l.length mx with
  |some lo,some hi,some mx=>
   if lo<=hi/\hi<=mx/\mx<=l.length/\(lo=0\/qe2 z ((l.take hi).drop lo)=true)then some (.sl ((l.take hi).drop lo),H)else none
  |_,_,_=>none
 | .ref b z' off len=>
  match qbr E 0 lo,qbr E len hi,mx with
  |some lo,some hi,none=>if lo<=hi/\hi<=len/\z'=z then some (.ref b z' (off+lo) (hi-lo),H)else none
  |_,_,_=>none
 |_=>none:=rfl
theorem qaa9 {n0:Nat}{E:Env}{H:Heap}{off:Nat}{x:X}:stp n0 (.faddr off x) E H =
 match getX E x with
 | .ptr b i o=>some (.ptr b i (o+off),H)
 | .eptr cs=>some (.eptr (cs.drop off),H)
 |_=>none:=rfl
theorem qaa8 {n0:Nat}{E:Env}{H:Heap}{ag:Bool}{off z:Nat}{x:X}:stp n0 (.field ag off z x) E H =
 match getX E x with
 | .agg cs=>(wrapC ag z (cs.drop off)).map fun v=>(v,H)
 |_=>none:=rfl
theorem qaa7 {n0:Nat}{E:Env}{H:Heap}{z:Nat}{x i:X}:stp n0 (.iaddr z x i) E H =
 match getX E x,natOf (getX E i)with
 | .sl l,some i=>
  match l[i]? with
  |some e=>if e.cells.length=z then some (.eptr e.cells,H)else none
  |none=>none
 | .ref b z' off len,some i=>if i<len/\z'=z then some (.ptr b (off+i) 0,H)else none
 |_,_=>none:=rfl
theorem q9h {n0:Nat}{E:Env}{H:Heap}{n z:Nat}{x i:X}:stp n0 (.aiaddr n z x i) E H =
 match getX E x,natOf (getX E i)with
 | .ptr b j off,some i=>if i<n then some (.ptr b j (off+i*z),H)else none
 | .eptr cs,some i=>if i<n then some (.eptr (cs.drop (i*z)),H)else none
 |_,_=>none:=rfl
theorem qaa6 {n0:Nat}{E:Env}{H:Heap}{ag:Bool}{n z:Nat}{x i:X}:stp n0 (.index ag n z x i) E H =
 match getX E x,natOf (getX E i)with
 | .agg cs,some i=>if i<n then(wrapC ag z (cs.drop (i*z))).map fun v=>(v,H)else none
 |_,_=>none:=rfl
theorem q9e {n0:Nat}{E:Env}{H:Heap}{x i:X}:stp n0 (.sindex x i) E H =
 match getX E x,natOf (getX E i)with
 | .str s,some i=>
  match s[i]? with
  |some b=>some (.int .u8 b.toNat,H)
  |none=>none
 |_,_=>none:=rfl
theorem q40 {n0:Nat}{E:Env}{H:Heap}{i:Nat}{x:X}:stp n0 (.extract i x) E H =
 match getX E x with
 | .tup vs=>(vs[i]?).map fun v=>(v,H)
 |_=>none:=rfl
theorem qajg {n0:Nat}{E:Env}{H:Heap}{x:X}:stp n0 (.len x) E H =
 match getX E x with
 | .sl l=>some (.int .i64 l.length,H)
 | .nil=>some (.int .i64 0,H)
 | .emp=>some (.int .i64 0,H)
 | .ref _ _ _ len=>some (.int .i64 len,H)
 |_=>none:=rfl
theorem qaf3 {n0:Nat}{E:Env}{H:Heap}{n:Nat}{x:X}:stp n0 (.lenc n x) E H=(some (.int .i64 n,H)):=rfl
theorem qaf6 {n0:Nat}{E:Env}{H:Heap}{x:X}:stp n0 (.capn x) E H =
 match getX E x with
 | .nil=>some (.int .i64 0,H)
 |_=>none:=rfl
theorem qaf4 {n0:Nat}{E:Env}{H:Heap}{z:Nat}{x y:X}:stp n0 (.copy z x y) E H =
 match getX E x with
 | .ref b z' off len=>
  (elems H (getX E y)).bind fun ys=>
   match H[b]? with
   |some (some k)=>
    if k.arr=true/\k.wr=true/\k.z=z/\z'=z/\qe2 z ys=true/\off+len<=k.el.length then
     some (.int .i64 (Nat.min ys.length len),H.set b (some { k with el:=qd8 k.el off (ys.take len) }))
    else none
   |_=>none
 |_=>none:=rfl
theorem qaje {n0:Nat}{E:Env}{H:Heap}{x y:X}:stp n0 (.min x y) E H =
 match getX E x,getX E y with
 | .int k a,.int k' b=>if k=k' then some (.int k (if b<a then b else a),H)else none
 |_,_=>none:=rfl
theorem qajf {n0:Nat}{E:Env}{H:Heap}{x y:X}:stp n0 (.max x y) E H =
 match getX E x,getX E y with
 | .int k a,.int k' b=>if k=k' then some (.int k (if a<b then b else a),H)else none
 |_,_=>none:=rfl
theorem qaf1 {n0:Nat}{E:Env}{H:Heap}{x y z:X}:stp n0 (.max3 x y z) E H =
 match getX E x,getX E y,getX E z with
 | .int k a,.int k' b,.int k'' c=>if k=k'/\k=k'' then some (.int k (if(if a<b then b else a)<c then c else if a<b then b else a),H)else none
 |_,_,_=>none:=rfl
attribute [simp] qaf1 q9g qamh qafz qajh qajd qaba q9f qafy qaf2 qaa3 qaa4 q9d qaji qamg qaf5 qaf0 q4z q41 qaa5 qaa9 qaa8 qaa7 q9h qaa6 q9e q40 qajg qaf3 qaf6 qaf4 qaje qajf
inductive Fr where
 |seq (b:AC)
 |blk (id:Nat)
section
variable {S : AProg} {n0 : Nat} {Q : AX → Env → Heap → Prop}
def WP (S:AProg)(n0:Nat)(Q:AX->Env->Heap->Prop):List Fr->AX->Env->Heap->Prop
 | [],x,E,H=>Q x E H
 | .seq b :: K,.normal,E,H=>WC S n0 b E H (fun x E H=>WP S n0 Q K x E H)
 | .seq _ :: K,x,E,H=>WP S n0 Q K x E H
 | .blk id :: K,x,E,H=>WP S n0 Q K (x.outOf id) E H
def WK (S:AProg)(n0:Nat)(c:AC)(K:List Fr)(E:Env)(H:Heap)(Q:AX->Env->Heap->Prop):Prop:=WC S n0 c E H (fun x E H=>WP S n0 Q K x E H)
def WL (S:AProg)(n0:Nat)(d:Bool)(l:List AOper)(K:List Fr)(E:Env)(H:Heap)(Q:AX->Env->Heap->Prop):Prop:=WO S n0 d l E H (fun E H=>WP S n0 Q K .normal E H)
theorem qj4 {c:AC}{E:Env}{H:Heap}(h:WK S n0 c [] E H Q):WC S n0 c E H Q:=h
theorem qaon {x:AX}{E:Env}{H:Heap}:WP S n0 Q [] x E H↔Q x E H:=Iff.rfl
theorem qaom {b:AC}{K:List Fr}{E:Env}{H:Heap}:WP S n0 Q (.seq b :: K) .normal E H↔WK S n0 b K E H Q:=Iff.rfl
theorem q6d {b:AC}{K:List Fr}{id:Nat}{E:Env}{H:Heap}:WP S n0 Q (.seq b :: K) (.exit id) E H↔WP S n0 Q K (.exit id) E H:=Iff.rfl
theorem qaad {b:AC}{K:List Fr}{E:Env}{H:Heap}:WP S n0 Q (.seq b :: K) .ret E H↔WP S n0 Q K .ret E H:=Iff.rfl
theorem WP_blk {id:Nat}{K:List Fr}{x:AX}{E:Env}{H:Heap}:WP S n0 Q (.blk id :: K) x E H↔WP S n0 Q K (x.outOf id) E H:=by cases x<;>exact Iff.rfl
theorem qdf {c:AC}{E:Env}{H:Heap}{Q':AX->Env->Heap->Prop}(h:WC S n0 c E H Q)(hq:∀x E H,Q x E H->Q' x E H):WC S n0 c E H Q':=by
 obtain⟨x,E1,H1,e,q⟩:=h;exact⟨x,E1,H1,e,hq _ _ _ q⟩
theorem qaag {a b:AC}{K:List Fr}{E:Env}{H:Heap}:WK S n0 (.seq a b) K E H Q↔WK S n0 a (.seq b :: K) E H Q:=by
 constructor
 ·rintro⟨x,E1,H1,e,q⟩;cases e with
  |seqN e1 e2=>exact⟨.normal,_,_,e1,_,_,_,e2,q⟩
  |seqX e1 hx=>
   refine⟨x,E1,H1,e1,?_⟩;cases x with
   |normal=>exact absurd rfl hx
   |exit id=>exact q
   |ret=>exact q
 ·intro h;refine qfu (qdf h fun x E1 H1 q=>?_);cases x with
  |normal=>exact q
  |exit id=>exact q
  |ret=>exact q
theorem qnd {x:X}{a b:AC}{K:List Fr}{E:Env}{H:Heap}:WK S n0 (.cond x a b) K E H Q↔match getX E x with| .bool true=>WK S n0 a K E H Q| .bool false=>WK S n0 b K E H Q|_=>False:=by
 constructor
 ·rintro⟨y,E1,H1,e,q⟩;cases e with
  | @cond _ _ _ _ _ _ t _ hc e1=>
   rw[hc];cases t with
   |true=>exact⟨_,_,_,by simpa using e1,q⟩
   |false=>exact⟨_,_,_,by simpa using e1,q⟩
 ·intro h;split at h
  ·rename_i hc;exact qalk hc h
  ·rename_i hc;exact qahw hc h
  ·exact h.elim
theorem q4q {id:Nat}{c:AC}{K:List Fr}{E:Env}{H:Heap}:WK S n0 (.block id c) K E H Q↔WK S n0 c (.blk id :: K) E H Q:=by
 constructor
 ·rintro⟨y,E1,H1,e,q⟩;cases e with
  |block e1=>exact⟨_,_,_,e1,WP_blk.2 q⟩
 ·intro h;exact qahx (qdf h fun x E1 H1 q=>WP_blk.1 q)
theorem q4p {c:AC}{K:List Fr}{E:Env}{H:Heap}:WK S n0 (.scope c) K E H Q↔WK S n0 c K E H Q:=by
 constructor
 ·rintro⟨y,E1,H1,e,q⟩;cases e with
  |scope e1=>exact⟨_,_,_,e1,q⟩
 ·intro h;exact qahv h
theorem q1r {d:Bool}{l:List AOper}{K:List Fr}{E:Env}{H:Heap}:WK S n0 (.region d l) K E H Q↔WL S n0 d l K E H Q:=by
 constructor
 ·rintro⟨y,E1,H1,e,q⟩;cases e with
  |region e1=>exact⟨_,_,e1,q⟩
 ·intro h;exact qae5 h
theorem q6e {K:List Fr}{E:Env}{H:Heap}:WK S n0 .skip K E H Q↔WP S n0 Q K .normal E H:=⟨by rintro⟨y,E1,H1,e,q⟩;cases e;exact q,qall⟩
theorem q6f {id:Nat}{K:List Fr}{E:Env}{H:Heap}:WK S n0 (.exit id) K E H Q↔WP S n0 Q K (.exit id) E H:=⟨by rintro⟨y,E1,H1,e,q⟩;cases e;exact q,qaln⟩
theorem qaah {K:List Fr}{E:Env}{H:Heap}:WK S n0 .ret K E H Q↔WP S n0 Q K .ret E H:=⟨by rintro⟨y,E1,H1,e,q⟩;cases e;exact q,qaou⟩
theorem qaaf {d:Bool}{K:List Fr}{E:Env}{H:Heap}:WL S n0 d [] K E H Q↔WP S n0 Q K .normal E H:=qaae
def qw1 (S:AProg)(n0:Nat)(d:Bool)(dst:Option Nat)(x:X)(xs:List X)(sy:Bool)(l:List AOper)(K:List Fr)(E:Env)(H:Heap)(Q:AX->Env->Heap->Prop):Prop:=
 qae1 S n0 d dst x xs none sy l E H (fun E H=>WP S n0 Q K .normal E H)
def stepL (S:AProg)(n0:Nat)(d:Bool)(dst:Option Nat)(op:AOp)(gu:Option (Nat × Bool))(sy:Bool)(l:List AOper)(K:List Fr)(E:Env)(H:Heap)(Q:AX->Env->Heap->Prop):Prop:=
 match gd ⟨dst,op,gu,sy⟩ E with
 |some false=>WL S n0 d l K (put E dst .undef) H Q
 |some true=>
  match op with
  | .call x xs=>qw1 S n0 d dst x xs sy l K E H Q
  |op=>
   match stp n0 op E H with
   |some (v,H1)=>((d&&!sy)=true->H <+: H1)/\WL S n0 d l K (put E dst v) H1 Q
   |none=>False
 |none=>False
theorem qjl {d:Bool}{dst:Option Nat}{op:AOp}{gu:Option (Nat × Bool)}{sy:Bool}{l:List AOper}{K:List Fr}{E:Env}{H:Heap}:WL S n0 d (⟨dst,op,gu,sy⟩ :: l) K E H Q↔stepL S n0 d dst op gu sy l K E H Q:=qaop
theorem qaa {d:Bool}{dst:Option Nat}{sy:Bool}{l:List AOper}{K:List Fr}{E:Env}{H:Heap}{x:X}{args caps vs:List V}{xs:List X}{g:Nat}{v:V}(hx:getX E x=.fn g caps)
 (ha:xs.map (getX E)++caps=args) (hp:prep S g H args=some (vs,H)) (h:CQ S g vs v) (k:WL S n0 d l K (put E dst v) H Q):qw1 S n0 d dst x xs sy l K E H Q:=
 qw0 hx ha hp (h.ct ⟨fun _=>List.prefix_refl H,k⟩)
theorem zq {d:Bool}{dst:Option Nat}{sy:Bool}{l:List AOper}{K:List Fr}{E:Env}{H:Heap}{x:X}{args caps vs:List V}{xs:List X}{g:Nat}{v:V}(h:CQ S g vs v) (k:WL S n0 d l K (put E dst v) H Q)(hx:getX E x=.fn g caps:=by exact rfl)(ha:xs.map (getX E)++caps=args:=by exact rfl)(hp:prep S g H args=some (vs,H):=by exact rfl):qw1 S n0 d dst x xs sy l K E H Q:=qaa hx ha hp h k
theorem qco {d:Bool}{dst:Option Nat}{sy:Bool}{l:List AOper}{K:List Fr}{E:Env}{H H1:Heap}{x:X}{args caps vs:List V}{xs:List X}{g:Nat}(hx:getX E x=.fn g caps)
 (ha:xs.map (getX E)++caps=args) (hp:prep S g H args=some (vs,H1)) (h:CT S g vs H1 (fun v H2=>((d&&!sy)=true->H <+: H2)/\WL S n0 d l K (put E dst v) H2 Q)):qw1 S n0 d dst x xs sy l K E H Q:=
 qw0 hx ha hp h
theorem qc5 {c:AC}{K:List Fr}{E:Env}{H:Heap}(I:Nat->Env->Heap->Prop)(k:Nat)(h0:I k E H)
 (round:∀k E H,I k E H->WC S n0 c E H (AX.thn (fun E1 H1=>∃j,j<k/\I j E1 H1) (fun x E H=>WP S n0 Q K x E H))):WK S n0 (.loop c) K E H Q:=qalm I k h0 round
theorem qas {c:AC}{E:Env}{H:Heap}{J:Env->Heap->Prop}{R:AX->Env->Heap->Prop}(h:WK S n0 c [] E H (AX.thn J R)):WC S n0 c E H (AX.thn J R):=h
theorem q9a {J:Env->Heap->Prop}{R:AX->Env->Heap->Prop}{E:Env}{H:Heap}:AX.thn J R .normal E H↔J E H:=Iff.rfl
theorem qaft {J:Env->Heap->Prop}{R:AX->Env->Heap->Prop}{id:Nat}{E:Env}{H:Heap}:AX.thn J R (.exit id) E H↔R (.exit id) E H:=Iff.rfl
theorem qai8 {J:Env->Heap->Prop}{R:AX->Env->Heap->Prop}{E:Env}{H:Heap}:AX.thn J R .ret E H↔R .ret E H:=Iff.rfl
theorem qaf {g:Nat}{f:AFn}{args:List V}{v:V}(hf:S.fn g=some f)
 (h:∀H,WK S H.length f.body [] (E0 args) H (fun x E1 H1=>(x=.normal\/x=.ret)/\∃v0,resV E1 H1 f.results=some v0/\fin f.own H.length H1 v0=some (v,H))):CQ S g args v:=CQ_of hf h
end
theorem qanu {n:Nat}{H:Heap}{l:List V}:fin false n H (.sl l)=some (.sl l,H.take n):=rfl
theorem qaks {n:Nat}{H:Heap}{k:IntKind}{i:Int}:fin false n H (.int k i)=some (.int k i,H.take n):=rfl
theorem qahd {n:Nat}{H:Heap}{b:Bool}:fin false n H (.bool b)=some (.bool b,H.take n):=rfl
@[simp] theorem qalw {cs:List V}:(V.agg cs).cells=cs:=rfl
@[simp] theorem qai5 {b:Bool}:(V.bool b).cells=[.bool b]:=rfl
@[simp] theorem qalv {k:IntKind}{n:Int}:(V.int k n).cells=[.int k n]:=rfl
@[simp] theorem qal8 {l:List V}:(V.sl l).cells=[.sl l]:=rfl
@[simp] theorem qalu : V.nil.cells=[.nil]:=rfl
@[simp] theorem qals {b z off len:Nat}:(V.ref b z off len).cells=[.ref b z off len]:=rfl
@[simp] theorem qalt {b i off:Nat}:(V.ptr b i off).cells=[.ptr b i off]:=rfl
@[simp] theorem qal9 {g:Nat}{cs:List V}:(V.fn g cs).cells=[.fn g cs]:=rfl
@[simp] theorem qaph {cs:List V}:(V.agg cs).isTup=false:=rfl
@[simp] theorem qal7 {b:Bool}:(V.bool b).isTup=false:=rfl
@[simp] theorem qapg {k:IntKind}{n:Int}:(V.int k n).isTup=false:=rfl
@[simp] theorem qapr {l:List V}:(V.sl l).isTup=false:=rfl
@[simp] theorem qapf : V.nil.isTup=false:=rfl
@[simp] theorem qapd {b z off len:Nat}:(V.ref b z off len).isTup=false:=rfl
@[simp] theorem qape {b i off:Nat}:(V.ptr b i off).isTup=false:=rfl
@[simp] theorem qaps {g:Nat}{cs:List V}:(V.fn g cs).isTup=false:=rfl
attribute [simp] qanu qaks qahd qaon qaom q6d qaad WP_blk qaag q4q q4p q1r q6e q6f qaah qaaf q9a qaft qai8
attribute [simp] getX put qaas E0 AX.outOf binV sameI binI unV natOf qbr qlw wrapC V.isNil resV resVs resV1
end Go.Abs
namespace Go.Abs
section
variable {S : AProg} {n0 : Nat} {Q : AX → Env → Heap → Prop}
def WKc (S:AProg)(n0:Nat)(v:V)(a b:AC)(K:List Fr)(E:Env)(H:Heap)(Q:AX->Env->Heap->Prop):Prop:=
 match v with
 | .bool true=>WK S n0 a K E H Q
 | .bool false=>WK S n0 b K E H Q
 |_=>False
theorem qahu {t:Bool}{a b:AC}{K:List Fr}{E:Env}{H:Heap}:WKc S n0 (.bool t) a b K E H Q↔(t=true->WK S n0 a K E H Q)/\(t=false->WK S n0 b K E H Q):=by cases t<;>simp[WKc]
theorem qaht {a b:AC}{K:List Fr}{E:Env}{H:Heap}:WKc S n0 (.bool true) a b K E H Q↔WK S n0 a K E H Q:=Iff.rfl
theorem qae3 {a b:AC}{K:List Fr}{E:Env}{H:Heap}:WKc S n0 (.bool false) a b K E H Q↔WK S n0 b K E H Q:=Iff.rfl
theorem qae4 {x:X}{a b:AC}{K:List Fr}{E:Env}{H:Heap}:WK S n0 (.cond x a b) K E H Q↔WKc S n0 (getX E x) a b K E H Q:=by
 rw[qnd];unfold WKc;split<;>simp_all
def stepN (S:AProg)(n0:Nat)(d:Bool)(dst:Option Nat)(op:AOp)(sy:Bool)(l:List AOper)(K:List Fr)(E:Env)(H:Heap)(Q:AX->Env->Heap->Prop):Prop:=
 match op with
 | .call x xs=>qw1 S n0 d dst x xs sy l K E H Q
 |op=>
  match stp n0 op E H with
  |some (v,H1)=>((d&&!sy)=true->H <+: H1)/\WL S n0 d l K (put E dst v) H1 Q
  |none=>False
theorem qali {d:Bool}{dst:Option Nat}{op:AOp}{sy:Bool}{l:List AOper}{K:List Fr}{E:Env}{H:Heap} :
 WL S n0 d (⟨dst,op,none,sy⟩ :: l) K E H Q↔stepN S n0 d dst op sy l K E H Q:=qjl
theorem qafq {E:Env}{t:Nat}{v:V}(h:E t=v):upd E t v=E:=by
 funext i;unfold upd;split
 ·rename_i e;rw[e,h]
 ·rfl
def WLg (S:AProg)(n0:Nat)(v:V)(t:Nat)(want d:Bool)(dst:Option Nat)(op:AOp)(sy:Bool)(l:List AOper)(K:List Fr)(E:Env)(H:Heap)(Q:AX->Env->Heap->Prop):Prop:=
 match v with
 | .bool b=>if b=want then stepN S n0 d dst op sy l K (upd E t (.bool b)) H Q else WL S n0 d l K (put (upd E t (.bool b)) dst .undef) H Q
 | .tup _=>WL S n0 d l K (put E dst .undef) H Q
 |_=>False
theorem qalh {d:Bool}{dst:Option Nat}{op:AOp}{sy:Bool}{l:List AOper}{K:List Fr}{E:Env}{H:Heap}{t:Nat}{want:Bool} :
 WL S n0 d (⟨dst,op,some (t,want),sy⟩ :: l) K E H Q↔WLg S n0 (E t) t want d dst op sy l K E H Q:=by
 rw[qjl];unfold stepL WLg gd;simp only;cases hv:E t with
 |bool b=>cases b<;>cases want<;>(simp only[qafq hv];exact Iff.rfl)
 |tup vs=>exact Iff.rfl
 |_=>exact Iff.rfl
variable {t : Nat} {d : Bool} {dst : Option Nat} {op : AOp} {sy : Bool} {l : List AOper} {K : List Fr} {E : Env} {H : Heap}
theorem WLg_t {b:Bool}:WLg S n0 (.bool b) t true d dst op sy l K E H Q↔(b=true->stepN S n0 d dst op sy l K (upd E t (.bool true)) H Q)/\(b=false->WL S n0 d l K (put (upd E t (.bool false)) dst .undef) H Q):=by
 cases b<;>simp[WLg]
theorem WLg_f {b:Bool}:WLg S n0 (.bool b) t false d dst op sy l K E H Q↔(b=true->WL S n0 d l K (put (upd E t (.bool true)) dst .undef) H Q)/\(b=false->stepN S n0 d dst op sy l K (upd E t (.bool false)) H Q):=by
 cases b<;>simp[WLg]
theorem qaoq : WLg S n0 (.bool true) t true d dst op sy l K E H Q↔stepN S n0 d dst op sy l K (upd E t (.bool true)) H Q:=Iff.rfl
theorem qaos : WLg S n0 (.bool false) t true d dst op sy l K E H Q↔WL S n0 d l K (put (upd E t (.bool false)) dst .undef) H Q:=Iff.rfl
theorem qaor : WLg S n0 (.bool true) t false d dst op sy l K E H Q↔WL S n0 d l K (put (upd E t (.bool true)) dst .undef) H Q:=Iff.rfl
theorem qaot : WLg S n0 (.bool false) t false d dst op sy l K E H Q↔stepN S n0 d dst op sy l K (upd E t (.bool false)) H Q:=Iff.rfl
theorem qalg {want:Bool}{vs:List V}:WLg S n0 (.tup vs) t want d dst op sy l K E H Q↔WL S n0 d l K (put E dst .undef) H Q:=Iff.rfl
theorem qae2 {want:Bool}:WLg S n0 .undef t want d dst op sy l K E H Q↔WL S n0 d l K (put E dst .undef) H Q:=Iff.rfl
end
theorem WK_up {S:AProg}{n0:Nat}{Q:AX->Env->Heap->Prop}{c:AC}{K:List Fr}{E:Env}{H:Heap}(I:Nat->Env->Heap->Prop)(n:Nat)(h0:I 0 E H)
 (round:∀i E H,i<=n->I i E H->WK S n0 c [] E H (AX.thn (fun E1 H1=>i<n/\I (i+1) E1 H1) (fun x E H=>WP S n0 Q K x E H))):WK S n0 (.loop c) K E H Q:=by
 refine qc5 (fun k E H=>∃i,i+k=n/\I i E H) n ⟨0,by omega,h0⟩ ?_;rintro k E H ⟨i,hi,h⟩;refine qdf (round i E H (by omega) h) ?_;intro x E1 H1 hx;cases x with
 |normal=>exact⟨k-1,by have:=hx.1;omega,i+1,by have:=hx.1;omega,hx.2⟩
 |exit id=>exact hx
 |ret=>exact hx
theorem q73 {α:Type}(H l:List α)(k:Nat):(H++l)[H.length+k]?=l[k]?:=by
 rw[List.getElem?_append_right (by omega)];congr 1;omega
theorem qadb {α:Type}(H l:List α):(H++l)[H.length]?=l[0]?:=q73 H l 0
theorem qabk {α:Type}(H l:List α)(k:Nat)(v:α):(H++l).set (H.length+k) v=H++l.set k v:=by
 rw[List.set_append_right _ _ (by omega)];congr 2;omega
theorem qage {α:Type}(H l:List α)(v:α):(H++l).set H.length v=H++l.set 0 v:=qabk H l 0 v
attribute [simp low] qahu WLg_t WLg_f
attribute [simp] qae4 qaht qae3 stepN qali qalh qaoq qaos qaor qaot qalg qae2 q73 qadb qabk qage
end Go.Abs
namespace Go.Abs
def natV : List Nat->Nat
 | []=>0
 |x :: l=>x+4294967296*natV l
def Li (l:List Nat):Prop:=∀x ∈ l,x<4294967296
theorem Li.cons {x:Nat}{l:List Nat}(h:Li (x :: l)):x<4294967296/\Li l:=⟨h x (by simp),fun y hy=>h y (by simp[hy])⟩
theorem Li.take {l:List Nat}(h:Li l)(n:Nat):Li (l.take n):=fun x hx=>h x (List.mem_of_mem_take hx)
theorem Li.drop {l:List Nat}(h:Li l)(n:Nat):Li (l.drop n):=fun x hx=>h x (List.mem_of_mem_drop hx)
theorem Li.append {l m:List Nat}(h:Li l)(k:Li m):Li (l++m):=fun x hx=>(List.mem_append.1 hx).elim (h x) (k x)
theorem qb0 : ∀(l m:List Nat),natV (l++m)=natV l+4294967296^l.length*natV m
 | [],m=>by simp[natV]
 |x :: l,m=>by
  simp only[List.cons_append,natV,qb0 l m,List.length_cons,Nat.pow_succ];rw[Nat.mul_add,<-Nat.mul_assoc,Nat.mul_comm 4294967296 (4294967296^l.length)];omega
theorem qao : ∀{l:List Nat},Li l->natV l<4294967296^l.length
 | [],_=>by simp[natV]
 |x :: l,h=>by
  have h1:=qao h.cons.2;have h2:=h.cons.1;simp only[natV,List.length_cons,Nat.pow_succ];omega
theorem qrs (n:Nat):natV (List.replicate n 0)=0:=by
 induction n with
 |zero=>rfl
 |succ n ih=>simp[List.replicate_succ,natV,ih]
def trimN (l:List Nat):Nat->Nat
 |0=>0
 |n+1=>if l[n]?=some 0 then trimN l n else n+1
def trimL (l:List Nat):List Nat:=l.take (trimN l l.length)
theorem q6y (l:List Nat):∀n,trimN l n<=n
 |0=>Nat.le_refl _
 |n+1=>by unfold trimN;split;exact Nat.le_succ_of_le (q6y l n);exact Nat.le_refl _
theorem qyw (l:List Nat):∀n,n<=l.length->natV (l.take (trimN l n))=natV (l.take n)
 |0,_=>by simp[trimN]
 |n+1,h=>by
  unfold trimN;split
  ·rename_i h0;rw[qyw l n (by omega),List.take_add_one,h0,qb0];simp[natV]
  ·rfl
theorem qlk (l:List Nat):natV (trimL l)=natV l:=by rw[trimL,qyw l _ (Nat.le_refl _),List.take_length]
theorem Li.trimL {l:List Nat}(h:Li l):Li (trimL l):=h.take _
def Trim (l:List Nat):Prop:=∀x,l.getLast?=some x->x≠0
theorem q15 (l:List Nat):∀n,n<=l.length->∀m,trimN l n=m+1->l[m]?≠some 0
 |0,_,m,h=>by simp[trimN]at h
 |n+1,hn,m,h=>by
  unfold trimN at h;split at h
  ·exact q15 l n (by omega) m h
  ·rename_i h0;have:n=m:=by omega
   subst this;exact h0
theorem qoy (l:List Nat):Trim (trimL l):=by
 intro x hx;unfold trimL at hx;have hle:=q6y l l.length;rw[List.getLast?_eq_getElem?,List.length_take,Nat.min_eq_left hle]at hx;cases hq:trimN l l.length with
 |zero=>rw[hq]at hx;simp at hx
 |succ m=>
  rw[hq]at hx;have h1:=q15 l l.length (Nat.le_refl _) m hq;have h2:(l.take (m+1))[m+1-1]?=l[m]?:=by rw[List.getElem?_take];simp
  rw[h2]at hx;intro h0;subst h0;exact h1 hx
theorem qzu {l:List Nat}(h:Trim l):trimL l=l:=by
 unfold trimL;cases hl:l.length with
 |zero=>rw[List.eq_nil_of_length_eq_zero hl];rfl
 |succ n=>
  have h1:l[n]?≠some 0:=by
   intro h0;exact h 0 (by rw[List.getLast?_eq_getElem?,hl];exact h0) rfl
  unfold trimN;rw[if_neg h1,<-hl,List.take_length]
theorem qacf {l:List Nat}(h:Trim l)(hn:l≠[]):4294967296^(l.length-1)<=natV l:=by
 have⟨x,hx⟩:∃x,l.getLast?=some x:=by
  cases hq:l.getLast? with
  |none=>exact absurd (List.getLast?_eq_none_iff.1 hq) hn
  |some x=>exact⟨x,rfl⟩
 have hx0:=h x hx;have:l=l.dropLast++[x]:=by
  have:=List.dropLast_concat_getLast hn;rw[List.getLast?_eq_some_getLast hn]at hx;injection hx with hx
  rw[hx]at this;exact this.symm
 rw[this,qb0];simp only[natV,List.length_append,List.length_dropLast,List.length_singleton,Nat.mul_zero,Nat.add_zero];have e:l.length-1+1-1=l.length-1:=by omega
 rw[e];have:4294967296^(l.length-1)*1<=4294967296^(l.length-1)*x:=Nat.mul_le_mul_left _ (by omega);omega
theorem qej {a b:List Nat}(ha:Li a)(hb:Trim b)(h:a.length<b.length):natV a<natV b:=by
 have h1:=qao ha;have h2:=qacf hb (fun e=>by rw[e]at h;simp at h);have h3:4294967296^a.length<=4294967296^(b.length-1):=Nat.pow_le_pow_right (by omega) (by omega);omega
theorem qge {a b:List Nat}(ha:Li a){k:Nat}(hka:k<a.length)(hkb:k<b.length)(hd:a.drop (k+1)=b.drop (k+1))(h:a[k]<b[k]):natV a<natV b:=by
 have ea:a=a.take k++(a[k] :: a.drop (k+1)):=by rw[<-List.drop_eq_getElem_cons hka,List.take_append_drop]
 have eb:b=b.take k++(b[k] :: b.drop (k+1)):=by rw[<-List.drop_eq_getElem_cons hkb,List.take_append_drop]
 have h1:=qao (ha.take k);rw[ea,eb,qb0,qb0];simp only[List.length_take,Nat.min_eq_left (Nat.le_of_lt hka),Nat.min_eq_left (Nat.le_of_lt hkb),natV]at h1 ⊢;rw[hd];have h2:4294967296^k*(a[k]+4294967296*natV (b.drop (k+1)))+4294967296^k<=4294967296^k*(b[k]+4294967296*natV (b.drop (k+1))):=by
  rw[<-Nat.mul_succ];exact Nat.mul_le_mul_left _ (by omega)
 omega
def cmpN (x y:Nat):Int:=if x<y then -1 else if y<x then 1 else 0
set_option maxHeartbeats 4000000
attribute [local simp] qnd qjl stepL gd
def u32 (x:Nat):V:=.int .u32 (x:Int)
def lim (l:List Nat):V:=.sl (l.map u32)
def i64 (n:Int):V:=.int .i64 n
@[simp] theorem qan4 {x:Nat}:(u32 x).cells=[u32 x]:=rfl
@[simp] theorem qan6 {l:List Nat}:(lim l).cells=[lim l]:=rfl
@[simp] theorem qan8 {n:Int}:(i64 n).cells=[i64 n]:=rfl
@[simp] theorem qanh {x:Nat}:(u32 x).isTup=false:=rfl
@[simp] theorem qanj {l:List Nat}:(lim l).isTup=false:=rfl
@[simp] theorem qanl {n:Int}:(i64 n).isTup=false:=rfl
theorem qv9 : prog.fn qpr=some qem:=by rfl
theorem qbx (l:List Nat)(hl:l.length<=9223372036854775807):CQ prog qpr [lim l] (lim (trimL l)):=by
 refine qaf qv9 fun H=>?_
 simp[qem,lim];refine qc5 (fun k E H'=>H'=H/\E 0=lim l/\k<=l.length/\E 3=.int .i64 k/\trimN l k=trimN l l.length) l.length ?_ ?_
 ·simp[lim]
 ·rintro n E H' ⟨rfl,h0,hn,h3,ht⟩;refine qas ?_;simp only[lim]at h0;rcases n with _|n
  ·simp[qd4,h0,h3,trimL,<-ht,trimN]
  ·have e1:IntKind.i64.wrap (n:Int)=n:=by rw[wrap_i64]<;>omega
   have hlt:n<l.length:=by omega
   have p1:(0:Int)<=(n:Int)+1:=by omega
   by_cases hx:l[n]=0
   ·simp[qd4,h0,h3,e1,hlt,hx,u32];refine⟨n,by omega,rfl,by omega,rfl,?_⟩;rw[<-ht,trimN,if_pos (by rw[List.getElem?_eq_getElem hlt,hx])]
   ·simp[qd4,h0,h3,e1,hlt,hx,u32,p1,hn];rw[trimL,<-ht,trimN,if_neg (by rw[List.getElem?_eq_getElem hlt];simpa using hx),List.map_take]
@[simp] theorem qanr (H:Heap)(l:List Nat)(vs:List V):frzVs H (lim l :: vs)=(frzVs H vs).bind fun p=>some (lim l :: p.1,p.2):=rfl
@[simp] theorem qans (H:Heap)(k:IntKind)(n:Int)(vs:List V):frzVs H (.int k n :: vs)=(frzVs H vs).bind fun p=>some (.int k n :: p.1,p.2):=rfl
@[simp] theorem qal4 (H:Heap)(b:Bool)(vs:List V):frzVs H (.bool b :: vs)=(frzVs H vs).bind fun p=>some (.bool b :: p.1,p.2):=rfl
@[simp] theorem qanq (H:Heap):frzVs H []=some ([],H):=rfl
theorem qx7 : prog.fn qq7=some qhx:=by rfl
theorem quu (H:Heap)(l:List Nat):prep prog 111 H [lim l]=some ([lim l],H):=rfl
theorem qpw (a b:List Nat)(ha:a.length<=9223372036854775807)(hb:b.length<=9223372036854775807)(la:Li a)(lb:Li b):CQ prog qq7 [lim a,lim b] (i64 (cmpN (natV a) (natV b))):=by
 refine qaf qx7 fun H=>?_
 simp;refine qaa rfl rfl (quu H a) (qbx a ha) ?_;simp;refine qaa rfl rfl (quu H b) (qbx b hb) ?_;rw[<-qlk a,<-qlk b];have ta:=qoy a;have tb:=qoy b;have la':=la.trimL;have lb':=lb.trimL;have hla:(trimL a).length<=9223372036854775807:=by unfold trimL;simp;omega
 generalize trimL a=x at *
 generalize trimL b=y at *
 by_cases hlt:x.length<y.length
 ·have h1:¬((x.length:Int)=(y.length:Int)):=by omega
  have h2:=qej la' tb hlt;simp[lim,hlt,h1,cmpN,h2,i64]
 ·by_cases hgt:y.length<x.length
  ·have h1:¬((x.length:Int)=(y.length:Int)):=by omega
   have h2:=qej lb' ta hgt;have h3:¬natV x<natV y:=by omega
   simp[lim,hlt,h1,cmpN,h2,h3,i64]
  ·have heq:x.length=y.length:=by omega
   simp[lim,heq];refine qc5 (fun k E H'=>H'=H/\E 0=lim x/\E 1=lim y/\k<=x.length/\E 5=.int .i64 ((k:Int)-1)/\x.drop k=y.drop k) x.length ?_ ?_
   ·have e1:IntKind.i64.wrap ((y.length:Int)-1)=(y.length:Int)-1:=by rw[wrap_i64]<;>omega
    have e2:y.drop x.length=[]:=by rw[heq];exact List.drop_length
    simp[lim,e1,heq]
   ·rintro n E H' ⟨rfl,h0,h1,hn,h5,hd⟩;refine qas ?_;simp only[lim]at h0 h1;rcases n with _|n
    ·have e1:x=y:=by simpa using hd
     have e2:¬((0:Int)<=-1):=by omega
     simp[qc9,h5,e1,cmpN,i64]
    ·have e1:(n+1:Int)-1=n:=by omega
     have hx:n<x.length:=by omega
     have hy:n<y.length:=by omega
     have p1:((0:Int)<=n):=by omega
     by_cases hlt:x[n]<y[n]
     ·have h2:=qge la' hx hy hd hlt;have h3:((x[n]:Int)<(y[n]:Int)):=by omega
      simp[qc9,h0,h1,h5,e1,p1,hx,hy,u32,hlt,cmpN,h2,i64]
     ·by_cases hgt:y[n]<x[n]
      ·have h2:=qge lb' hy hx hd.symm hgt;have h3:¬natV x<natV y:=by omega
       simp[qc9,h0,h1,h5,e1,p1,hx,hy,u32,hlt,hgt,cmpN,h2,h3,i64]
      ·have e2:IntKind.i64.wrap ((n:Int)-1)=(n:Int)-1:=by rw[wrap_i64]<;>omega
       simp[qc9,h0,h1,h5,e1,p1,hx,hy,u32,hlt,hgt,e2];refine⟨n,by omega,rfl,rfl,by omega,rfl,?_⟩;rw[List.drop_eq_getElem_cons hx,List.drop_eq_getElem_cons hy,hd]
       congr 1
       omega
end Go.Abs
namespace Go.Abs
theorem qahb : prog.fn qll=some qd6:=by rfl
def bitL (n:Nat):Nat:=if n=0 then 0 else Nat.log2 n+1
theorem qaja : ∀i:Fin 256,str_0[i.val]?=some (UInt8.ofNat (bitL i.val)):=by decide +kernel
theorem q6z {i:Nat}(h:i<256):str_0[i]?=some (UInt8.ofNat (bitL i)):=qaja ⟨i,h⟩
theorem qaep {i:Nat}(h:i<256):bitL i<=8:=by
 have:∀i:Fin 256,bitL i.val<=8:=by decide +kernel
 exact this ⟨i,h⟩
theorem qh0 {n k:Nat}(h:2^k<=n):bitL n=bitL (n/2^k)+k:=by
 have h0:0<2^k:=Nat.two_pow_pos k;have h1:n≠0:=by omega
 have h2:n/2^k≠0:=by
  have:=(Nat.le_div_iff_mul_le h0 (x:=1) (y:=n)).2 (by omega);omega
 unfold bitL;rw[if_neg h1,if_neg h2];have:Nat.log2 n=Nat.log2 (n/2^k)+k:=by
  rw[Nat.log2_eq_iff h1];have h3:=(Nat.log2_eq_iff h2).1 rfl;rw[Nat.pow_add,show Nat.log2 (n/2^k)+k+1=(Nat.log2 (n/2^k)+1)+k by omega,Nat.pow_add];exact⟨(Nat.le_div_iff_mul_le h0).1 h3.1,(Nat.div_lt_iff_lt_mul h0).1 h3.2⟩
 omega
theorem q1q {n b:Nat}(h0:n≠0)(h1:2^b<=n)(h2:n<2^(b+1)):bitL n=b+1:=by
 unfold bitL;rw[if_neg h0,(Nat.log2_eq_iff h0).2 ⟨h1,h2⟩]
theorem qa0 {n:Nat}(h:n≠0):2^(bitL n-1)<=n/\n<2^bitL n/\0<bitL n:=by
 unfold bitL;rw[if_neg h];have:=(Nat.log2_eq_iff h).1 rfl;exact⟨this.1,this.2,by omega⟩
theorem pow32 (n:Nat):4294967296^n=2^(32*n):=by rw[Nat.pow_mul]
theorem q8r {l:List Nat}{t:Nat}(hl:Li l)(ht:t≠0):bitL (natV (l++[t]))=32*l.length+bitL t:=by
 have h1:=qao hl;obtain⟨h2,h3,h4⟩:=qa0 ht;rw[qb0];simp only[natV,Nat.mul_zero,Nat.add_zero];rw[pow32]at h1 ⊢;have e1:2^(32*l.length)*t ≥ 2^(32*l.length)*2^(bitL t-1):=Nat.mul_le_mul_left _ h2;have e2:2^(32*l.length)*(t+1)<=2^(32*l.length)*2^bitL t:=Nat.mul_le_mul_left _ h3;rw[<-Nat.pow_add]at e1 e2;rw[Nat.mul_add,Nat.mul_one]at e2;have hp:=Nat.two_pow_pos (32*l.length+(bitL t-1));have:=q1q (n:=natV l+2^(32*l.length)*t) (b:=32*l.length+(bitL t-1)) (by omega) (by omega) (by rw[show 32*l.length+(bitL t-1)+1=32*l.length+bitL t by omega];omega);omega
theorem qwv {t:Nat}(h:t<4294967296):bitL t<=32:=by
 unfold bitL;split
 ·omega
 ·rename_i h0;have:=(Nat.log2_lt h0 (k:=32)).2 (by omega);omega
attribute [local simp] qnd qjl stepL gd qbf
theorem qt3 (x k:Nat):Int.fdiv (x:Int) (k:Int)=((x/k:Nat):Int):=by
 rw[Int.fdiv_eq_ediv_of_nonneg _ (by omega)];rfl
theorem q91 (x:Nat):Int.fdiv (x:Int) 65536=((x/65536:Nat):Int):=qt3 x 65536
theorem q8a (x:Nat):Int.fdiv (x:Int) 256=((x/256:Nat):Int):=qt3 x 256
theorem qai4 {n:Int}(h1:0<=n)(h2:n<256):IntKind.wrap .u8 n=n:=by
 simp only[IntKind.wrap,IntKind.bits,IntKind.signed];simp;omega
theorem qag3 {y:Nat}(h:y<256):((UInt8.ofNat (bitL y)).toNat:Int)=bitL y:=by
 have:=qaep h;simp;omega
@[simp] theorem qahp : IntKind.u32.bits=32:=rfl
@[simp] theorem q8q : IntKind.u64.bits=64:=rfl
@[simp] theorem qapq : IntKind.i64.bits=64:=rfl
theorem w8 : IntKind.i64.wrap 8=8:=by decide
theorem w24 : IntKind.i64.wrap 24=24:=by decide
set_option maxHeartbeats 1000000 in
theorem q81 (x:Nat)(hx:x<4294967296):CQ prog qll [u32 x] (i64 (bitL x)):=by
 refine qaf qahb fun H=>?_
 have fin':∀(y k:Nat),y<256->k<=24->bitL x=bitL y+k->IntKind.i64.wrap ((k:Int)+IntKind.i64.wrap (((UInt8.ofNat (bitL y)).toNat:Nat):Int))=bitL x:=by
  intro y k hy hk he;have:=qaep hy;rw[qag3 hy,wrap_i64 (n:=(bitL y:Int)) (by omega) (by omega),wrap_i64 (by omega) (by omega),he];omega
 have u8':∀y:Nat,y<256->IntKind.u8.wrap (y:Int)=y:=fun y hy=>qai4 (by omega) (by omega)
 by_cases h1:x<65536
 ·have e1:¬((65536:Int)<=x):=by omega
  by_cases h2:x<256
  ·have e2:¬((256:Int)<=x):=by omega
   have:=fin' x 0 h2 (by omega) rfl;simp[u32,e1,e2,u8' x h2,q6z h2,i64];simpa using this
  ·have e2:((256:Int)<=x):=by omega
   have⟨y,hy⟩:∃y,y=x/256:=⟨_,rfl⟩
   have f1:Int.fdiv (x:Int) 256=(y:Int):=by rw[hy];exact q8a x
   have h3:y<256:=by omega
   have:=fin' y 8 h3 (by omega) (by rw[hy];exact qh0 (k:=8) (by omega));simp[u32,e1,e2,f1,w8,u8' _ h3,q6z h3,i64];simpa using this
 ·have e1:((65536:Int)<=x):=by omega
  have⟨y,hy⟩:∃y,y=x/65536:=⟨_,rfl⟩
  have f1:Int.fdiv (x:Int) 65536=(y:Int):=by rw[hy];exact q91 x
  have he:bitL x=bitL y+16:=by rw[hy];exact qh0 (k:=16) (by omega)
  by_cases h2:y<256
  ·have e2:¬((256:Int)<=y):=by omega
   have:=fin' y 16 h2 (by omega) he;simp[u32,e1,e2,f1,u8' _ h2,q6z h2,i64];simpa using this
  ·have e2:((256:Int)<=y):=by omega
   have⟨z,hz⟩:∃z,z=y/256:=⟨_,rfl⟩
   have f2:Int.fdiv (y:Int) 256=(z:Int):=by rw[hz];exact q8a y
   have h3:z<256:=by omega
   have he2:bitL y=bitL z+8:=by rw[hz];exact qh0 (k:=8) (by omega)
   have:=fin' z 24 h3 (by omega) (by rw[he,he2]);simp[u32,e1,e2,f1,f2,w24,u8' _ h3,q6z h3,i64];simpa using this
attribute [local simp] qnd qjl stepL gd
theorem qwa : prog.fn qps=some qgi:=by rfl
@[simp] theorem qapi (g:Nat)(hg:(prog.fn g).elim true (fun f=>!f.raw)=true)(H:Heap)(l:List Nat):prep prog g H [lim l]=some ([lim l],H):=by
 unfold prep;cases hq:prog.fn g with
 |none=>rfl
 |some f=>rw[hq]at hg;simp at hg;simp[hg]
theorem qyf (l:List Nat):l=[]\/∃k t,l=k++[t]:=by
 cases l with
 |nil=>exact .inl rfl
 |cons x xs=>exact .inr ⟨(x :: xs).dropLast,(x :: xs).getLast (by simp),(List.dropLast_concat_getLast (by simp)).symm⟩
set_option maxHeartbeats 1000000 in
theorem qnh (a:List Nat)(ha:a.length<=100000000)(la:Li a):CQ prog qps [lim a] (i64 (bitL (natV a))):=by
 refine qaf qwa fun H=>?_
 simp;refine qaa rfl rfl (quu H a) (qbx a (by omega)) ?_;rw[<-qlk a];have ta:=qoy a;have la':=la.trimL;have hla:(trimL a).length<=100000000:=by unfold trimL;simp;omega
 generalize trimL a=x at *
 rcases qyf x with rfl|⟨k,t,rfl⟩
 ·simp[lim,natV,bitL,i64]
 ·have hk:k.length<=100000000:=by simp at hla;omega
  have ht:t≠0:=ta t (by simp);have ht2:t<4294967296:=la' t (by simp);have lk:Li k:=fun y hy=>la' y (by simp[hy])
  have e1:¬((k.length:Int)+1=0):=by omega
  have e2:IntKind.i64.wrap (k.length:Int)=k.length:=by rw[wrap_i64]<;>omega
  have e3:IntKind.i64.wrap (32*(k.length:Int))=32*k.length:=by rw[wrap_i64]<;>omega
  simp[lim,e1,e2,e3];refine qaa rfl rfl (vs:=[u32 t]) rfl (q81 t ht2) ?_;have e4:IntKind.i64.wrap (32*(k.length:Int)+bitL t)=bitL (natV (k++[t])):=by
   have:=qwv ht2;rw[q8r lk ht,wrap_i64]<;>omega
  simp[i64,e4]
end Go.Abs
