/- Parts of the proof: FpCode0, FpCode1, FpCode2, FpCode3, FpCode4, FpCode5, FpCode6, FpCode7, FpCode8, FpCode9, FpCode10, FpCode11, FpFuns, FpRules, FpProg, FpStpEq, FpWK, FpWX. -/
import Derived.Test.YtfioikimlnlcbaaDoorF0
namespace Go.Abs
@[simp] def qd7 : AFn:=nG [(.tmp 2)] (nS (nF [oU 1 3 0,oZ 2 false]) (nS (nS (nF [oQ 4 1 1,oJ 5 4,oT 6 5,oO 7 .eql 6 0]) (nC 7 (nR [oQ 8 0 1,oJ 9 8,oW 10 9,mV 11 10,gT 12 11 (nA 2 1),oH 13 11 false 1 12,gT 14 11 (nX .eql 13 0),oY 15 11 14,mV 2 15]) .skip)) (nS (nS (nF [oQ 16 1 1,oJ 17 16,oT 18 17,oO 19 .gtr 18 256,mV 20 19,gF 21 20 (nA 1 1),oG 22 20 false 1 21,gF 23 20 (nA 1 1),oG 24 20 false 1 23,gF 25 20 (.len (.t 24)),gF 26 20 (nX .sub 25 1),
 gF 27 20 (.iaddr 1 (.t 22) (.t 26)),oG 28 20 false 1 27,gF 29 20 (.bin .num .eql (.t 28) (.c (.int .u32 0))),oX 30 20 29,mV 31 30,gF 32 31 (nA 1 1),oG 33 31 false 1 32,gF 34 31 (.iaddr 1 (.t 33) (.c (.int .i64 0))),oG 35 31 false 1 34,gF 36 31 (.bin .num .and (.t 35) (.c (.int .u32 1))),gF 37 31 (.bin .num .eql (.t 36) (.c (.int .u32 0))),oX 38 31 37,mV 39 38,gF 40 39 (nA 2 1),oG 41 39 false 1 40,gF 42 39 (nX .lss 41 (-16384)),oX 43 39 42,mV 44 43,gF 45 44 (nA 2 1),oG 46 44 false 1 45,gF 47 44 (nX .gtr 46 16384),
 oX 48 44 47]) (nC 48 (nR [oZ 2 false]) .skip)) (nS (nF [oQ 49 1 1,oJ 50 49,oA1 51 49 50,mV 3 51]) (nR [mV 52 3,oO 53 .leq 52 4096,mV 54 53,oF 55 54 3,gT 56 54 (nA 2 1),oH 57 54 false 1 56,gT 58 54 (nY .add 55 57),gT 59 54 (nX .leq 58 16384),oY 60 54 59,mV 2 60])))))
@[simp] def qfy : AFn:=nG [(.tmp 4)] (nS (nF [oU 2 3 0,oU 3 3 1,oP 4 (nV 0)]) (nS (nT [oI 7 3 2,oA1 8 54 7,oI 9 3 3,oB1 10 54 9,mV 5 8,mV 6 10]) (nS (nS (nF [mV 11 5,mV 12 6,oN 13 .neq 11 12]) (nC 13 (nS (nS (nF [mV 14 5,mV 15 6,oN 16 .lss 14 15]) (nC 16 (nR [oP 4 (nV (-1))]) .skip)) (nR [oP 4 (nV 1)])) .skip)) (nS (nS (nF [mV 17 5,oO 18 .eql 17 0]) (nC 18 (nR [oP 4 (nV 0)]) .skip)) (nS (nS (nT [oI 19 3 2,
 oA1 20 55 19,oI 21 3 3,oB1 22 55 21,oN 23 .neq 20 22]) (nC 23 (nS (nS (nT [oI 24 3 2,oA1 25 55 24,oI 26 3 3,oB1 27 55 26,oN 28 .lss 25 27,mV 29 5,oO 30 .gtr 29 0,oP 31 (.bin .bool .eql (.t 28) (.t 30))]) (nC 31 (nR [oP 4 (nV (-1))]) .skip)) (nR [oP 4 (nV 1)])) .skip)) (nS (nT [oI 32 3 2,oI 33 3 3,oA1 34 57 33,oB2 35 56 32 34,oB1 36 54 35,mV 4 36]) .ret))))))
@[simp] def qd8 : AFn:=nG [(.tmp 4)] (nS (nF [oU 2 3 0,oU 3 3 1,oZ 4 false]) (nR [oQ 5 0 2,oJ 6 5,oQ 7 0 3,oJ 8 7,oP 9 (.bin .bool .eql (.t 6) (.t 8)),mV 10 9,gT 11 10 (nA 2 2),oH 12 10 false 1 11,gT 13 10 (nA 2 3),oH 14 10 false 1 13,gT 15 10 (nY .eql 12 14),oY 16 10 15,mV 17 16,gT 18 17 (nA 1 2),oH 19 17 false 1 18,gT 20 17 (.len (.t 19)),gT 21 17 (nA 1 3),oH 22 17 false 1 21,gT 23 17 (.len (.t 22)),gT 24 17 (nY .eql 20 23),oY 25 17 24,mV 26 25,gT 27 26 (nA 1 2),oH 28 26 false 1 27,gT 29 26 (nA 1 3),
 oH 30 26 false 1 29,oD2 31 26 63 28 30,gT 32 26 (nX .eql 31 0),oY 33 26 32,mV 4 33]))
def qdc : AC:=(nS (nS (nF [mV 18 4,oP 19 (.bin .num .gtr (.t 18) (.c (.int .u32 0)))]) (nC 19 .skip (.exit 0))) (nS (.block 1 (nF [mV 22 3,oO 23 .add 22 1,mV 3 23])) (nF [mV 20 4,oP 21 (.bin .num .shr (.t 20) (.c (.int .u64 1))),mV 4 21])))
@[simp] def qe1 : AFn:=nG [(.tmp 2)] (nS (nF [oP 2 (nV 0)]) (nS (nS (nF [mV 5 0,oT 6 5,oO 7 .eql 6 0]) (nC 7 (nR [oP 2 (nV 0)]) .skip)) (nS (nF [mV 8 0,oT 9 8,oO 10 .sub 9 1,oP 11 (.bin .num .mul (.c (.int .i64 32)) (.t 10)),mV 3 11]) (nS (nS (nF [mV 12 0,mV 13 0,oT 14 13,oO 15 .sub 14 1,oV 16 1 12 15,oJ 17 16,mV 4 17]) (.block 0 (.loop qdc))) (nR [mV 24 3,mV 2 24])))))
@[simp] def qe2 : AFn:=nG [(.tmp 2)] (nS (nF [oU 1 3 0,oP 2 (nV 0)]) (nS (nS (nF [oQ 3 1 1,oJ 4 3,oT 5 4,oO 6 .eql 5 0]) (nC 6 (nR [oP 2 (nV 0)]) .skip)) (nS (nS (nF [oQ 7 0 1,oJ 8 7]) (nC 8 (nR [oP 2 (nV (-1))]) .skip)) (nR [oP 2 (nV 1)]))))
@[simp] def qfu : AFn:=nG [(.tmp 2)] (nS (nF [oU 1 3 0,oP 2 (nV 0)]) (nS (nS (nF [oQ 3 1 1,oJ 4 3,oT 5 4,oO 6 .eql 5 0]) (nC 6 (nR [oP 2 (nV 0)]) .skip)) (nS (nT [oQ 7 1 1,oJ 8 7,oA1 9 49 8,oQ 10 2 1,oJ 11 10,oN 12 .add 9 11,mV 2 12]) .ret)))
@[simp] def qfv : AFn:=nG [(.cell 4 true 3)] (nS (nF [oU 2 3 0,oU 3 3 1,oM 4]) (nS (nS (nF [oQ 8 1 2,oJ 9 8,oT 10 9,oO 11 .eql 10 0]) (nC 11 (nR [oI 12 3 3,oK 3 4 12 false]) .skip)) (nS (nS (nF [oQ 13 1 3,oJ 14 13,oT 15 14,oO 16 .eql 15 0]) (nC 16 (nR [oI 17 3 2,oK 3 4 17 false]) .skip)) (nS (nF [oQ 18 2 2,oJ 19 18,oQ 20 2 3,oJ 21 20,oP 22 (.min (.t 19) (.t 21)),mV 5 22]) (nS (nT [oQ 23 1 2,oJ 24 23,oQ 25 2 2,oJ 26 25,mV 27 5,oN 28 .sub 26 27,oA2 29 84 24 28,oQ 30 1 3,
 oJ 31 30,oQ 32 2 3,oJ 33 32,mV 34 5,oN 35 .sub 33 34,oB2 36 84 31 35,mV 6 29,mV 7 36]) (nS (nS (nF [oQ 37 0 2,oJ 38 37,oQ 39 0 3,oJ 40 39,oP 41 (.bin .bool .eql (.t 38) (.t 40))]) (nC 41 (nS (nT [oQ 42 0 2,oJ 43 42,mV 44 6,mV 45 7,oA2 46 86 44 45,mV 47 5,oB3 48 85 43 46 47,oK 3 4 48 true]) .ret) .skip)) (nS (nS (nF [mV 49 6,mV 50 7,oA2 51 63 49 50,oO 52 .geq 51 0]) (nC 52 (nS (nT [oQ 53 0 2,oJ 54 53,mV 55 6,mV 56 7,oA2 57 87 55 56,mV 58 5,oB3 59 85 54 57 58,oK 3 4 59 true]) .ret) .skip)) (nS (nT [oQ 60 0 3,oJ 61 60,
 mV 62 7,mV 63 6,oA2 64 87 62 63,mV 65 5,oB3 66 85 61 64 65,oK 3 4 66 true]) .ret))))))))
@[simp] def qfw : AFn:=nG [(.cell 2 true 3)] (nS (nF [oU 1 3 0,oM 2]) (nR [oQ 3 0 1,oJ 4 3,oW 5 4,mV 6 5,gT 7 6 (nA 1 1),oH 8 6 false 1 7,gT 9 6 (.len (.t 8)),gT 10 6 (nX .gtr 9 0),oY 11 6 10,oQ 12 1 1,oJ 13 12,oQ 14 2 1,oJ 15 14,oP 16 (.build nD [(0,1,(.t 11)),(1,1,(.t 13)),(2,1,(.t 15))]),oK 3 2 16 false]))
@[simp] def qd2 : AFn:=nG [(.tmp 4)] (nS (nF [oU 2 7 0,oU 3 7 1,oZ 4 false]) (nR [oQ 5 6 2,oJ 6 5,oQ 7 6 3,oJ 8 7,oP 9 (.bin .bool .eql (.t 6) (.t 8)),mV 10 9,gT 11 10 (nA 0 2),oH 12 10 true 3 11,gT 13 10 (nA 0 3),oH 14 10 true 3 13,oD2 15 10 23 12 14,oY 16 10 15,mV 17 16,gT 18 17 (nA 3 2),oH 19 17 true 3 18,gT 20 17 (nA 3 3),oH 21 17 true 3 20,oD2 22 17 23 19 21,oY 23 17 22,mV 4 23]))
def qa3 : AC:=(nS (nS (nF [mV 19 5,oO 20 .geq 19 0]) (nC 20 .skip (.exit 0))) (nS (.block 1 (nS (nS (nT [mV 23 0,mV 24 5,oV 25 1 23 24,oJ 26 25,mV 27 1,mV 28 5,oV 29 1 27 28,oJ 30 29,oN 31 .lss 26 30]) (nC 31 (nR [oP 4 (nV (-1))]) .skip)) (nS (nT [mV 32 0,mV 33 5,oV 34 1 32 33,oJ 35 34,mV 36 1,mV 37 5,oV 38 1 36 37,oJ 39 38,oN 40 .gtr 35 39]) (nC 40 (nR [oP 4 (nV 1)]) .skip)))) (nF [mV 21 5,oO 22 .sub 21 1,mV 5 22])))
@[simp] def qdb : AFn:=nG [(.tmp 4)] (nS (nF [oP 4 (nV 0)]) (nS (nS (nF [mV 6 0,oT 7 6,mV 8 1,oT 9 8,oN 10 .neq 7 9]) (nC 10 (nS (nS (nF [mV 11 0,oT 12 11,mV 13 1,oT 14 13,oN 15 .lss 12 14]) (nC 15 (nR [oP 4 (nV (-1))]) .skip)) (nR [oP 4 (nV 1)])) .skip)) (nS (nS (nF [mV 16 0,oT 17 16,oO 18 .sub 17 1,mV 5 18]) (.block 0 (.loop qa3))) (nR [oP 4 (nV 0)]))))
@[simp] def qdl : AFn:=nG [(.tmp 4)] (nS (nF [oU 2 7 0,oU 3 7 1,oZ 4 false]) (nS (nS (nF [oI 5 7 2,oA1 6 70 5,oW 7 6,mV 8 7,oG 9 8 true 7 3,oC1 10 8 70 9,gF 11 8 (nU 10),oX 12 8 11,mV 13 12,gF 14 13 (nA 6 2),oG 15 13 false 1 14,oX 16 13 15]) (nC 16 (nR [oI 17 7 2,oA1 18 70 17,mV 19 18,oH 20 19 true 7 3,oD1 21 19 70 20,oY 22 19 21,mV 23 22,gT 24 23 (nA 6 3),oH 25 23 false 1 24,oY 26 23 25,mV 4 26]) .skip)) (nR [oQ 27 6 3,oJ 28 27,mV 29 28,gF 30 29 (nA 0 3),oG 31 29 true 3 30,gF 32 29 (nA 0 2),
 oG 33 29 true 3 32,oC2 34 29 18 31 33,gF 35 29 (nX .leq 34 0),oE 36 29 35,gT 37 36 (nA 3 2),oH 38 36 true 3 37,gT 39 36 (nA 3 3),oH 40 36 true 3 39,oD2 41 36 18 38 40,gT 42 36 (nX .leq 41 0),gF 43 29 (.pick (.t 36) (.t 42) (.c (.bool false))),oX 44 29 43,mV 4 44])))
@[simp] def qd1 : AFn:=nG [(.tmp 2)] (nS (nF [oU 1 7 0,oZ 2 false]) (nS (nS (nF [oQ 3 6 1,oJ 4 3]) (nC 4 (nR [oQ 5 0 1,oI 6 3 5,oA1 7 91 6,mV 8 7,gT 9 8 (nA 3 1),oH 10 8 true 3 9,oD1 11 8 91 10,oY 12 8 11,mV 2 12]) .skip)) (nR [oQ 13 0 1,oI 14 3 13,oA1 15 12 14,mV 16 15,gT 17 16 (nA 3 1),oH 18 16 true 3 17,oD1 19 16 12 18,oY 20 16 19,mV 21 20,gT 22 21 (nA 0 1),oH 23 21 true 3 22,gT 24 21 (nA 3 1),oH 25 21 true 3 24,oD2 26 21 18 23 25,gT 27 21 (nX .leq 26 0),
 oY 28 21 27,mV 2 28])))
@[simp] def qfx : AFn:=nG [(.cell 2 true 3)] (nS (nF [oM 2]) (nS (nF [mV 4 0,oP 5 (.conv .u64 (.t 4)),mV 3 5]) (nS (nS (nF [mV 6 0,oO 7 .lss 6 0]) (nC 7 (nF [mV 8 3,oP 9 (.bin .num .sub (.c (.int .u64 0)) (.t 8)),mV 3 9]) .skip)) (nR [mV 10 0,oO 11 .lss 10 0,mV 12 3,oP 13 (.bin .num .and (.t 12) (.c (.int .u64 4294967295))),oP 14 (.conv .u32 (.t 13)),mV 15 3,oP 16 (.bin .num .shr (.t 15) (.c (.int .u64 32))),oP 17 (.conv .u32 (.t 16)),oP 18 (.bslice 1 2 (.int .u32 0) [(0,(.t 14)),(1,(.t 17))]),oP 19 (.call (.f 85) [(.t 11),(.t 18),(.c (.int .i64 0))]),
 oK 3 2 19 false]))))
def qda : AC:=(nS (nS (nF [mV 12 7,mV 13 0,oT 14 13,oN 15 .lss 12 14]) (nC 15 .skip (.exit 0))) (nS (.block 1 (nS (nF [mV 18 0,mV 19 7,oV 20 1 18 19,oJ 21 20,oP 22 (.conv .u64 (.t 21)),mV 23 1,oO 24 .rem 23 32,oP 25 (.conv .u64 (.t 24)),oN 26 .shl 22 25,mV 27 6,oN 28 .or 26 27,mV 8 28]) (nS (nF [mV 29 5,mV 30 8,oP 31 (.bin .num .and (.t 30) (.c (.int .u64 4294967295))),oP 32 (.conv .u32 (.t 31)),oP 33 (.bslice 1 1 (.int .u32 0) [(0,(.t 32))]),oP 34 (.append 1 4 (.t 29) (.t 33)),mV 5 34]) (nF [mV 35 8,oP 36 (.bin .num .shr (.t 35) (.c (.int .u64 32))),
 mV 6 36])))) (nF [mV 16 7,oO 17 .add 16 1,mV 7 17])))
@[simp] def qe0 : AFn:=nG [(.tmp 4)] (nS (nF [oP 4 (.mv (.c .nil))]) (nS (nF [mV 9 1,oO 10 .quo 9 32,oP 11 (.mkslice 1 4 (.int .u32 0) (.t 10) (.t 10)),mV 5 11]) (nS (nF [oP 6 (.mv (.c (.int .u64 0)))]) (nS (nS (nF [oP 7 (nV 0)]) (.block 0 (.loop qda))) (nR [mV 37 5,mV 38 6,oP 39 (.conv .u32 (.t 38)),oP 40 (.bslice 1 1 (.int .u32 0) [(0,(.t 39))]),oP 41 (.append 1 4 (.t 37) (.t 40)),oA1 42 101 41,mV 4 42])))))
@[simp] def qgi : AFn:=nG [(.cell 6 true 3)] (nS (nF [oM 6]) (nS (nF [mV 8 1,oA1 9 101 8,mV 1 9]) (nS (nS (nF [mV 10 1,oT 11 10,oO 12 .eql 11 0]) (nC 12 (nR [oP 13 (.build nD []),oK 3 6 13 false]) .skip)) (nS (nF [mV 14 1,oA1 15 102 14,mV 7 15]) (nR [mV 16 0,mV 17 1,mV 18 7,oA2 19 103 17 18,mV 20 2,mV 21 7,oN 22 .add 20 21,oP 23 (.build nD [(0,1,(.t 16)),(1,1,(.t 19)),(2,1,(.t 22))]),oK 3 6 23 false])))))
def qbs : AC:=(nS (nS (nF [mV 9 7,mV 10 0,oT 11 10,oN 12 .lss 9 11,mV 13 12,oE 14 13 7,oE 15 13 1,gF 16 13 (.len (.t 15)),gF 17 13 (nY .lss 14 16),oX 18 13 17]) (nC 18 .skip (.exit 0))) (nS (.block 1 (nS (nF [mV 21 6,mV 8 21]) (nS (nS (nF [mV 22 7,mV 23 0,oT 24 23,oN 25 .lss 22 24]) (nC 25 (nF [mV 26 8,mV 27 0,mV 28 7,oV 29 1 27 28,oJ 30 29,oP 31 (.conv .u64 (.t 30)),oN 32 .add 26 31,mV 8 32]) .skip)) (nS (nS (nF [mV 33 7,mV 34 1,oT 35 34,oN 36 .lss 33 35]) (nC 36 (nF [mV 37 8,
 mV 38 1,mV 39 7,oV 40 1 38 39,oJ 41 40,oP 42 (.conv .u64 (.t 41)),oN 43 .add 37 42,mV 8 43]) .skip)) (nS (nF [mV 44 5,mV 45 8,oP 46 (.bin .num .and (.t 45) (.c (.int .u64 4294967295))),oP 47 (.conv .u32 (.t 46)),oP 48 (.bslice 1 1 (.int .u32 0) [(0,(.t 47))]),oP 49 (.append 1 4 (.t 44) (.t 48)),mV 5 49]) (nF [mV 50 8,oP 51 (.bin .num .shr (.t 50) (.c (.int .u64 32))),mV 6 51])))))) (nF [mV 19 7,oO 20 .add 19 1,mV 7 20])))
@[simp] def qez : AFn:=nG [(.tmp 4)] (nS (nF [oP 4 (.mv (.c .nil))]) (nS (nF [oP 5 (.mv (.c .nil))]) (nS (nF [oP 6 (.mv (.c (.int .u64 0)))]) (nS (nS (nF [oP 7 (nV 0)]) (.block 0 (.loop qbs))) (nR [mV 52 5,mV 53 6,oP 54 (.conv .u32 (.t 53)),oP 55 (.bslice 1 1 (.int .u32 0) [(0,(.t 54))]),oP 56 (.append 1 4 (.t 52) (.t 55)),oA1 57 101 56,mV 4 57])))))
def qb5 : AC:=(nS (nS (nF [mV 10 7,mV 11 0,oT 12 11,oN 13 .lss 10 12]) (nC 13 .skip (.exit 0))) (nS (.block 1 (nS (nF [mV 16 6,mV 8 16]) (nS (nS (nF [mV 17 7,mV 18 1,oT 19 18,oN 20 .lss 17 19]) (nC 20 (nF [mV 21 8,mV 22 1,mV 23 7,oV 24 1 22 23,oJ 25 24,oP 26 (.conv .u64 (.t 25)),oN 27 .add 21 26,mV 8 27]) .skip)) (nS (nF [mV 28 0,mV 29 7,oV 30 1 28 29,oJ 31 30,oP 32 (.conv .u64 (.t 31)),oP 33 (.bin .num .add (.t 32) (.c (.int .u64 4294967296))),mV 34 8,oN 35 .sub 33 34,mV 9 35]) (nS (nF [mV 36 5,mV 37 9,
 oP 38 (.bin .num .and (.t 37) (.c (.int .u64 4294967295))),oP 39 (.conv .u32 (.t 38)),oP 40 (.bslice 1 1 (.int .u32 0) [(0,(.t 39))]),oP 41 (.append 1 4 (.t 36) (.t 40)),mV 5 41]) (nF [mV 42 9,oP 43 (.bin .num .shr (.t 42) (.c (.int .u64 32))),oP 44 (.bin .num .sub (.c (.int .u64 1)) (.t 43)),mV 6 44])))))) (nF [mV 14 7,oO 15 .add 14 1,mV 7 15])))
@[simp] def qd6 : AFn:=nG [(.tmp 4)] (nS (nF [oP 4 (.mv (.c .nil))]) (nS (nF [oP 5 (.mv (.c .nil))]) (nS (nF [oP 6 (.mv (.c (.int .u64 0)))]) (nS (nS (nF [oP 7 (nV 0)]) (.block 0 (.loop qb5))) (nR [mV 45 5,oA1 46 101 45,mV 4 46])))))
@[simp] def qes : AFn:=nG [(.tmp 2)] (nS (nF [oU 1 3 0,oZ 2 false]) (nR [oQ 3 0 1,oJ 4 3,oW 5 4,mV 6 5,gT 7 6 (nA 1 1),oH 8 6 false 1 7,gT 9 6 (.len (.t 8)),gT 10 6 (nX .eql 9 0),oY 11 6 10,mV 12 11,gT 13 12 (nA 2 1),oH 14 12 false 1 13,gT 15 12 (nX .eql 14 0),oY 16 12 15,mV 2 16]))
def qcg : AC:=(nS (nS (nF [mV 6 3,oO 7 .gtr 6 0,mV 8 7,oF 9 8 0,oF 10 8 3,gT 11 8 (nX .sub 10 1),gT 12 8 (.iaddr 1 (.t 9) (.t 11)),oH 13 8 false 1 12,gT 14 8 (.bin .num .eql (.t 13) (.c (.int .u32 0))),oY 15 8 14]) (nC 15 .skip (.exit 0))) (.block 1 (nF [mV 16 3,oO 17 .sub 16 1,mV 3 17])))
@[simp] def qey : AFn:=nG [(.tmp 2)] (nS (nF [oP 2 (.mv (.c .nil))]) (nS (nF [mV 4 0,oT 5 4,mV 3 5]) (nS (.block 0 (.loop qcg)) (nR [oP 18 (.bslice 1 0 (.int .u32 0) []),mV 19 0,mV 20 3,oP 21 (.slice 1 (.t 19) none (some (.t 20)) none),oP 22 (.append 1 4 (.t 18) (.t 21)),mV 2 22]))))
def qc0 : AC:=(nS (nS (nF [mV 4 0,mV 5 3,oO 6 .quo 5 32,oV 7 1 4 6,oJ 8 7,mV 9 3,oO 10 .rem 9 32,oP 11 (.conv .u64 (.t 10)),oN 12 .shr 8 11,oP 13 (.bin .num .and (.t 12) (.c (.int .u32 1))),oP 14 (.bin .num .eql (.t 13) (.c (.int .u32 0)))]) (nC 14 .skip (.exit 0))) (.block 1 (nF [mV 15 3,oO 16 .add 15 1,mV 3 16])))
@[simp] def qd4 : AFn:=nG [(.tmp 2)] (nS (nF [oP 2 (nV 0)]) (nS (nF [oP 3 (nV 0)]) (nS (.block 0 (.loop qc0)) (nR [mV 17 3,mV 2 17]))))
def qb4 : AC:=(nS (nS (nF [mV 17 6,mV 18 0,oT 19 18,oN 20 .lss 17 19]) (nC 20 .skip (.exit 0))) (nS (.block 1 (nS (nF [mV 23 0,mV 24 6,oV 25 1 23 24,oJ 26 25,oP 27 (.conv .u64 (.t 26)),mV 7 27]) (nS (nS (nF [mV 28 6,oO 29 .add 28 1,mV 30 0,oT 31 30,oN 32 .lss 29 31]) (nC 32 (nF [mV 33 7,mV 34 0,mV 35 6,oO 36 .add 35 1,oV 37 1 34 36,oJ 38 37,oP 39 (.conv .u64 (.t 38)),oP 40 (.bin .num .shl (.t 39) (.c (.int .u64 32))),oN 41 .or 33 40,mV 7 41]) .skip)) (nF [mV 42 5,mV 43 7,mV 44 1,oO 45 .rem 44 32,oP 46 (.conv .u64 (.t 45)),
 oN 47 .shr 43 46,oP 48 (.bin .num .and (.t 47) (.c (.int .u64 4294967295))),oP 49 (.conv .u32 (.t 48)),oP 50 (.bslice 1 1 (.int .u32 0) [(0,(.t 49))]),oP 51 (.append 1 4 (.t 42) (.t 50)),mV 5 51])))) (nF [mV 21 6,oO 22 .add 21 1,mV 6 22])))
@[simp] def qd5 : AFn:=nG [(.tmp 4)] (nS (nF [oP 4 (.mv (.c .nil))]) (nS (nS (nF [mV 8 1,oO 9 .quo 8 32,mV 10 0,oT 11 10,oN 12 .geq 9 11]) (nC 12 (nR [oP 4 (.mv (.c .nil))]) .skip)) (nS (nF [mV 13 0,mV 14 1,oO 15 .quo 14 32,oP 16 (.slice 1 (.t 13) (some (.t 15)) none none),mV 0 16]) (nS (nF [oP 5 (.mv (.c .nil))]) (nS (nS (nF [oP 6 (nV 0)]) (.block 0 (.loop qb4))) (nR [mV 52 5,oA1 53 101 52,mV 4 53]))))))
@[simp] def qc9 : AFn:=nG [(.cell 4 true 7)] (nS (nF [oU 2 2 0,oL 4]) (nS (nS (nF [oI 7 2 2,oA1 8 558 7,oW 9 8,mV 10 9,oE 11 10 1,gF 12 10 (nX .lss 11 8),oX 13 10 12,mV 14 13,oE 15 14 1,gF 16 14 (nX .gtr 15 512),oX 17 14 16]) (nC 17 (nR [oP 18 (.build nI [(6,1,(.c (.bool true)))]),oK 7 4 18 false]) .skip)) (nS (nS (nF [oQ 19 0 2,oJ 20 19,oO 21 .eql 20 0]) (nC 21 (nR [oP 22 (.build nI []),
 oK 7 4 22 false]) .skip)) (nS (nT [oQ 24 0 2,oJ 25 24,oA1 26 560 25,oQ 27 1 2,oJ 28 27,oP 29 (.conv .u64 (.t 28)),mV 30 1,oA3 31 559 26 29 30,mV 23 31,oR 32 0 23,oR 33 1 23,oM 5,oM 6,oK 3 5 32 true,oK 3 6 33 true]) (nS (nS (nF [oQ 34 0 2,oJ 35 34,oO 36 .lss 35 0]) (nC 36 (nS (nT [oI 37 3 6,oA1 38 561 37,oI 39 3 5,oB1 40 561 39,oP 41 (.build nI [(0,3,(.t 38)),(3,3,(.t 40))]),oK 7 4 41 true]) .ret) .skip)) (nR [oI 42 3 5,oI 43 3 6,oP 44 (.build nI [(0,3,(.t 42)),(3,3,(.t 43))]),
 oK 7 4 44 false]))))))
@[simp] def qd3 : AFn:=nG [(.tmp 2)] (nS (nF [oU 1 2 0,oZ 2 false]) (nS (nT [oQ 3 1 1,oJ 4 3,oO 5 .geq 4 1,mV 6 5,gT 7 6 (nA 1 1),oH 8 6 false 1 7,gT 9 6 (nX .leq 8 1073741824),oY 10 6 9,mV 11 10,gT 12 11 (nA 0 1),oH 13 11 false 1 12,gT 14 11 (nX .geq 13 (-1073741824)),oY 15 11 14,mV 16 15,gT 17 16 (nA 0 1),oH 18 16 false 1 17,gT 19 16 (nX .leq 18 1073741824),oY 20 16 19,mV 21 20,gT 22 21 (nA 0 1),oH 23 21 false 1 22,oD1 24 21 560 23,gT 25 21 (nA 1 1),
 oH 26 21 false 1 25,gT 27 21 (.conv .u64 (.t 26)),⟨some 28,.call (.f 565) [(.t 24),(.t 27)],some (21,true),true⟩,gT 29 21 (.bin .num .eql (.t 28) (.c (.int .u64 1))),oY 30 21 29,mV 2 30]) .ret))
def qcf : AC:=(nS (nS (nF [mV 22 11,oO 23 .geq 22 0]) (nC 23 .skip (.exit 0))) (nS (.block 1 (nS (nF [mV 26 9,oP 27 (.bin .num .mul (.c (.int .u64 2)) (.t 26)),mV 28 0,mV 29 11,oN 30 .shr 28 29,oP 31 (.bin .num .and (.t 30) (.c (.int .u64 1))),oN 32 .add 27 31,mV 9 32]) (nS (nF [mV 33 9,mV 34 1,oN 35 .quo 33 34,mV 12 35]) (nS (nF [mV 36 9,mV 37 1,oN 38 .rem 36 37,mV 9 38]) (nS (nF [oP 39 (.bslice 1 0 (.int .u32 0) []),mV 40 8,oP 41 (.append 1 4 (.t 39) (.t 40)),oP 42 (.call (.f 566) [(.t 41),(.c (.int .u64 0))]),mV 8 42]) (nS (nF [mV 43 12,
 oP 44 (.bin .num .eql (.t 43) (.c (.int .u64 1)))]) (nC 44 (nF [mV 45 8,oA1 46 567 45,mV 8 46]) .skip))))))) (nF [mV 24 11,oO 25 .sub 24 1,mV 11 25])))
def qc8 : AC:=(nS (nS (nF [mV 47 8,oA1 48 568 47,mV 49 2,oN 50 .lss 48 49]) (nC 50 .skip (.exit 2))) (.block 3 (nS (nF [mV 51 9,oP 52 (.bin .num .mul (.c (.int .u64 2)) (.t 51)),mV 9 52]) (nS (nF [mV 53 8,oP 54 (.call (.f 566) [(.t 53),(.c (.int .u64 0))]),mV 8 54]) (nS (nS (nF [mV 55 9,mV 56 1,oN 57 .geq 55 56]) (nC 57 (nS (nF [mV 58 9,mV 59 1,oN 60 .sub 58 59,mV 9 60]) (nF [mV 61 8,oA1 62 567 61,mV 8 62])) .skip)) (nF [mV 63 10,oO 64 .sub 63 1,mV 10 64]))))))
def qce : AC:=(nS (nS (nF [mV 76 18,oO 77 .lss 76 32,mV 78 77,oF 79 78 16,oF 80 78 18,gT 81 78 (nY .add 79 80),oF 82 78 2,gT 83 78 (nY .lss 81 82),oY 84 78 83]) (nC 84 .skip (.exit 6))) (nS (.block 7 (nF [mV 87 17,mV 88 8,mV 89 13,mV 90 16,oN 91 .add 89 90,mV 92 18,oN 93 .add 91 92,oA2 94 569 88 93,oP 95 (.conv .u32 (.t 94)),mV 96 18,oN 97 .shl 95 96,oN 98 .or 87 97,mV 17 98])) (nF [mV 85 18,oO 86 .add 85 1,mV 18 86])))
def qcd : AC:=(nS (nS (nF [mV 71 16,mV 72 2,oN 73 .lss 71 72]) (nC 73 .skip (.exit 4))) (nS (.block 5 (nS (nF [oP 17 (.mv (.c (.int .u32 0)))]) (nS (nS (nF [oP 18 (nV 0)]) (.block 6 (.loop qce))) (nF [mV 99 15,mV 100 17,oP 101 (.bslice 1 1 (.int .u32 0) [(0,(.t 100))]),oP 102 (.append 1 4 (.t 99) (.t 101)),mV 15 102])))) (nF [mV 74 16,oO 75 .add 74 32,mV 16 75])))
def qbr : AC:=(nS (nS (nF [mV 103 19,mV 104 13,oN 105 .lss 103 104]) (nC 105 .skip (.exit 8))) (nS (.block 9 (nF [mV 108 14,mV 109 108,oF 110 109 8,oF 111 109 19,oD2 112 109 569 110 111,gT 113 109 (nX .eql 112 0),oY 114 109 113,mV 14 114])) (nF [mV 106 19,oO 107 .add 106 1,mV 19 107])))
@[simp] def qex : AFn:=nG [(.cell 6 true 3),(.cell 7 true 3)] (nS (nF [oM 6,oM 7]) (nS (nF [oP 21 (.bslice 1 0 (.int .u32 0) []),mV 8 21]) (nS (nF [oP 9 (.mv (.c (.int .u64 0)))]) (nS (nF [oP 10 (nV 0)]) (nS (nS (nF [oP 11 (nV 63)]) (.block 0 (.loop qcf))) (nS (.block 2 (.loop qc8)) (nS (nF [mV 65 8,oA1 66 568 65,mV 67 2,oN 68 .sub 66 67,mV 13 68]) (nS (nF [mV 69 9,oP 70 (.bin .num .eql (.t 69) (.c (.int .u64 0))),mV 14 70]) (nS (nF [oP 15 (.mv (.c .nil))]) (nS (nS (nF [oP 16 (nV 0)]) (.block 4 (.loop qcd))) (nS (nS (nF [oP 19 (nV 0)]) (.block 8 (.loop qbr))) (nS (nF [mV 115 15,
 mV 116 10,mV 117 13,oN 118 .add 116 117,oP 119 (.call (.f 570) [(.c (.bool false)),(.t 115),(.t 118)]),oM 20,oK 3 20 119 false]) (nS (nS (nF [mV 120 14]) (nC 120 (nS (nT [oI 121 3 20,oP 122 (.sload true 3 20),⟨none,.storeN 3 (.t 6) (.t 121) [20],none,true⟩,oK 3 7 122 true]) .ret) .skip)) (nS (nT [oI 123 3 20,mV 124 15,oA1 125 571 124,mV 126 10,mV 127 13,oN 128 .add 126 127,oP 129 (.call (.f 570) [(.c (.bool false)),(.t 125),(.t 128)]),oK 3 6 123 true,oK 3 7 129 true]) .ret))))))))))))))
@[simp] def qet : AFn:=nG [(.tmp 2)] (nS (nF [oP 2 (.mv (.c (.int .u64 0)))]) (nS (nS (nF [mV 3 0,oO 4 .lss 3 0]) (nC 4 (nR [mV 5 0,oO 6 .add 5 1,oP 7 (.un .neg (.t 6)),oP 8 (.conv .u64 (.t 7)),oP 9 (.bin .num .add (.t 8) (.c (.int .u64 1))),mV 2 9]) .skip)) (nR [mV 10 0,oP 11 (.conv .u64 (.t 10)),mV 2 11])))
@[simp] def qcz : AFn:=nG [(.cell 2 true 3)] (nS (nF [oU 1 3 0,oM 2]) (nS (nS (nF [oQ 3 1 1,oJ 4 3,oT 5 4,oO 6 .gtr 5 0]) (nC 6 (nF [oQ 7 0 1,oJ 8 7,oW 9 8,oQ 10 0 1,oK 1 10 9 false]) .skip)) (nR [oI 11 3 1,oK 3 2 11 false])))
def qdm : AC:=(nS (nS (nF [mV 5 1,oP 6 (.bin .num .neq (.t 5) (.c (.int .u64 0)))]) (nC 6 .skip (.exit 0))) (.block 1 (nT [mV 7 1,mV 8 0,mV 9 1,oN 10 .rem 8 9,mV 0 7,mV 1 10])))
@[simp] def qfs : AFn:=nG [(.tmp 4)] (nS (nF [oP 4 (.mv (.c (.int .u64 0)))]) (nS (.block 0 (.loop qdm)) (nR [mV 11 0,mV 4 11])))
def qbn : AC:=(nS (nS (nF [mV 10 7,mV 11 0,oT 12 11,oN 13 .lss 10 12]) (nC 13 .skip (.exit 0))) (nS (.block 1 (nS (nF [mV 16 5,mV 17 0,mV 18 7,oV 19 1 17 18,oJ 20 19,oP 21 (.bin .num .shl (.t 20) (.c (.int .u64 1))),mV 22 6,oN 23 .or 21 22,oP 24 (.bslice 1 1 (.int .u32 0) [(0,(.t 23))]),oP 25 (.append 1 4 (.t 16) (.t 24)),mV 5 25]) (nF [mV 26 0,mV 27 7,oV 28 1 26 27,oJ 29 28,oP 30 (.bin .num .shr (.t 29) (.c (.int .u64 31))),mV 6 30]))) (nF [mV 14 7,oO 15 .add 14 1,mV 7 15])))
@[simp] def qc4 : AFn:=nG [(.tmp 4)] (nS (nF [oP 4 (.mv (.c .nil))]) (nS (nF [oP 5 (.mv (.c .nil))]) (nS (nF [mV 8 1,oP 9 (.conv .u32 (.t 8)),mV 6 9]) (nS (nS (nF [oP 7 (nV 0)]) (.block 0 (.loop qbn))) (nS (nS (nF [mV 31 6,oP 32 (.bin .num .neq (.t 31) (.c (.int .u32 0)))]) (nC 32 (nF [mV 33 5,mV 34 6,oP 35 (.bslice 1 1 (.int .u32 0) [(0,(.t 34))]),oP 36 (.append 1 4 (.t 33) (.t 35)),mV 5 36]) .skip)) (nR [mV 37 5,mV 4 37]))))))
@[simp] def qfr : AFn:=nG [(.tmp 2)] (nS (nF [oP 2 (.mv (.c .nil))]) (nS (nS (nF [mV 4 0,oT 5 4,oO 6 .eql 5 0]) (nC 6 (nR [oP 7 (.bslice 1 1 (.int .u32 0) [(0,(.c (.int .u32 1)))]),mV 2 7]) .skip)) (nS (nF [oP 8 (.bslice 1 0 (.int .u32 0) []),mV 9 0,oP 10 (.append 1 4 (.t 8) (.t 9)),mV 3 10]) (nS (nF [mV 11 3,mV 12 3,oP 13 (.iaddr 1 (.t 12) (.c (.int .i64 0))),oJ 14 13,oP 15 (.bin .num .or (.t 14) (.c (.int .u32 1))),oP 16 (.iaddr 1 (.t 11) (.c (.int .i64 0))),oK 1 16 15 false]) (nR [mV 17 3,mV 2 17])))))
def qcc : AC:=(nS (nS (nF [mV 12 4,oO 13 .geq 12 0]) (nC 13 .skip (.exit 2))) (nS (.block 3 (nS (nF [mV 16 0,mV 17 3,oV 18 1 16 17,oJ 19 18,mV 20 4,oN 21 .shr 19 20,oP 22 (.bin .num .and (.t 21) (.c (.int .u32 1))),oP 23 (.bin .num .eql (.t 22) (.c (.int .u32 1)))]) (nC 23 (nR [mV 24 3,oP 25 (.bin .num .mul (.c (.int .i64 32)) (.t 24)),mV 26 4,oN 27 .add 25 26,oO 28 .add 27 1,mV 2 28]) .skip))) (nF [mV 14 4,oO 15 .sub 14 1,mV 4 15])))
def qc7 : AC:=(nS (nS (nF [mV 8 3,oO 9 .geq 8 0]) (nC 9 .skip (.exit 0))) (nS (.block 1 (nS (nF [oP 4 (nV 31)]) (.block 2 (.loop qcc)))) (nF [mV 10 3,oO 11 .sub 10 1,mV 3 11])))
@[simp] def qew : AFn:=nG [(.tmp 2)] (nS (nF [oP 2 (nV 0)]) (nS (nS (nF [mV 5 0,oT 6 5,oO 7 .sub 6 1,mV 3 7]) (.block 0 (.loop qc7))) (nR [oP 2 (nV 0)])))
@[simp] def qft : AFn:=nG [(.tmp 4)] (nS (nF [oP 4 (nV 0)]) (nS (nS (nF [mV 5 1,oO 6 .lss 5 0,mV 7 6,oE 8 7 1,oE 9 7 0,gF 10 7 (.len (.t 9)),gF 11 7 (.bin .num .mul (.c (.int .i64 32)) (.t 10)),gF 12 7 (nY .geq 8 11),oX 13 7 12]) (nC 13 (nR [oP 4 (nV 0)]) .skip)) (nR [mV 14 0,mV 15 1,oO 16 .quo 15 32,oV 17 1 14 16,oJ 18 17,mV 19 1,oO 20 .rem 19 32,oN 21 .shr 18 20,oP 22 (.bin .num .and (.t 21) (.c (.int .u32 1))),oP 23 (.conv .i64 (.t 22)),mV 4 23])))
def qfg : AC:=(nS (nS (nF [mV 18 1,mV 19 8,oA2 20 569 18 19,oO 21 .eql 20 0]) (nC 21 .skip (.exit 0))) (.block 1 (nF [mV 22 8,oO 23 .add 22 1,mV 8 23])))
def qc6 : AC:=(nS (nS (nF [mV 35 12,oO 36 .lss 35 32]) (nC 36 .skip (.exit 4))) (nS (.block 5 (nF [mV 39 11,mV 40 1,mV 41 10,mV 42 12,oN 43 .add 41 42,oA2 44 569 40 43,oP 45 (.conv .u32 (.t 44)),mV 46 12,oN 47 .shl 45 46,oN 48 .or 39 47,mV 11 48])) (nF [mV 37 12,oO 38 .add 37 1,mV 12 38])))
def qc5 : AC:=(nS (nS (nF [mV 30 10,mV 31 7,oN 32 .lss 30 31]) (nC 32 .skip (.exit 2))) (nS (.block 3 (nS (nF [oP 11 (.mv (.c (.int .u32 0)))]) (nS (nS (nF [oP 12 (nV 0)]) (.block 4 (.loop qc6))) (nF [oQ 49 1 9,oJ 50 49,mV 51 11,oP 52 (.bslice 1 1 (.int .u32 0) [(0,(.t 51))]),oP 53 (.append 1 4 (.t 50) (.t 52)),oQ 54 1 9,oK 1 54 53 false])))) (nF [mV 33 10,oO 34 .add 33 32,mV 10 34])))
@[simp] def qev : AFn:=nG [(.cell 6 true 3)] (nS (nF [oM 6]) (nS (nF [mV 13 1,oA1 14 568 13,mV 7 14]) (nS (nS (nF [mV 15 7,oO 16 .eql 15 0]) (nC 16 (nR [oP 17 (.build nD []),oK 3 6 17 false]) .skip)) (nS (nF [oP 8 (nV 0)]) (nS (.block 0 (.loop qfg)) (nS (nF [mV 24 0,mV 25 2,mV 26 8,oN 27 .add 25 26,oP 28 (.build nD [(0,1,(.t 24)),(2,1,(.t 27))]),oM 9,oK 3 9 28 false]) (nS (nS (nF [mV 29 8,mV 10 29]) (.block 2 (.loop qc5))) (nR [oI 55 3 9,
 oK 3 6 55 false]))))))))
def qcb : AC:=(nS (nS (nF [mV 8 4,mV 9 3,oT 10 9,oN 11 .lss 8 10]) (nC 11 .skip (.exit 0))) (nS (.block 1 (nS (nF [mV 14 3,mV 15 4,oV 16 1 14 15,oJ 17 16,oP 18 (.bin .num .add (.t 17) (.c (.int .u32 1))),oV 19 1 14 15,oK 1 19 18 false]) (nS (nF [mV 20 3,mV 21 4,oV 22 1 20 21,oJ 23 22,oP 24 (.bin .num .neq (.t 23) (.c (.int .u32 0)))]) (nC 24 (nR [mV 25 3,mV 2 25]) .skip)))) (nF [mV 12 4,oO 13 .add 12 1,mV 4 13])))
@[simp] def qeu : AFn:=nG [(.tmp 2)] (nS (nF [oP 2 (.mv (.c .nil))]) (nS (nF [oP 5 (.bslice 1 0 (.int .u32 0) []),mV 6 0,oP 7 (.append 1 4 (.t 5) (.t 6)),mV 3 7]) (nS (nS (nF [oP 4 (nV 0)]) (.block 0 (.loop qcb))) (nR [mV 26 3,oP 27 (.bslice 1 1 (.int .u32 0) [(0,(.c (.int .u32 1)))]),oP 28 (.append 1 4 (.t 26) (.t 27)),mV 2 28]))))
@[simp] def qbj : AFn:=nG [(.tmp 4)] (nS (nF [oZ 4 false]) (nR [mV 5 0,mV 6 1,oA2 7 605 5 6,oO 8 .geq 7 0,mV 4 8]))
def qbi : AC:=(nS (nF [oN 9 .lss 8 7]) (nS (nC 9 .skip (.exit 0)) (nS (.block 1 (nS (nF [mV 10 8,mV 5 10]) (nS (nF [mV 11 1,mV 12 0,mV 13 5,oV 14 1 12 13,oJ 15 14,oP 16 (.call (.t 11) [(.t 15)])]) (nC 16 (nR [mV 17 5,mV 4 17]) .skip)))) (nF [oO 18 .add 8 1,mV 8 18]))))
@[simp] def qb2 : AFn:=nG [(.tmp 4)] (nS (nF [oP 4 (nV 0)]) (nS (nS (nF [mV 6 0,oT 7 6,oP 8 (nV 0)]) (.block 0 (.loop qbi))) (nR [oP 4 (nV (-1))])))
@[simp] def qcr : AFn:=nG [(.tmp 8)] (nS (nF [oU 4 2 0,oU 5 7 1,oU 6 7 2,oZ 8 false]) (nS (nS (nF [oA0 9 621,oW 10 9]) (nC 10 (nR [oZ 8 false]) .skip)) (nS (nS (nF [oI 11 7 5,oI 12 7 6,mV 13 3,oA3 14 622 11 12 13]) (nC 14 (nR [oZ 8 true]) .skip)) (nS (nT [oI 15 2 4,mV 16 3,oA2 17 624 15 16,oI 18 2 4,mV 19 3,oB2 20 625 18 19,oB2 21 623 17 20,mV 22 21,oH 23 22 true 7 5,oH 24 22 true 7 6,oD2 25 22 626 23 24,oH 26 22 true 7 5,oH 27 22 true 7 6,⟨some 28,.call (.f 627) [(.t 26),(.t 27)],some (22,true),true⟩,
 gT 29 22 (.bin .bool .eql (.t 25) (.t 28)),oY 30 22 29,mV 8 30]) .ret))))
@[simp] def qec : AFn:=nG [(.tmp 0)] (nS (nF [oZ 0 false]) (nS (nF [oP 2 (.call (.f 630) [(.c (.int .i64 1))]),oA1 3 629 2,oP 4 (.call (.f 630) [(.c (.int .i64 3))]),oA1 5 629 4,oP 6 (.call (.f 628) [(.t 3),(.t 5),(.c (.int .i64 8))]),oL 1,oK 7 1 6 false]) (nR [oI 7 7 1,oP 8 (.bslice 1 1 (.int .u32 0) [(0,(.c (.int .u32 85)))]),oP 9 (.build nD [(1,1,(.t 8)),(2,1,(.c (.int .i64 (-8))))]),oP 10 (.bslice 1 1 (.int .u32 0) [(0,(.c (.int .u32 171)))]),oP 11 (.build nD [(1,1,(.t 10)),(2,1,(.c (.int .i64 (-9))))]),
 oP 12 (.build nI [(0,3,(.t 9)),(3,3,(.t 11))]),oA2 13 623 7 12,mV 0 13])))
@[simp] def qea : AFn:=nG [(.tmp 6)] (nS (nF [oU 3 7 0,oU 4 7 1,oZ 6 false]) (nR [oQ 7 0 3,oI 8 3 7,oA1 9 631 8,mV 10 9,gF 11 10 (nA 3 3),oG 12 10 true 3 11,oC1 13 10 631 12,oX 14 10 13,mV 15 14,gF 16 15 (nA 0 4),oG 17 15 true 3 16,oC1 18 15 631 17,oX 19 15 18,mV 20 19,gF 21 20 (nA 3 4),oG 22 20 true 3 21,oC1 23 20 631 22,oX 24 20 23,mV 25 24,oE 26 25 2,gF 27 25 (nX .gtr 26 128),oE 28 25 27,oF 29 28 2,gT 30 28 (nX .leq 29 512),gF 31 25 (.pick (.t 28) (.t 30) (.c (.bool false))),oX 32 25 31,
 mV 6 32]))
@[simp] def qeb : AFn:=nG [(.tmp 4)] (nS (nF [oU 2 7 0,oU 3 7 1,oZ 4 false]) (nR [oQ 5 6 2,oJ 6 5,mV 7 6,gT 8 7 (nA 6 3),oH 9 7 false 1 8,oY 10 7 9,mV 11 10,oG 12 11 true 7 2,oG 13 11 true 7 3,oC2 14 11 60 12 13,oX 15 11 14,mV 4 15]))
@[simp] def qhr : AFn:=nG [(.cell 4 true 7)] (nS (nF [oU 2 2 0,oU 3 1 1,oL 4]) (nS (nS (nF [oQ 5 1 2,oJ 6 5,oO 7 .lss 6 1,mV 8 7,gF 9 8 (nA 1 2),oG 10 8 false 1 9,gF 11 8 (nX .gtr 10 1073741824),oX 12 8 11,mV 13 12,gF 14 13 (nA 0 2),oG 15 13 false 1 14,gF 16 13 (nX .lss 15 (-1073741824)),oX 17 13 16,mV 18 17,gF 19 18 (nA 0 2),oG 20 18 false 1 19,gF 21 18 (nX .gtr 20 1073741824),oX 22 18 21,mV 23 22,gF 24 23 (nA 0 2),oG 25 23 false 1 24,gF 26 23 (nA 1 2),
 oG 27 23 false 1 26,oC2 28 23 632 25 27,gF 29 23 (nX .neq 28 1),oX 30 23 29]) (nC 30 (nR [oP 31 (.build nI [(6,1,(.c (.bool true)))]),oK 7 4 31 false]) .skip)) (nR [oJ 32 3,oP 33 (.mkfn 634 [(.t 2),(.t 3)]),oP 34 (.call (.f 633) [(.t 32),(.t 33),(.c .nil)]),oK 7 4 34 false])))
@[simp] def qd0 : AFn:=nG [(.cell 4 true 7)] (nS (nF [oU 2 2 0,oL 4]) (nR [oI 5 2 2,mV 6 1,oA2 7 552 5 6,oK 7 4 7 false]))
@[simp] def qgp : AFn:=nG [(.tmp 4)] (nS (nF [oU 2 7 0,oU 3 7 1,oZ 4 false]) (nS (nS (nF [oI 7 7 2,oA1 8 638 7,oW 9 8,mV 10 9,oG 11 10 true 7 3,oC1 12 10 638 11,gF 13 10 (nU 12),oX 14 10 13]) (nC 14 (nR [oZ 4 false]) .skip)) (nS (nS (nF [oQ 15 6 3,oJ 16 15,mV 17 16,gF 18 17 (nA 6 2),oG 19 17 false 1 18,oX 20 17 19]) (nC 20 (nR [oQ 21 6 3,oJ 22 21,mV 4 22]) .skip)) (nS (nT [oI 23 7 2,oA1 24 639 23,oI 25 7 3,oA1 26 639 25,oL 5,oL 6,oK 7 5 24 true,oK 7 6 26 true]) (nR [oQ 27 0 6,
 oI 28 3 27,oQ 29 0 5,oI 30 3 29,oA2 31 640 28 30,oO 32 .leq 31 0,mV 33 32,gT 34 33 (nA 3 5),oH 35 33 true 3 34,gT 36 33 (nA 3 6),oH 37 33 true 3 36,oD2 38 33 640 35 37,gT 39 33 (nX .leq 38 0),oY 40 33 39,mV 4 40])))))
@[simp] def qdk : AFn:=nG [(.tmp 4)] (nS (nF [oU 2 7 0,oU 3 7 1,oZ 4 false]) (nR [oI 5 7 2,oA1 6 70 5,mV 7 6,oH 8 7 true 7 3,oD1 9 7 70 8,oY 10 7 9,mV 11 10,oH 12 11 true 7 2,oH 13 11 true 7 3,oD2 14 11 65 12 13,oY 15 11 14,mV 4 15]))
@[simp] def qkt : AFn:=nG [(.cell 6 true 7)] (nS (nF [oU 3 7 0,oU 4 7 1,oU 5 1 2,oL 6]) (nR [oJ 7 5,oP 8 (.mkfn 641 [(.t 5)]),oI 9 7 3,oI 10 7 4,oP 11 (.bslice 7 2 (.agg nI) [(0,(.t 9)),(1,(.t 10))]),oA3 12 633 7 8 11,oK 7 6 12 false]))
@[simp] def qd9 : AFn:=nG [(.cell 2 true 7)] (nS (nF [oU 1 3 0,oL 2]) (nR [oI 3 3 1,oI 4 3 1,oP 5 (.build nI [(0,3,(.t 3)),(3,3,(.t 4))]),oK 7 2 5 false]))
@[simp] def qhi : AFn:=nG [(.cell 2 true 3)] (nS (nF [oM 2]) (nR [mV 3 0,oA1 4 74 3,oK 3 2 4 false]))
@[simp] def qe3 : AFn:=nG [(.tmp 2)] (nS (nF [oU 1 3 0,oZ 2 false]) (nR [oQ 3 1 1,oJ 4 3,oT 5 4,oO 6 .gtr 5 20,mV 2 6]))
def qgk : AC:=(nS (nS (nF [mV 5 1,oO 6 .neq 5 0]) (nC 6 .skip (.exit 0))) (.block 1 (nT [mV 7 1,mV 8 0,mV 9 1,oN 10 .rem 8 9,mV 0 7,mV 1 10])))
@[simp] def qkq : AFn:=nG [(.tmp 4)] (nS (nF [oP 4 (nV 0)]) (nS (.block 0 (.loop qgk)) (nR [mV 11 0,mV 12 0,oP 13 (.un .neg (.t 12)),oP 14 (.max (.t 11) (.t 13)),mV 4 14])))
def qee : AC:=(nS (nF [oN 14 .lss 13 12]) (nS (nC 14 .skip (.exit 0)) (nS (.block 1 (nS (nF [oV 15 7 11 13,oI 16 7 15,oL 9,oK 7 9 16 false]) (nF [mV 17 7,oI 18 7 9,oA1 19 639 18,oP 20 (.bslice 7 1 (.agg nI) [(0,(.t 19))]),oP 21 (.append 7 88 (.t 17) (.t 20)),mV 7 21]))) (nF [oO 22 .add 13 1,mV 13 22]))))
@[simp] def qgn : AFn:=nG [(.cell 6 true 7)] (nS (nF [oL 6]) (nS (nF [oP 7 (.mv (.c .nil))]) (nS (nS (nF [mV 11 2,oT 12 11,oP 13 (nV 0)]) (.block 0 (.loop qee))) (nS (nS (nF [mV 23 0,oA1 24 642 23,oW 25 24,mV 26 25,oE 27 26 7,gF 28 26 (.call (.f 643) [(.t 27),(.f 644)]),oX 29 26 28]) (nC 29 (nR [oP 30 (.build nI [(6,1,(.c (.bool true)))]),oK 7 6 30 false]) .skip)) (nS (nF [mV 31 1,mV 32 7,oP 33 (.call (.t 31) [(.t 32)]),
 oL 10,oK 7 10 33 false]) (nS (nS (nF [oQ 34 6 10,oJ 35 34]) (nC 35 (nR [oP 36 (.build nI [(6,1,(.c (.bool true)))]),oK 7 6 36 false]) .skip)) (nS (nT [oQ 37 0 10,oI 38 3 37,oA1 39 645 38,oQ 40 3 10,oI 41 3 40,oB1 42 645 41,oP 43 (.build nI [(0,3,(.t 39)),(3,3,(.t 42))]),oK 7 6 43 true]) .ret)))))))
@[simp] def qf7 : AFn:=nG [(.cell 4 true 7)] (nS (nF [oL 4]) (nS (nT [oQ 5 0 1,oJ 6 5,oA1 7 637 6,oA1 8 636 7,oQ 9 1 1,oJ 10 9,oA1 11 637 10,oA1 12 636 11,oJ 13 2,oB3 14 635 8 12 13,oK 7 4 14 true]) .ret))
def qch : AC:=(nS (nF [oN 37 .lss 36 35]) (nS (nC 37 .skip (.exit 0)) (nS (.block 1 (nS (nF [mV 38 36,oV 39 6 34 36,oI 40 6 39,oP 9 (.new 6 (.agg [(.bool false),.nil,(.int .i64 0),(.bool false),.nil,(.int .i64 0)])),mV 8 38,oK 6 9 40 false]) (nS (nF [oP 42 (.aiaddr 2 3 (.t 9) (.c (.int .i64 0))),oI 43 3 42,oP 44 (.aiaddr 2 3 (.t 9) (.c (.int .i64 1))),oI 45 3 44,mV 46 2,oA3 47 648 43 45 46,mV 41 47,oR 48 0 41,oR 49 1 41,oM 10,oK 3 10 48 false,mV 11 49]) (nS (nF [oI 50 3 10,mV 51 11,oI 52 3 10,mV 53 11,mV 54 2,oA5 55 649 50 51 52 53 54,
 oL 12,oK 7 12 55 false]) (nS (nS (nF [oQ 56 6 12,oJ 57 56]) (nC 57 (.seq .stop .ret) .skip)) (nS (nS (nF [mV 59 8,oO 60 .eql 59 0,mV 61 60,gF 62 61 (nA 0 12),oG 63 61 true 3 62,gF 64 61 (nA 0 7),oG 65 61 true 3 64,oC2 66 61 640 63 65,gF 67 61 (nX .lss 66 0),oX 68 61 67]) (nC 68 (nF [oQ 69 0 12,oI 70 3 69,oQ 71 0 7,oK 3 71 70 false]) .skip)) (nS (nF [mV 72 8,oO 73 .eql 72 0,mV 74 73,gF 75 74 (nA 3 12),oG 76 74 true 3 75,gF 77 74 (nA 3 7),oG 78 74 true 3 77,oC2 79 74 640 76 78,
 gF 80 74 (nX .gtr 79 0),oX 81 74 80]) (nC 81 (nF [oQ 82 3 12,oI 83 3 82,oQ 84 3 7,oK 3 84 83 false]) .skip)))))))) (nF [oO 85 .add 36 1,mV 36 85]))))
@[simp] def qem : List AOper:=
 [oI 86 7 7,oK 7 6 86 false]
@[simp] def qe8 : AFn:=nG [(.cell 6 true 7)] (nS (nF [oU 3 7 0,oU 4 7 1,oL 6]) (nS (nS (nF [oQ 13 6 3,oJ 14 13,mV 15 14,gF 16 15 (nA 6 4),oG 17 15 false 1 16,oX 18 15 17,mV 19 18,gF 20 19 (nA 0 4),oG 21 19 true 3 20,oC1 22 19 646 21,gF 23 19 (nX .leq 22 0),oE 24 19 23,gT 25 24 (nA 3 4),oH 26 24 true 3 25,oD1 27 24 646 26,gT 28 24 (nX .geq 27 0),gF 29 19 (.pick (.t 24) (.t 28) (.c (.bool false))),oX 30 19 29]) (nC 30 (.seq .stop .ret) .skip)) (nS (nF [oL 7]) (nS (nS (nF [oI 32 7 3,
 oI 33 7 4,oA2 34 647 32 33,oT 35 34,oP 36 (nV 0)]) (.block 0 (.loop qch))) (nS (.region false qem) .ret)))))
@[simp] def qho : AFn:=nG [(.cell 2 true 7)] (nS (nF [oU 1 3 0,oL 2]) (nR [oI 3 3 1,oI 4 3 1,oP 5 (.build nI [(0,3,(.t 3)),(3,3,(.t 4))]),oK 7 2 5 false]))
def qe5 : AC:=(nS (nS (nF [mV 11 0,oO 12 .gtr 11 0]) (nC 12 .skip (.exit 0))) (nS (.block 1 (nF [oQ 15 1 3,oJ 16 15,mV 17 0,oO 18 .rem 17 32768,oP 19 (.bslice 1 1 (.int .i64 0) [(0,(.t 18))]),oP 20 (.append 1 8 (.t 16) (.t 19)),oQ 21 1 3,oK 1 21 20 false])) (nF [mV 13 0,oO 14 .quo 13 32768,mV 0 14])))
@[simp] def qhk : AFn:=nG [(.cell 2 true 3)] (nS (nF [oM 2]) (nS (nF [mV 4 0,oO 5 .lss 4 0,oP 6 (.build nD [(0,1,(.t 5))]),oM 3,oK 3 3 6 false]) (nS (nS (nF [mV 7 0,mV 8 0,oP 9 (.un .neg (.t 8)),oP 10 (.max (.t 7) (.t 9)),mV 0 10]) (.block 0 (.loop qe5))) (nR [oI 22 3 3,oK 3 2 22 false]))))
@[simp] def qhl : AFn:=nG [(.tmp 2)] (nS (nF [oU 1 7 0,oZ 2 false]) (nS (nS (nF [oQ 3 6 1,oJ 4 3]) (nC 4 (nR [oQ 5 0 1,oQ 6 1 5,oJ 7 6,oT 8 7,oQ 9 3 1,oQ 10 1 9,oJ 11 10,oT 12 11,oN 13 .add 8 12,oO 14 .eql 13 0,mV 15 14,gT 16 15 (nA 0 1),gT 17 15 (nA 0 16),oH 18 15 false 1 17,gT 19 15 (nU 18),oY 20 15 19,mV 21 20,gT 22 21 (nA 3 1),gT 23 21 (nA 0 22),oH 24 21 false 1 23,gT 25 21 (nU 24),oY 26 21 25,mV 27 26,gT 28 27 (nA 0 1),gT 29 27 (nA 2 28),oH 30 27 false 1 29,gT 31 27 (nX .eql 30 0),
 oY 32 27 31,mV 33 32,gT 34 33 (nA 3 1),gT 35 33 (nA 2 34),oH 36 33 false 1 35,gT 37 33 (nX .eql 36 0),oY 38 33 37,mV 2 38]) .skip)) (nS (nT [oQ 39 0 1,oI 40 3 39,oB1 41 650 40,mV 42 41,gT 43 42 (nA 3 1),oH 44 42 true 3 43,⟨some 45,.call (.f 650) [(.t 44)],some (42,true),true⟩,oY 46 42 45,mV 47 46,gT 48 47 (nA 0 1),oH 49 47 true 3 48,oD1 50 47 651 49,gT 51 47 (nA 3 1),oH 52 47 true 3 51,⟨some 53,.call (.f 651) [(.t 52)],some (47,true),true⟩,⟨some 54,.call (.f 640) [(.t 50),(.t 53)],some (47,true),true⟩,
 gT 55 47 (nX .leq 54 0),oY 56 47 55,mV 2 56]) .ret)))
@[simp] def qiq : AFn:=nG [(.cell 2 true 7)] (nS (nF [oU 1 7 0,oL 2]) (nS (nS (nF [oI 3 7 1,oA1 4 638 3,oW 5 4,mV 6 5,gF 7 6 (nA 6 1),oG 8 6 false 1 7,oX 9 6 8]) (nC 9 (.seq .stop .ret) .skip)) (nS (nT [oQ 11 0 1,oI 12 3 11,oA1 13 651 12,oQ 14 3 1,oI 15 3 14,oB1 16 651 15,oP 17 (.build nI [(0,3,(.t 13)),(3,3,(.t 16))]),oK 7 2 17 true]) .ret)))
@[simp] def qhp : AFn:=nG [(.tmp 4)] (nS (nF [oU 2 3 0,oU 3 3 1,oP 4 (nV 0)]) (nS (nT [oI 5 3 2,oI 6 3 3,oA1 7 653 6,oB2 8 652 5 7,oB1 9 646 8,mV 4 9]) .ret))
@[simp] def qhs : AFn:=nG [(.cell 3 true 7)] (nS (nF [oL 3]) (nS (nT [mV 4 0,oP 5 (.iaddr 7 (.t 4) (.c (.int .i64 0))),oI 6 7 5,mV 7 0,oP 8 (.iaddr 7 (.t 7) (.c (.int .i64 1))),oI 9 7 8,oJ 10 1,oB3 11 635 6 9 10,oK 7 3 11 true]) .ret))
@[simp] def qf3 : AFn:=nG [(.tmp 2)] (nS (nF [oZ 2 false]) (nR [mV 3 0,oO 4 .geq 3 8,mV 5 4,oF 6 5 0,gT 7 5 (nX .leq 6 512),oY 8 5 7,mV 2 8]))
@[simp] def qbb : AFn:=nG [(.tmp 4)] (nS (nF [oZ 4 false]) (nR [mV 5 0,mV 6 1,oA2 7 654 5 6,oO 8 .geq 7 0,mV 4 8]))
@[simp] def qfa : AFn:=nG [(.tmp 2)] (nS (nF [oU 1 7 0,oZ 2 false]) (nR [oQ 3 6 1,oJ 4 3,mV 2 4]))
def qe4 : AC:=(nS (nS (nF [mV 17 3,mV 18 4,oO 19 .quo 18 15,oV 20 1 17 19,oJ 21 20,mV 22 4,oO 23 .rem 22 15,oN 24 .shr 21 23,oO 25 .and 24 1,oO 26 .eql 25 0]) (nC 26 .skip (.exit 0))) (.block 1 (nF [mV 27 4,oO 28 .add 27 1,mV 4 28])))
def qcm : AC:=(nS (nF [oN 45 .lss 44 43]) (nS (nC 45 .skip (.exit 2)) (nS (.block 3 (nS (nF [oV 46 1 42 44,oJ 47 46,mV 9 47]) (nS (nF [mV 48 6,mV 49 9,mV 50 7,oN 51 .shl 49 50,oN 52 .add 48 51,mV 6 52]) (nS (nF [mV 53 7,oO 54 .add 53 15,mV 7 54]) (nS (nF [mV 55 7,oO 56 .geq 55 32]) (nC 56 (nS (nF [oQ 57 1 5,oJ 58 57,mV 59 6,oP 60 (.conv .u32 (.t 59)),oP 61 (.bslice 1 1 (.int .u32 0) [(0,(.t 60))]),oP 62 (.append 1 4 (.t 58) (.t 61)),oQ 63 1 5,oK 1 63 62 false]) (nS (nF [mV 64 6,oP 65 (.bin .num .shr (.t 64) (.c (.int .u64 32))),
 mV 6 65]) (nF [mV 66 7,oO 67 .sub 66 32,mV 7 67]))) .skip)))))) (nF [oO 68 .add 44 1,mV 44 68]))))
@[simp] def qhj : AFn:=nG [(.cell 2 true 3)] (nS (nF [oU 1 3 0,oM 2]) (nS (nF [oQ 10 1 1,oJ 11 10,oA1 12 655 11,mV 3 12]) (nS (nS (nF [mV 13 3,oT 14 13,oO 15 .eql 14 0]) (nC 15 (nR [oP 16 (.build nD []),oK 3 2 16 false]) .skip)) (nS (nF [oP 4 (nV 0)]) (nS (.block 0 (.loop qe4)) (nS (nF [mV 30 3,mV 31 4,oA2 32 656 30 31,mV 29 32,oR 33 0 29,oR 34 1 29,mV 3 33]) (nS (nF [oQ 35 0 1,oJ 36 35,oQ 37 2 1,oJ 38 37,mV 39 4,oN 40 .add 38 39,oP 41 (.build nD [(0,1,(.t 36)),(2,1,(.t 40))]),
 oM 5,oK 3 5 41 false]) (nS (nF [oP 6 (nV 0),oP 7 (nV 0)]) (nS (nS (nF [mV 42 3,oT 43 42,oP 44 (nV 0)]) (.block 2 (.loop qcm))) (nS (nS (nF [mV 69 6,oO 70 .gtr 69 0]) (nC 70 (nF [oQ 71 1 5,oJ 72 71,mV 73 6,oP 74 (.conv .u32 (.t 73)),oP 75 (.bslice 1 1 (.int .u32 0) [(0,(.t 74))]),oP 76 (.append 1 4 (.t 72) (.t 75)),oQ 77 1 5,oK 1 77 76 false]) .skip)) (nR [oI 78 3 5,oK 3 2 78 false])))))))))))
@[simp] def qin : AFn:=nG [(.tmp 2)] (nS (nF [oU 1 3 0,oP 2 (nV 0)]) (nS (.block 0 (nS (nF [oQ 4 1 1,oJ 5 4,oT 6 5,oO 7 .eql 6 0,mV 3 7]) (nC 3 (nR [oP 2 (nV 0)]) (nS (nF [oQ 9 0 1,oJ 10 9,mV 8 10]) (nC 8 (nR [oP 2 (nV (-1))]) .skip))))) (nR [oP 2 (nV 1)])))
@[simp] def qf5 : AFn:=nG [(.tmp 4)] (nS (nF [oU 2 7 0,oU 3 7 1,oP 4 (.mv (.c .nil))]) (nR [oQ 5 0 2,oI 6 3 5,oQ 7 0 3,oI 8 3 7,oP 9 (.build [(.bool false),.nil,(.int .i64 0),(.bool false),.nil,(.int .i64 0)] [(0,3,(.t 6)),(3,3,(.t 8))]),oQ 10 0 2,oI 11 3 10,oQ 12 3 3,oI 13 3 12,oP 14 (.build [(.bool false),.nil,(.int .i64 0),(.bool false),.nil,(.int .i64 0)] [(0,3,(.t 11)),(3,3,(.t 13))]),oQ 15 3 2,oI 16 3 15,oQ 17 0 3,oI 18 3 17,oP 19 (.build [(.bool false),.nil,(.int .i64 0),(.bool false),.nil,(.int .i64 0)] [(0,3,(.t 16)),(3,3,(.t 18))]),oQ 20 3 2,oI 21 3 20,oQ 22 3 3,
 oI 23 3 22,oP 24 (.build [(.bool false),.nil,(.int .i64 0),(.bool false),.nil,(.int .i64 0)] [(0,3,(.t 21)),(3,3,(.t 23))]),oP 25 (.bslice 6 4 (.agg [(.bool false),.nil,(.int .i64 0),(.bool false),.nil,(.int .i64 0)]) [(0,(.t 9)),(1,(.t 14)),(2,(.t 19)),(3,(.t 24))]),mV 4 25]))
@[simp] def qe9 : AFn:=nG [(.cell 6 true 3),(.tmp 7)] (nS (nF [oU 3 3 0,oU 4 3 1,oM 6,oZ 7 false]) (nS (nT [mV 11 2,oO 12 .add 11 3,oQ 13 1 4,oJ 14 13,oA1 15 657 14,oN 16 .add 12 15,oQ 17 1 3,oJ 18 17,oB1 19 657 18,oN 20 .sub 16 19,oP 21 (.max (.c (.int .i64 0)) (.t 20)),mV 8 21]) (nS (nT [oQ 23 1 3,oJ 24 23,mV 25 8,oA2 26 659 24 25,oQ 27 1 4,oJ 28 27,oB2 29 658 26 28,mV 22 29,oR 30 0 22,oR 31 1 22,mV 9 30,mV 10 31]) (nR [oQ 32 0 3,oJ 33 32,oQ 34 0 4,oJ 35 34,oP 36 (.bin .bool .neq (.t 33) (.t 35)),mV 37 9,oQ 38 2 3,oJ 39 38,oQ 40 2 4,oJ 41 40,
 oN 42 .sub 39 41,mV 43 8,oN 44 .sub 42 43,oP 45 (.build nD [(0,1,(.t 36)),(1,1,(.t 37)),(2,1,(.t 44))]),mV 46 10,oK 3 6 45 false,mV 7 46]))))
@[simp] def qf0 : AFn:=nG [(.cell 10 true 7)] (nS (nF [oU 5 3 0,oU 7 3 2,oL 10]) (nS (nF [oI 16 3 5,mV 17 1,mV 18 4,oP 19 (.call (.f 660) [(.t 16),(.t 17),(.t 18),(.c (.bool false))]),mV 15 19,oR 20 0 15,oR 21 1 15,oM 11,oK 3 11 20 false,mV 12 21]) (nS (nF [oI 23 3 7,mV 24 3,mV 25 4,oP 26 (.call (.f 660) [(.t 23),(.t 24),(.t 25),(.c (.bool true))]),mV 22 26,oR 27 0 22,oR 28 1 22,oM 13,oK 3 13 27 false,mV 14 28]) (nS (nS (nF [mV 29 12,oW 30 29,mV 31 30,oE 32 31 14,gF 33 31 (nU 32),oX 34 31 33]) (nC 34 (.seq .stop .ret) .skip)) (nR [oI 36 3 11,
 oI 37 3 13,oP 38 (.build nI [(0,3,(.t 36)),(3,3,(.t 37))]),oK 7 10 38 false])))))
@[simp] def qgj : AFn:=nG [(.tmp 2)] (nS (nF [oU 1 3 0,oZ 2 false]) (nS (nF [oQ 5 1 1,oJ 6 5,oT 7 6,mV 3 7]) (nS (nS (nF [mV 8 3,oO 9 .eql 8 0]) (nC 9 (nR [oQ 10 0 1,oJ 11 10,oW 12 11,mV 13 12,gT 14 13 (nA 2 1),oH 15 13 false 1 14,gT 16 13 (nX .eql 15 0),oY 17 13 16,mV 2 17]) .skip)) (nS (nS (nF [mV 18 3,oO 19 .gtr 18 256,mV 20 19,gF 21 20 (nA 1 1),oG 22 20 false 1 21,oE 23 20 3,gF 24 20 (nX .sub 23 1),gF 25 20 (.iaddr 1 (.t 22) (.t 24)),
 oG 26 20 false 1 25,gF 27 20 (.bin .num .eql (.t 26) (.c (.int .u32 0))),oX 28 20 27,mV 29 28,gF 30 29 (nA 1 1),oG 31 29 false 1 30,gF 32 29 (.iaddr 1 (.t 31) (.c (.int .i64 0))),oG 33 29 false 1 32,gF 34 29 (.bin .num .and (.t 33) (.c (.int .u32 1))),gF 35 29 (.bin .num .eql (.t 34) (.c (.int .u32 0))),oX 36 29 35,mV 37 36,gF 38 37 (nA 2 1),oG 39 37 false 1 38,gF 40 37 (nX .lss 39 (-16384)),oX 41 37 40,mV 42 41,gF 43 42 (nA 2 1),oG 44 42 false 1 43,gF 45 42 (nX .gtr 44 16384),oX 46 42 45]) (nC 46 (nR [oZ 2 false]) .skip)) (nS (nF [oI 47 3 1,
 oA1 48 651 47,oP 49 (.field false 1 1 (.t 48)),oA1 50 657 49,mV 4 50]) (nR [mV 51 4,oO 52 .leq 51 4096,mV 53 52,oF 54 53 4,gT 55 53 (nA 2 1),oH 56 53 false 1 55,gT 57 53 (nY .add 54 56),gT 58 53 (nX .leq 57 16384),oY 59 53 58,mV 2 59]))))))
def qf2 : AC:=(nS (nS (nF [mV 28 5,oO 29 .geq 28 15]) (nC 29 .skip (.exit 2))) (.block 3 (nS (nF [oQ 30 1 3,oJ 31 30,mV 32 4,oO 33 .rem 32 32768,oP 34 (.bslice 1 1 (.int .i64 0) [(0,(.t 33))]),oP 35 (.append 1 8 (.t 31) (.t 34)),oQ 36 1 3,oK 1 36 35 false]) (nS (nF [mV 37 4,oO 38 .quo 37 32768,mV 4 38]) (nF [mV 39 5,oO 40 .sub 39 15,mV 5 40])))))
def qf1 : AC:=(nS (nF [oN 17 .lss 16 15]) (nS (nC 17 .skip (.exit 0)) (nS (.block 1 (nS (nF [oV 18 1 14 16,oJ 19 18,mV 7 19]) (nS (nF [mV 20 4,mV 21 7,oP 22 (.conv .i64 (.t 21)),mV 23 5,oN 24 .shl 22 23,oN 25 .add 20 24,mV 4 25]) (nS (nF [mV 26 5,oO 27 .add 26 32,mV 5 27]) (.block 2 (.loop qf2)))))) (nF [oO 41 .add 16 1,mV 16 41]))))
@[simp] def qio : AFn:=nG [(.cell 2 true 3)] (nS (nF [oU 1 3 0,oM 2]) (nS (nF [oQ 8 0 1,oJ 9 8,oQ 10 2 1,oJ 11 10,oP 12 (.build nD [(0,1,(.t 9)),(2,1,(.t 11))]),oM 3,oK 3 3 12 false]) (nS (nF [oP 4 (nV 0),oP 5 (nV 0)]) (nS (nS (nF [oQ 13 1 1,oJ 14 13,oT 15 14,oP 16 (nV 0)]) (.block 0 (.loop qf1))) (nS (nF [oQ 42 1 3,oJ 43 42,mV 44 4,oP 45 (.bslice 1 1 (.int .i64 0) [(0,(.t 44))]),oP 46 (.append 1 8 (.t 43) (.t 45)),oA1 47 655 46,oQ 48 1 3,oK 1 48 47 false]) (nR [oI 49 3 3,
 oK 3 2 49 false]))))))
@[simp] def qks : AFn:=nG [(.cell 4 true 3)] (nS (nF [oU 2 3 0,oU 3 3 1,oM 4]) (nS (nS (nF [oQ 8 1 2,oJ 9 8,oT 10 9,oO 11 .eql 10 0]) (nC 11 (nR [oI 12 3 3,oK 3 4 12 false]) .skip)) (nS (nS (nF [oQ 13 1 3,oJ 14 13,oT 15 14,oO 16 .eql 15 0]) (nC 16 (nR [oI 17 3 2,oK 3 4 17 false]) .skip)) (nS (nF [oQ 18 2 2,oJ 19 18,oQ 20 2 3,oJ 21 20,oP 22 (.min (.t 19) (.t 21)),mV 5 22]) (nS (nT [oQ 23 1 2,oJ 24 23,oQ 25 2 2,oJ 26 25,mV 27 5,oN 28 .sub 26 27,oA2 29 659 24 28,oQ 30 1 3,
 oJ 31 30,oQ 32 2 3,oJ 33 32,mV 34 5,oN 35 .sub 33 34,oB2 36 659 31 35,mV 6 29,mV 7 36]) (nS (.block 0 (nS (nF [oQ 38 0 2,oJ 39 38,oQ 40 0 3,oJ 41 40,oP 42 (.bin .bool .eql (.t 39) (.t 41)),mV 37 42]) (nC 37 (nS (nT [oQ 43 0 2,oJ 44 43,mV 45 6,mV 46 7,oA2 47 661 45 46,mV 48 5,oP 49 (.build nD [(0,1,(.t 44)),(1,1,(.t 47)),(2,1,(.t 48))]),oK 3 4 49 true]) .ret) (nS (nF [mV 51 6,mV 52 7,oA2 53 662 51 52,oO 54 .geq 53 0,mV 50 54]) (nC 50 (nS (nT [oQ 55 0 2,oJ 56 55,mV 57 6,mV 58 7,oA2 59 663 57 58,mV 60 5,
 oP 61 (.build nD [(0,1,(.t 56)),(1,1,(.t 59)),(2,1,(.t 60))]),oK 3 4 61 true]) .ret) .skip))))) (nS (nT [oQ 62 0 3,oJ 63 62,mV 64 7,mV 65 6,oA2 66 663 64 65,mV 67 5,oP 68 (.build nD [(0,1,(.t 63)),(1,1,(.t 66)),(2,1,(.t 67))]),oK 3 4 68 true]) .ret)))))))
@[simp] def qf4 : AFn:=nG [(.cell 2 true 3)] (nS (nF [oU 1 3 0,oM 2]) (nR [oQ 3 0 1,oJ 4 3,oW 5 4,oQ 6 1 1,oJ 7 6,oQ 8 2 1,oJ 9 8,oP 10 (.build nD [(0,1,(.t 5)),(1,1,(.t 7)),(2,1,(.t 9))]),oK 3 2 10 false]))
def qba : AC:=(nS (nF [oN 9 .lss 8 7]) (nS (nC 9 .skip (.exit 0)) (nS (.block 1 (nS (nF [mV 10 8,mV 5 10]) (nS (nF [mV 11 1,mV 12 0,mV 13 5,oV 14 7 12 13,oI 15 7 14,oP 16 (.call (.t 11) [(.t 15)])]) (nC 16 (nR [mV 17 5,mV 4 17]) .skip)))) (nF [oO 18 .add 8 1,mV 8 18]))))
@[simp] def qbv : AFn:=nG [(.tmp 4)] (nS (nF [oP 4 (nV 0)]) (nS (nS (nF [mV 6 0,oT 7 6,oP 8 (nV 0)]) (.block 0 (.loop qba))) (nR [oP 4 (nV (-1))])))
def qbe : AC:=(nS (nS (nF [mV 6 3,oO 7 .gtr 6 0,mV 8 7,oF 9 8 0,oF 10 8 3,gT 11 8 (nX .sub 10 1),gT 12 8 (.iaddr 1 (.t 9) (.t 11)),oH 13 8 false 1 12,gT 14 8 (nX .eql 13 0),oY 15 8 14]) (nC 15 .skip (.exit 0))) (.block 1 (nF [mV 16 3,oO 17 .sub 16 1,mV 3 17])))
@[simp] def qim : AFn:=⟨[(.tmp 2)],(nS (nF [oP 2 (.mv (.c .nil))]) (nS (nF [mV 4 0,oT 5 4,mV 3 5]) (nS (.block 0 (.loop qbe)) (nR [mV 18 0,mV 19 3,oP 20 (.slice 1 (.t 18) none (some (.t 19)) none),mV 2 20])))),true,true⟩
def qc1 : AC:=(nS (nS (nF [mV 37 9,mV 38 0,oT 39 38,oN 40 .lss 37 39]) (nC 40 .skip (.exit 0))) (nS (.block 1 (nS (nF [mV 43 0,mV 44 9,oV 45 1 43 44,oJ 46 45,mV 10 46]) (nS (nS (nF [mV 47 9,oO 48 .add 47 1,mV 49 0,oT 50 49,oN 51 .lss 48 50]) (nC 51 (nF [mV 52 10,mV 53 0,mV 54 9,oO 55 .add 54 1,oV 56 1 53 55,oJ 57 56,oP 58 (.bin .num .shl (.t 57) (.c (.int .u64 15))),oN 59 .add 52 58,mV 10 59]) .skip)) (nF [mV 60 8,mV 61 10,mV 62 1,oO 63 .rem 62 15,oN 64 .shr 61 63,oO 65 .rem 64 32768,oP 66 (.bslice 1 1 (.int .i64 0) [(0,(.t 65))]),
 oP 67 (.append 1 8 (.t 60) (.t 66)),mV 8 67])))) (nF [mV 41 9,oO 42 .add 41 1,mV 9 42])))
@[simp] def qg6 : List AOper:=
 [mV 68 8,oA1 69 655 68,mV 70 7,mV 4 69,mV 5 70]
@[simp] def qir : AFn:=nG [(.tmp 4),(.tmp 5)] (nS (nF [oP 4 (.mv (.c .nil)),oZ 5 false]) (nS (nF [mV 11 1,oO 12 .quo 11 15,mV 6 12]) (nS (nS (nF [mV 13 6,mV 14 0,oT 15 14,oN 16 .geq 13 15]) (nC 16 (nR [mV 17 0,oT 18 17,oO 19 .gtr 18 0,oP 4 (.mv (.c .nil)),mV 5 19]) .skip)) (nS (nT [mV 20 0,mV 21 6,oP 22 (.slice 1 (.t 20) none (some (.t 21)) none),oS 23 (.call (.f 600) [(.t 22),(.f 664)]),mV 24 23,oE 25 24 0,oE 26 24 6,gF 27 24 (.iaddr 1 (.t 25) (.t 26)),oG 28 24 false 1 27,oE 29 24 1,gF 30 24 (nX .rem 29 15),
 gF 31 24 (.bin .num .shl (.c (.int .i64 1)) (.t 30)),gF 32 24 (nX .sub 31 1),gF 33 24 (nY .and 28 32),gF 34 24 (nX .neq 33 0),oX 35 24 34,mV 7 35]) (nS (nF [oP 8 (.mv (.c .nil))]) (nS (nS (nF [mV 36 6,mV 9 36]) (.block 0 (.loop qc1))) (nS (.region false qg6) .ret)))))))
def qef : AC:=(nS (nS (nF [mV 18 4,oO 19 .gtr 18 0]) (nC 19 .skip (.exit 0))) (nS (.block 1 (nF [mV 22 3,oO 23 .add 22 1,mV 3 23])) (nF [mV 20 4,oP 21 (.bin .num .shr (.t 20) (.c (.int .u64 1))),mV 4 21])))
@[simp] def qgo : AFn:=nG [(.tmp 2)] (nS (nF [oP 2 (nV 0)]) (nS (nS (nF [mV 5 0,oT 6 5,oO 7 .eql 6 0]) (nC 7 (nR [oP 2 (nV 0)]) .skip)) (nS (nF [mV 8 0,oT 9 8,oO 10 .sub 9 1,oP 11 (.bin .num .mul (.c (.int .i64 15)) (.t 10)),mV 3 11]) (nS (nS (nF [mV 12 0,mV 13 0,oT 14 13,oO 15 .sub 14 1,oV 16 1 12 15,oJ 17 16,mV 4 17]) (.block 0 (.loop qef))) (nR [mV 24 3,mV 2 24])))))
def qed : AC:=(nS (nS (nF [mV 73 7,mV 74 11,mV 75 11,mV 76 9,oN 77 .add 75 76,oO 78 .add 77 1,oP 79 (.slice 1 (.t 73) (some (.t 74)) (some (.t 78)) none),mV 80 8,mV 81 12,oA3 82 665 79 80 81,oW 83 82]) (nC 83 .skip (.exit 2))) (.block 3 (nF [mV 84 12,oO 85 .sub 84 1,mV 12 85])))
def qc2 : AC:=(nS (nS (nF [mV 46 11,oO 47 .geq 46 0]) (nC 47 .skip (.exit 0))) (nS (.block 1 (nS (nT [mV 50 7,mV 51 11,mV 52 9,oN 53 .add 51 52,oV 54 1 50 53,oJ 55 54,oO 56 .mul 55 32768,mV 57 7,mV 58 11,mV 59 9,oN 60 .add 58 59,oO 61 .sub 60 1,oV 62 1 57 61,oJ 63 62,oN 64 .add 56 63,mV 65 8,mV 66 9,oO 67 .sub 66 1,oV 68 1 65 67,oJ 69 68,oN 70 .quo 64 69,mV 12 70]) (nS (nF [mV 71 12,oP 72 (.min (.t 71) (.c (.int .i64 32767))),mV 12 72]) (nS (.block 2 (.loop qed)) (nF [mV 86 10,mV 87 11,mV 88 12,oV 89 1 86 87,oK 1 89 88 false]))))) (nF [mV 48 11,
 oO 49 .sub 48 1,mV 11 49])))
@[simp] def qgm : AFn:=nG [(.tmp 4),(.tmp 5)] (nS (nF [oP 4 (.mv (.c .nil)),oZ 5 false]) (nS (nS (nF [mV 13 0,mV 14 1,oA2 15 662 13 14,oO 16 .lss 15 0]) (nC 16 (nR [mV 17 0,oT 18 17,oO 19 .gtr 18 0,oP 4 (.mv (.c .nil)),mV 5 19]) .skip)) (nS (nF [mV 20 1,oT 21 20,oP 22 (.bin .num .mul (.c (.int .i64 15)) (.t 21)),mV 23 1,oA1 24 657 23,oN 25 .sub 22 24,mV 6 25]) (nS (nF [mV 26 0,mV 27 6,oA2 28 659 26 27,oP 29 (.bslice 1 2 (.int .i64 0) [(0,(.c (.int .i64 0))),(1,(.c (.int .i64 0)))]),oP 30 (.append 1 8 (.t 28) (.t 29)),
 mV 31 1,mV 32 6,oA2 33 659 31 32,mV 7 30,mV 8 33]) (nS (nF [mV 34 8,oT 35 34,mV 9 35]) (nS (nF [mV 36 7,oT 37 36,mV 38 9,oN 39 .sub 37 38,oP 40 (.mkslice 1 8 (.int .i64 0) (.t 39) (.t 39)),mV 10 40]) (nS (nS (nF [mV 41 7,oT 42 41,mV 43 9,oN 44 .sub 42 43,oO 45 .sub 44 1,mV 11 45]) (.block 0 (.loop qc2))) (nR [mV 90 10,oA1 91 655 90,mV 92 7,oA1 93 655 92,oT 94 93,oO 95 .gtr 94 0,mV 4 91,mV 5 95]))))))))
def qhm : AC:=(nS (nF [oN 24 .lss 23 22]) (nS (nC 24 .skip (.exit 0)) (nS (.block 1 (nS (nF [oV 25 1 21 23,oJ 26 25,mV 8 26]) (nS (nF [mV 27 6,mV 28 8,mV 29 1,oO 30 .rem 29 15,oN 31 .shl 28 30,oN 32 .add 27 31,mV 6 32]) (nS (nF [mV 33 5,mV 34 6,oO 35 .rem 34 32768,oP 36 (.bslice 1 1 (.int .i64 0) [(0,(.t 35))]),oP 37 (.append 1 8 (.t 33) (.t 36)),mV 5 37]) (nF [mV 38 6,oO 39 .quo 38 32768,mV 6 39]))))) (nF [oO 40 .add 23 1,mV 23 40]))))
@[simp] def qib : AFn:=⟨[(.tmp 4)],(nS (nF [oP 4 (.mv (.c .nil))]) (nS (nS (nF [mV 9 0,oT 10 9,oO 11 .eql 10 0]) (nC 11 (nR [oP 4 (.mv (.c .nil))]) .skip)) (nS (nF [mV 12 1,oO 13 .quo 12 15,mV 14 1,oO 15 .quo 14 15,mV 16 0,oT 17 16,oN 18 .add 15 17,oO 19 .add 18 1,oP 20 (.mkslice 1 8 (.int .i64 0) (.t 13) (.t 19)),mV 5 20]) (nS (nF [oP 6 (nV 0)]) (nS (nS (nF [mV 21 0,oT 22 21,oP 23 (nV 0)]) (.block 0 (.loop qhm))) (nR [mV 41 5,mV 42 6,oP 43 (.bslice 1 1 (.int .i64 0) [(0,(.t 42))]),
 oP 44 (.append 1 8 (.t 41) (.t 43)),oA1 45 655 44,mV 4 45])))))),true,false⟩
@[simp] def qkr : AFn:=nG [(.cell 8 true 3),(.tmp 9)] (nS (nF [oU 4 3 0,oM 8,oZ 9 false]) (nS (nS (nF [oQ 14 1 4,oJ 15 14,oT 16 15,oO 17 .eql 16 0]) (nC 17 (nR [oP 18 (.build nD []),oK 3 8 18 false,oZ 9 true]) .skip)) (nS (nT [oQ 19 1 4,oJ 20 19,oA1 21 657 20,mV 22 2,oN 23 .sub 21 22,oQ 24 2 4,oJ 25 24,oP 26 (.bin .num .sub (.c (.int .i64 (-16384))) (.t 25)),oP 27 (.max3 (.t 23) (.t 26) (.c (.int .i64 0))),mV 10 27]) (nS (nF [oQ 29 1 4,oJ 30 29,mV 31 10,oA2 32 656 30 31,mV 28 32,oR 33 0 28,
 oR 34 1 28,mV 11 33,mV 12 34]) (nS (nF [oQ 35 0 4,oJ 36 35,mV 37 11,oQ 38 2 4,oJ 39 38,mV 40 10,oN 41 .add 39 40,oP 42 (.build nD [(0,1,(.t 36)),(1,1,(.t 37)),(2,1,(.t 41))]),oM 13,oK 3 13 42 false]) (nS (nS (nF [mV 43 12,mV 44 43,oE 45 44 1,oX 46 44 45,mV 47 46,oF 48 47 3,gT 49 47 (nA 0 4),oH 50 47 false 1 49,gT 51 47 (.bin .bool .neq (.t 48) (.t 50)),oY 52 47 51]) (nC 52 (nF [mV 53 11,oP 54 (.bslice 1 1 (.int .i64 0) [(0,(.c (.int .i64 1)))]),oA2 55 661 53 54,oQ 56 1 13,oK 1 56 55 false]) .skip)) (nS (nS (nT [oQ 57 1 13,
 oJ 58 57,oA1 59 657 58,oQ 60 2 13,oJ 61 60,oN 62 .add 59 61,oO 63 .gtr 62 16384,mV 64 63,gT 65 64 (nA 1 13),oH 66 64 false 1 65,gT 67 64 (.len (.t 66)),gT 68 64 (nX .gtr 67 0),oY 69 64 68]) (nC 69 (nS (nS (nF [mV 70 3,oQ 71 0 4,oJ 72 71,oP 73 (.bin .bool .neq (.t 70) (.t 72))]) (nC 73 (nR [oP 74 (.build nD []),oK 3 8 74 false,oZ 9 false]) .skip)) (nF [oP 75 (.bslice 1 1 (.int .i64 0) [(0,(.c (.int .i64 1)))]),mV 76 2,oA2 77 659 75 76,oP 78 (.bslice 1 1 (.int .i64 0) [(0,(.c (.int .i64 1)))]),
 oA2 79 663 77 78,mV 80 2,oP 81 (.bin .num .sub (.c (.int .i64 16384)) (.t 80)),oQ 82 1 13,oK 1 82 79 false,oQ 83 2 13,oK 1 83 81 false])) .skip)) (nR [oI 84 3 13,oK 3 8 84 false,oZ 9 true]))))))))
def qaf : AC:=(nS (nS (nF [mV 8 7,mV 9 0,oT 10 9,oN 11 .lss 8 10,mV 12 11,oE 13 12 7,oE 14 12 1,gF 15 12 (.len (.t 14)),gF 16 12 (nY .lss 13 15),oX 17 12 16,mV 18 17,oE 19 18 6,gF 20 18 (nX .gtr 19 0),oX 21 18 20]) (nC 21 .skip (.exit 0))) (nS (.block 1 (nS (nS (nF [mV 24 7,mV 25 0,oT 26 25,oN 27 .lss 24 26]) (nC 27 (nF [mV 28 6,mV 29 0,mV 30 7,oV 31 1 29 30,oJ 32 31,oN 33 .add 28 32,mV 6 33]) .skip)) (nS (nS (nF [mV 34 7,mV 35 1,oT 36 35,oN 37 .lss 34 36]) (nC 37 (nF [mV 38 6,
 mV 39 1,mV 40 7,oV 41 1 39 40,oJ 42 41,oN 43 .add 38 42,mV 6 43]) .skip)) (nS (nF [mV 44 5,mV 45 6,oO 46 .rem 45 32768,oP 47 (.bslice 1 1 (.int .i64 0) [(0,(.t 46))]),oP 48 (.append 1 8 (.t 44) (.t 47)),mV 5 48]) (nF [mV 49 6,oO 50 .quo 49 32768,mV 6 50]))))) (nF [mV 22 7,oO 23 .add 22 1,mV 7 23])))
@[simp] def qip : AFn:=⟨[(.tmp 4)],(nS (nF [oP 4 (.mv (.c .nil))]) (nS (nF [oP 5 (.mv (.c .nil))]) (nS (nF [oP 6 (nV 0)]) (nS (nS (nF [oP 7 (nV 0)]) (.block 0 (.loop qaf))) (nR [mV 51 5,oA1 52 655 51,mV 4 52]))))),false,true⟩
def qam : AC:=(nS (nS (nF [mV 19 5,oO 20 .geq 19 0]) (nC 20 .skip (.exit 0))) (nS (.block 1 (nS (nT [mV 23 0,mV 24 5,oV 25 1 23 24,oJ 26 25,mV 27 1,mV 28 5,oV 29 1 27 28,oJ 30 29,oN 31 .neq 26 30]) (nC 31 (nS (nT [mV 32 0,mV 33 5,oV 34 1 32 33,oJ 35 34,mV 36 1,mV 37 5,oV 38 1 36 37,oJ 39 38,oN 40 .sub 35 39,mV 4 40]) .ret) .skip))) (nF [mV 21 5,oO 22 .sub 21 1,mV 5 22])))
@[simp] def qf6 : AFn:=⟨[(.tmp 4)],(nS (nF [oP 4 (nV 0)]) (nS (nS (nF [mV 6 0,oT 7 6,mV 8 1,oT 9 8,oN 10 .neq 7 9]) (nC 10 (nR [mV 11 0,oT 12 11,mV 13 1,oT 14 13,oN 15 .sub 12 14,mV 4 15]) .skip)) (nS (nS (nF [mV 16 0,oT 17 16,oO 18 .sub 17 1,mV 5 18]) (.block 0 (.loop qam))) (nR [oP 4 (nV 0)])))),false,true⟩
def qaq : AC:=(nS (nF [oN 14 .lss 13 12]) (nS (nC 14 .skip (.exit 0)) (nS (.block 1 (nS (nF [mV 15 13,mV 7 15]) (nS (nF [mV 16 5,mV 17 7,oV 18 1 16 17,oJ 19 18,mV 20 6,oN 21 .sub 19 20,mV 8 21]) (nS (nS (nF [mV 22 7,mV 23 1,oT 24 23,oN 25 .lss 22 24]) (nC 25 (nF [mV 26 8,mV 27 1,mV 28 7,oV 29 1 27 28,oJ 30 29,oN 31 .sub 26 30,mV 8 31]) .skip)) (nS (nF [oP 6 (nV 0)]) (nS (nS (nF [mV 32 8,oO 33 .lss 32 0]) (nC 33 (nS (nF [mV 34 8,oO 35 .add 34 32768,
 mV 8 35]) (nF [oP 6 (nV 1)])) .skip)) (nF [mV 36 5,mV 37 7,mV 38 8,oV 39 1 36 37,oK 1 39 38 false]))))))) (nF [oO 40 .add 13 1,mV 13 40]))))
@[simp] def qhq : AFn:=⟨[(.tmp 4)],(nS (nF [oP 4 (.mv (.c .nil))]) (nS (nF [mV 9 0,oA1 10 666 9,mV 5 10]) (nS (nF [oP 6 (nV 0)]) (nS (nS (nF [mV 11 5,oT 12 11,oP 13 (nV 0)]) (.block 0 (.loop qaq))) (nR [mV 41 5,oA1 42 655 41,mV 4 42]))))),false,true⟩
@[simp] def qgl : AFn:=nG [(.tmp 2)] (nS (nF [oZ 2 false]) (nR [mV 3 0,oO 4 .neq 3 0,mV 2 4]))
def qfz : AC:=(nS (nF [oN 26 .lss 25 24]) (nS (nC 26 .skip (.exit 0)) (nS (.block 1 (nS (nF [mV 27 25,mV 9 27]) (nF [mV 28 0,mV 29 9,oV 30 1 28 29,⟨none,.store 1 (.t 30) (.c (.int .i64 0)),none,false⟩]))) (nF [oO 31 .add 25 1,mV 25 31]))))
@[simp] def qgx : AFn:=⟨[(.tmp 6)],(nS (nF [oZ 6 false]) (nS (nF [mV 10 1,mV 11 2,oP 12 (.bslice 1 1 (.int .i64 0) [(0,(.t 11))]),oA1 13 655 12,oA2 14 667 10 13,mV 7 14]) (nS (nS (nF [mV 15 0,oA1 16 655 15,mV 17 7,oA2 18 662 16 17,oO 19 .lss 18 0]) (nC 19 (nR [oZ 6 false]) .skip)) (nS (nF [mV 20 0,mV 21 7,oA2 22 663 20 21,mV 8 22]) (nS (nS (nF [mV 23 0,oT 24 23,oP 25 (nV 0)]) (.block 0 (.loop qfz))) (nS (nF [mV 32 0,mV 33 8,oP 34 (.copy 1 (.t 32) (.t 33))]) (nR [oZ 6 true]))))))),
  false,true⟩
@[simp] def qb3 : AFn:=⟨[(.tmp 2)],(nS (nF [oP 2 (.mv (.c .nil))]) (nS (nS (nF [mV 3 0,oP 4 (.bin .slice .eql (.t 3) (.c .nil))]) (nC 4 (nR [oP 2 (.mv (.c .nil))]) .skip)) (nR [oP 5 (.bslice 1 0 (.int .i64 0) []),mV 6 0,oP 7 (.append 1 8 (.t 5) (.t 6)),mV 2 7]))),true,true⟩
def qe7 : AC:=(nS (nF [oN 27 .lss 26 25]) (nS (nC 27 .skip (.exit 2)) (nS (.block 3 (nS (nF [mV 28 26,oV 29 1 24 26,oJ 30 29,mV 9 28,mV 10 30]) (nS (nF [mV 31 8,mV 32 5,mV 33 6,mV 34 9,oN 35 .add 33 34,oV 36 1 32 35,oJ 37 36,mV 38 7,mV 39 10,oN 40 .mul 38 39,oN 41 .add 37 40,oN 42 .add 31 41,mV 8 42]) (nS (nF [mV 43 5,mV 44 6,mV 45 9,oN 46 .add 44 45,mV 47 8,oO 48 .rem 47 32768,oV 49 1 43 46,oK 1 49 48 false]) (nF [mV 50 8,oO 51 .quo 50 32768,mV 8 51]))))) (nF [oO 52 .add 26 1,mV 26 52]))))
def qe6 : AC:=(nS (nF [oN 20 .lss 19 18]) (nS (nC 20 .skip (.exit 0)) (nS (.block 1 (nS (nF [mV 21 19,oV 22 1 17 19,oJ 23 22,mV 6 21,mV 7 23]) (nS (nF [oP 8 (nV 0)]) (nS (nS (nF [mV 24 1,oT 25 24,oP 26 (nV 0)]) (.block 2 (.loop qe7))) (nF [mV 53 5,mV 54 6,mV 55 1,oT 56 55,oN 57 .add 54 56,oV 58 1 53 57,oJ 59 58,mV 60 8,oN 61 .add 59 60,oV 62 1 53 57,oK 1 62 61 false]))))) (nF [oO 63 .add 19 1,mV 19 63]))))
@[simp] def qhn : AFn:=⟨[(.tmp 4)],(nS (nF [oP 4 (.mv (.c .nil))]) (nS (nF [mV 11 0,oT 12 11,mV 13 1,oT 14 13,oN 15 .add 12 14,oP 16 (.mkslice 1 8 (.int .i64 0) (.t 15) (.t 15)),mV 5 16]) (nS (nS (nF [mV 17 0,oT 18 17,oP 19 (nV 0)]) (.block 0 (.loop qe6))) (nR [mV 64 5,oA1 65 655 64,mV 4 65])))),false,true⟩
abbrev qkc : Nat:=12
abbrev qh5 : Nat:=18
abbrev qkd : Nat:=23
abbrev qer : Nat:=49
abbrev qlg : Nat:=54
abbrev qmr : Nat:=55
abbrev qms : Nat:=56
abbrev qmt : Nat:=57
abbrev qj7 : Nat:=60
abbrev qik : Nat:=63
abbrev qjd : Nat:=65
abbrev qj6 : Nat:=70
abbrev qmu : Nat:=74
abbrev qlf : Nat:=84
abbrev qn7 : Nat:=85
abbrev qle : Nat:=86
abbrev qkb : Nat:=87
abbrev qla : Nat:=91
abbrev qcl : Nat:=101
abbrev qj9 : Nat:=102
abbrev qka : Nat:=103
abbrev qij : Nat:=552
abbrev qj8 : Nat:=558
abbrev qld : Nat:=559
abbrev qlb : Nat:=560
abbrev qh4 : Nat:=561
abbrev qmq : Nat:=565
abbrev qc3 : Nat:=566
abbrev qmp : Nat:=567
abbrev qlc : Nat:=568
abbrev qds : Nat:=569
abbrev qg4 : Nat:=570
abbrev qg3 : Nat:=571
abbrev qeq : Nat:=600
abbrev qgb : Nat:=605
abbrev qhc : Nat:=620
abbrev qkh : Nat:=621
abbrev qkf : Nat:=622
abbrev qkg : Nat:=623
abbrev qpr : Nat:=624
abbrev qj5 : Nat:=625
abbrev qoc : Nat:=626
abbrev qjc : Nat:=627
abbrev qtx : Nat:=628
abbrev qke : Nat:=629
abbrev qpj : Nat:=630
abbrev qlh : Nat:=631
abbrev qtu : Nat:=632
abbrev qi1 : Nat:=633
abbrev qh7 : Nat:=634
abbrev qli : Nat:=635
abbrev qpo : Nat:=636
abbrev qpl : Nat:=637
abbrev qpm : Nat:=638
abbrev qr2 : Nat:=639
abbrev qpp : Nat:=640
abbrev qcp : Nat:=641
abbrev qmw : Nat:=642
abbrev qcj : Nat:=643
abbrev qb0 : Nat:=644
abbrev qpk : Nat:=645
abbrev qrz : Nat:=646
abbrev qmy : Nat:=647
abbrev qlj : Nat:=648
abbrev qmv : Nat:=649
abbrev qn8 : Nat:=650
abbrev qr0 : Nat:=651
abbrev qtw : Nat:=652
abbrev qmx : Nat:=653
abbrev qfq : Nat:=654
abbrev qgu : Nat:=655
abbrev qr3 : Nat:=656
abbrev qob : Nat:=657
abbrev qoa : Nat:=658
abbrev qqt : Nat:=659
abbrev qtv : Nat:=660
abbrev qr1 : Nat:=661
abbrev qh6 : Nat:=662
abbrev qpq : Nat:=663
abbrev qn9 : Nat:=664
abbrev qry : Nat:=665
abbrev qh3 : Nat:=666
abbrev qpn : Nat:=667
def fnList : List (Nat × AFn):=
 [(12,qd7),
  (18,qfy),
  (23,qd8),
  (49,qe1),
  (54,qe2),
  (55,qfu),
  (56,qfv),
  (57,qfw),
  (60,qd2),
  (63,qdb),
  (65,qdl),
  (70,qd1),
  (74,qfx),
  (84,qe0),
  (85,qgi),
  (86,qez),
  (87,qd6),
  (91,qes),
  (101,qey),
  (102,qd4),
  (103,qd5),
  (552,qc9),
  (558,qd3),
  (559,qex),
  (560,qet),
  (561,qcz),
  (565,qfs),
  (566,qc4),
  (567,qfr),
  (568,qew),
  (569,qft),
  (570,qev),
  (571,qeu),
  (600,qbj),
  (605,qb2),
  (620,qcr),
  (621,qec),
  (622,qea),
  (623,qeb),
  (624,qhr),
  (625,qd0),
  (626,qgp),
  (627,qdk),
  (628,qkt),
  (629,qd9),
  (630,qhi),
  (631,qe3),
  (632,qkq),
  (633,qgn),
  (634,qf7),
  (635,qe8),
  (636,qho),
  (637,qhk),
  (638,qhl),
  (639,qiq),
  (640,qhp),
  (641,qhs),
  (642,qf3),
  (643,qbb),
  (644,qfa),
  (645,qhj),
  (646,qin),
  (647,qf5),
  (648,qe9),
  (649,qf0),
  (650,qgj),
  (651,qio),
  (652,qks),
  (653,qf4),
  (654,qbv),
  (655,qim),
  (656,qir),
  (657,qgo),
  (658,qgm),
  (659,qib),
  (660,qkr),
  (661,qip),
  (662,qf6),
  (663,qhq),
  (664,qgl),
  (665,qgx),
  (666,qb3),
  (667,qhn)]
section
variable {S : AProg}
def WC (S:AProg)(n0:Nat)(c:AC)(E:Env)(H:Heap)(Q:AX->Env->Heap->Prop):Prop:=
 ∃x E1 H1,Ev S (.code n0 c E H) (.cd x E1 H1)/\Q x E1 H1
def WO (S:AProg)(n0:Nat)(d:Bool)(l:List AOper)(E:Env)(H:Heap)(Q:Env->Heap->Prop):Prop:=
 ∃E1 H1,Ev S (.ops n0 d l E H) (.cd .normal E1 H1)/\Q E1 H1
def CT (S:AProg)(g:Nat)(args:List V)(H:Heap)(Q:V->Heap->Prop):Prop:=
 ∃v H1,Ev S (.call g args H) (.ret v H1)/\Q v H1
def CQ (S:AProg)(g:Nat)(args:List V)(v:V):Prop:=∀H,Ev S (.call g args H) (.ret v H)
variable {n0 : Nat} {E : Env} {H : Heap} {Q : AX → Env → Heap → Prop} {R : Env → Heap → Prop} {d : Bool}
theorem WC.mono {c:AC}{Q':AX->Env->Heap->Prop}(h:WC S n0 c E H Q)(hq:∀x E H,Q x E H->Q' x E H):WC S n0 c E H Q':=
 let ⟨x,E1,H1,e,q⟩:=h;⟨x,E1,H1,e,hq _ _ _ q⟩
theorem WO.mono {l:List AOper}{R':Env->Heap->Prop}(h:WO S n0 d l E H R)(hq:∀E H,R E H->R' E H):WO S n0 d l E H R':=
 let ⟨E1,H1,e,q⟩:=h;⟨E1,H1,e,hq _ _ q⟩
theorem CT.mono {g:Nat}{args:List V}{Q Q':V->Heap->Prop}(h:CT S g args H Q)(hq:∀v H,Q v H->Q' v H):CT S g args H Q':=
 let ⟨v,H1,e,q⟩:=h;⟨v,H1,e,hq _ _ q⟩
theorem qxz (h:Q .normal E H):WC S n0 .skip E H Q:=⟨_,_,_,.skip,h⟩
theorem qx1 {id:Nat}(h:Q (.exit id) E H):WC S n0 (.exit id) E H Q:=⟨_,_,_,.exit,h⟩
theorem qzi (h:Q .ret E H):WC S n0 .ret E H Q:=⟨_,_,_,.ret,h⟩
def AX.thn (K:Env->Heap->Prop)(Q:AX->Env->Heap->Prop):AX->Env->Heap->Prop
 | .normal,E,H=>K E H
 |x,E,H=>Q x E H
theorem qzh {a b:AC}(h:WC S n0 a E H (AX.thn (fun E H=>WC S n0 b E H Q) Q)):WC S n0 (.seq a b) E H Q:=by
 obtain⟨x,E1,H1,e,q⟩:=h;cases x with
 |normal=>obtain⟨y,E2,H2,e2,q2⟩:=q;exact⟨y,E2,H2,.seqN e e2,q2⟩
 |exit id=>exact⟨_,_,_,.seqX e (by simp),q⟩
 |ret=>exact⟨_,_,_,.seqX e (by simp),q⟩
theorem qus {c:X}{a b:AC}{t:Bool}(hc:getX E c=.bool t)(h1:t=true->WC S n0 a E H Q)(h2:t=false->WC S n0 b E H Q):WC S n0 (.cond c a b) E H Q:=by
 cases t with
 |true=>obtain⟨x,E1,H1,e,q⟩:=h1 rfl;exact⟨x,E1,H1,.cond hc (by simpa using e),q⟩
 |false=>obtain⟨x,E1,H1,e,q⟩:=h2 rfl;exact⟨x,E1,H1,.cond hc (by simpa using e),q⟩
theorem qxy {c:X}{a b:AC}(hc:getX E c=.bool true)(h:WC S n0 a E H Q):WC S n0 (.cond c a b) E H Q:=qus hc (fun _=>h) (by simp)
theorem qv9 {c:X}{a b:AC}(hc:getX E c=.bool false)(h:WC S n0 b E H Q):WC S n0 (.cond c a b) E H Q:=qus hc (by simp) (fun _=>h)
theorem qwa {id:Nat}{c:AC}(h:WC S n0 c E H (fun x E H=>Q (x.outOf id) E H)):WC S n0 (.block id c) E H Q:=by
 obtain⟨x,E1,H1,e,q⟩:=h;exact⟨_,_,_,.block e,q⟩
theorem qv8 {c:AC}(h:WC S n0 c E H Q):WC S n0 (.scope c) E H Q:=by
 obtain⟨x,E1,H1,e,q⟩:=h;exact⟨_,_,_,.scope e,q⟩
theorem qur {l:List AOper}(h:WO S n0 d l E H (fun E H=>Q .normal E H)):WC S n0 (.region d l) E H Q:=by
 obtain⟨E1,H1,e,q⟩:=h;exact⟨_,_,_,.region e,q⟩
theorem qx0 {c:AC}(I:Nat->Env->Heap->Prop)(k:Nat)(h0:I k E H)
 (round:∀k E H,I k E H->WC S n0 c E H (AX.thn (fun E1 H1=>∃j,j<k/\I j E1 H1) Q)):WC S n0 (.loop c) E H Q:=by
 induction k using Nat.strongRecOn generalizing E H with
 |_ k ih=>
  obtain⟨x,E1,H1,e,q⟩:=round k E H h0;cases x with
  |normal=>
   obtain⟨j,hj,hI⟩:=q;obtain⟨y,E2,H2,e2,q2⟩:=ih j hj hI;exact⟨y,E2,H2,.loopN e e2,q2⟩
  |exit id=>exact⟨_,_,_,.loopX e (by simp),q⟩
  |ret=>exact⟨_,_,_,.loopX e (by simp),q⟩
theorem qzb (h:R E H):WO S n0 d [] E H R:=⟨_,_,.opNil,h⟩
def qum (S:AProg)(n0:Nat)(d:Bool)(dst:Option Nat)(x:X)(xs:List X)(gu:Option (Nat × Bool))(sy:Bool)(l:List AOper)(E:Env)(H:Heap)(R:Env->Heap->Prop):Prop:=
 WO S n0 d (⟨dst,.call x xs,gu,sy⟩ :: l) E H R
def stepP (S:AProg)(n0:Nat)(d:Bool)(dst:Option Nat)(op:AOp)(gu:Option (Nat × Bool))(sy:Bool)(l:List AOper)(E:Env)(H:Heap)(R:Env->Heap->Prop):Prop:=
 match gd ⟨dst,op,gu,sy⟩ E with
 |some false=>WO S n0 d l (put E dst .undef) H R
 |some true=>
  match op with
  | .call x xs=>qum S n0 d dst x xs none sy l E H R
  |op=>
   match stp n0 op E H with
   |some (v,H1)=>((d&&!sy)=true->H <+: H1)/\WO S n0 d l (put E dst v) H1 R
   |none=>False
 |none=>False
theorem qxt {dst:Option Nat}{op:AOp}{gu:Option (Nat × Bool)}{sy:Bool}{l:List AOper}(h:stepP S n0 d dst op gu sy l E H R):WO S n0 d (⟨dst,op,gu,sy⟩ :: l) E H R:=by
 unfold stepP at h;split at h
 ·rename_i hg;obtain⟨E1,H1,e,q⟩:=h;exact⟨_,_,.opSkip hg e,q⟩
 ·rename_i hg;split at h
  ·obtain⟨E1,H1,e,q⟩:=h;refine⟨E1,H1,?_,q⟩;cases e with
   |opSkip hg' _=>simp[gd]at hg'
   |opDo _ hs _ _=>cases hs
   |opCall _ ho hx hp e1 hpre e2=>exact .opCall hg ho hx hp e1 hpre e2
  ·split at h
   ·rename_i v H1 hs;obtain⟨hp,E1,H2,e,q⟩:=h;exact⟨_,_,.opDo hg hs (fun hd hsy=>hp (by simp[hd];simpa using hsy)) e,q⟩
   ·exact h.elim
 ·exact h.elim
theorem qzc {dst:Option Nat}{op:AOp}{gu:Option (Nat × Bool)}{sy:Bool}{l:List AOper}:WO S n0 d (⟨dst,op,gu,sy⟩ :: l) E H R↔stepP S n0 d dst op gu sy l E H R:=by
 refine⟨fun h=>?_,qxt⟩;obtain⟨E1,H1,e,q⟩:=h;unfold stepP;cases e with
 |opSkip hg e1=>rw[hg];exact⟨_,_,e1,q⟩
 |opDo hg hs hp e1=>
  rw[hg];cases op<;>first
   | (cases hs;done)
   | (simp only[]at hs ⊢;rw[hs];exact⟨fun h=>by simp at h;exact hp h.1 h.2,_,_,e1,q⟩)
 |opCall hg ho hx hp e1 hpre e2=>
  simp only[]at ho;subst ho;rw[hg];exact⟨_,_,.opCall rfl rfl hx hp e1 hpre e2,q⟩
theorem qsh : WO S n0 d [] E H R↔R E H:=by
 refine⟨fun h=>?_,qzb⟩;obtain⟨E1,H1,e,q⟩:=h;cases e;exact q
theorem qk8 {dst:Option Nat}{sy:Bool}{l:List AOper}{x:X}{args caps vs:List V}{xs:List X}{g:Nat}{H1:Heap}(hx:getX E x=.fn g caps)
 (ha:xs.map (getX E)++caps=args) (hp:prep S g H args=some (vs,H1))
 (h:CT S g vs H1 (fun v H2=>((d&&!sy)=true->H <+: H2)/\WO S n0 d l (put E dst v) H2 R)):qum S n0 d dst x xs none sy l E H R:=by
 obtain⟨v,H2,e,hpre,E1,H3,e1,q⟩:=h;subst ha;exact⟨_,_,.opCall rfl rfl hx hp e (fun hd hsy=>hpre (by simp[hd];simpa using hsy)) e1,q⟩
theorem CQ.ct {g:Nat}{args:List V}{v:V}{Q:V->Heap->Prop}(h:CQ S g args v)(hq:Q v H):CT S g args H Q:=⟨_,_,h H,hq⟩
theorem CQ_of {g:Nat}{f:AFn}{args:List V}{v:V}(hf:S.fn g=some f)
 (h:∀H,WC S H.length f.body (E0 args) H (fun x E1 H1=>(x=.normal\/x=.ret)/\∃v0,resV E1 H1 f.results=some v0/\fin f.own H.length H1 v0=some (v,H))):CQ S g args v:=by
 intro H;obtain⟨x,E1,H1,e,hx,v0,hr,hfin⟩:=h H;exact .call hf e hx hr hfin
theorem CT_of {g:Nat}{f:AFn}{args:List V}{Q:V->Heap->Prop}(hf:S.fn g=some f)
 (h:WC S H.length f.body (E0 args) H (fun x E1 H1=>(x=.normal\/x=.ret)/\∃v0 v H2,resV E1 H1 f.results=some v0/\fin f.own H.length H1 v0=some (v,H2)/\Q v H2)):CT S g args H Q:=by
 obtain⟨x,E1,H1,e,hx,v0,v,H2,hr,hfin,hq⟩:=h;exact⟨_,_,.call hf e hx hr hfin,hq⟩
end
theorem qnf (E:Env)(d:Nat)(v:V)(i:Nat):upd E d v i=if i=d then v else E i:=rfl
theorem wrap_i64 {n:Int}(h1:-9223372036854775808<=n)(h2:n<9223372036854775808):IntKind.wrap .i64 n=n:=by
 simp[IntKind.wrap,IntKind.bits,IntKind.signed];split<;>omega
theorem qqf {n:Int}(h1:0<=n)(h2:n<4294967296):IntKind.wrap .u32 n=n:=by
 simp only[IntKind.wrap,IntKind.bits,IntKind.signed];simp;omega
theorem qa1 {n:Int}(h1:0<=n)(h2:n<18446744073709551616):IntKind.wrap .u64 n=n:=by
 simp only[IntKind.wrap,IntKind.bits,IntKind.signed];simp;omega
end Go.Abs
namespace Go.Abs
def prog : AProg:=⟨look fnList,fun _ _=>none⟩
def qat (z bytes:Nat)(x y:V)(H:Heap):Option (V × Heap):=
 (elems H y).bind fun ys=>
  if qbl z ys=true then
   match x with
   | .nil=>
    if ys=[]then some (.nil,H)
    else if qag ys.length bytes=true then some (.ref H.length z 0 ys.length,H++[some ⟨z,ys,true,true⟩])else none
   | .ref b z' off len=>
    match H[b]? with
    |some (some k)=>
     if k.arr=true/\k.wr=true/\k.z=z/\z'=z/\off+len<=k.el.length/\qag (len+ys.length) bytes=true then
      if ys=[]then some (.ref b z' off len,H)
      else some (.ref H.length z 0 (len+ys.length),H.set b none++[some ⟨z,(k.el.drop off).take len++ys,true,true⟩])
     else none
    |_=>none
   |_=>none
  else none
theorem qri {n0 z bytes:Nat}{x y:X}{E:Env}{H:Heap}:stp n0 (.append z bytes x y) E H=qat z bytes (getX E x) (getX E y) H:=rfl
theorem qyk {n0:Nat}{E:Env}{H:Heap}{x:X}:stp n0 (.mv x) E H=(some (getX E x,H)):=rfl
theorem qu6 {n0:Nat}{E:Env}{H:Heap}{c a b:X}:stp n0 (.pick c a b) E H =
 match getX E c with
 | .bool t=>some (if t then getX E a else getX E b,H)
 |_=>none:=rfl
theorem qwy {n0:Nat}{E:Env}{H:Heap}{z:Nat}{x:X}:stp n0 (.box z x) E H =
 if(getX E x).cells.length=z/\(getX E x).isTup=false then some (.ptr H.length 0 0,H++[some ⟨z,[getX E x],false,true⟩])else none:=rfl
theorem qwu {n0:Nat}{E:Env}{H:Heap}{z:Nat}{v:V}:stp n0 (.new z v) E H=(if v.cells.length=z/\v.pure=true then some (.ptr H.length 0 0,H++[some ⟨z,[v],false,true⟩])else none):=rfl
theorem qs0 {n0:Nat}{E:Env}{H:Heap}{zero:List V}{parts:List (Nat × Nat × X)}:stp n0 (.build zero parts) E H =
 if zero.all V.cellPure=true then(fillC zero (parts.map fun p=>(p.1,p.2.1,getX E p.2.2))).map fun cs=>(.agg cs,H)else none:=rfl
theorem qrh {n0:Nat}{E:Env}{H:Heap}{z len:Nat}{zero:V}{parts:List (Nat × X)}:stp n0 (.bslice z len zero parts) E H =
 if zero.cells.length=z/\zero.pure=true then
  (qbo H (parts.map fun p=>getX E p.2)).bind fun(vs,H1)=>
   (fillE z (List.replicate len zero) ((parts.map (·.1)).zip vs)).map fun el=>(.ref H1.length z 0 len,H1++[some ⟨z,el,true,true⟩])
 else none:=rfl
theorem qu5 {n0:Nat}{E:Env}{H:Heap}{z len:Nat}{zero:V}{parts:List (Nat × X)}:stp n0 (.plit z len zero parts) E H =
 if zero.cells.length=z/\zero.pure=true then
  (qbo [] (parts.map fun p=>getX E p.2)).bind fun q=>
   (fillE z (List.replicate len zero) ((parts.map (·.1)).zip q.1)).bind fun el=>if 0+len<=el.length then some (.sl ((el.drop 0).take len),H)else none
 else none:=rfl
theorem qu9 {n0:Nat}{E:Env}{H:Heap}{ag:Bool}{z:Nat}{x:X}:stp n0 (.load ag z x) E H =
 match getX E x with
 | .eptr cs=>(wrapC ag z cs).map fun v=>(v,H)
 | .ptr b i off=>
  match H[b]? with
  |some (some k)=>
   match k.el[i]? with
   |some e=>(wrapC ag z (e.cells.drop off)).map fun v=>(v,H)
   |none=>none
  |_=>none
 |_=>none:=rfl
theorem qst {n0:Nat}{E:Env}{H:Heap}{z:Nat}{a x:X}:stp n0 (.store z a x) E H=(qfk n0 z (getX E a) (getX E x) H):=rfl
theorem qsu {n0:Nat}{E:Env}{H:Heap}{ag:Bool}{z t:Nat}:stp n0 (.sload ag z t) E H =
 match E t with
 | .eptr cs=>(wrapC ag z cs).map fun v=>(v,H)
 | .ptr b i off=>
  match H[b]? with
  |some (some k)=>
   match k.el[i]? with
   |some e=>(wrapC ag z (e.cells.drop off)).bind fun v=>if v.cells.all (V.lowB H.length)=true/\v.isTup=false then some (v,H)else none
   |none=>none
  |_=>none
 |_=>none:=rfl
theorem qrf {n0:Nat}{E:Env}{H:Heap}{z:Nat}{a x:X}{av:List Nat}:stp n0 (.storeN z a x av) E H=(if(getX E x).pure=true/\(av.all fun t=>apart (E t) (getX E a))=true then qfk n0 z (getX E a) (getX E x) H else none):=rfl
theorem qwz {n0:Nat}{E:Env}{H:Heap}{bk:BK}{op:BinOp}{x y:X}:stp n0 (.bin bk op x y) E H=((binV bk op (getX E x) (getX E y)).map fun v=>(v,H)):=rfl
theorem qyj {n0:Nat}{E:Env}{H:Heap}{op:UnOp}{x:X}:stp n0 (.un op x) E H=((unV op (getX E x)).map fun v=>(v,H)):=rfl
theorem qvc {n0:Nat}{E:Env}{H:Heap}{k:IntKind}{x:X}:stp n0 (.conv k x) E H =
 match getX E x with
 | .int _ n=>some (.int k (k.wrap n),H)
 |_=>none:=rfl
theorem qu7 {n0:Nat}{E:Env}{H:Heap}{g:Nat}{caps:List X}:stp n0 (.mkfn g caps) E H=(if(caps.map (getX E)).all V.isCell=true then some (.fn g (caps.map (getX E)),H)else none):=rfl
theorem qo9 {n0:Nat}{E:Env}{H:Heap}{z bytes:Nat}{zero:V}{l c:X}:stp n0 (.mkslice z bytes zero l c) E H =
 match natOf (getX E l),natOf (getX E c)with
 |some l,some c=>
  if l<=c/\c*bytes<=281474976710656/\c<=9223372036854775807/\zero.cells.length=z/\zero.pure=true then
   some (.ref H.length z 0 l,H++[some ⟨z,List.replicate c zero,true,true⟩])
  else none
 |_,_=>none:=rfl
theorem qpb {n0 z bytes:Nat}{zero:V}{x n:X}{E:Env}{H:Heap}:stp n0 (.appendZ z bytes zero x n) E H =
 match getX E x,natOf (getX E n)with
 | .nil,some m=>
  if 0<m/\m*bytes<=140737488355328/\m<=9223372036854775807/\zero.cells.length=z/\zero.pure=true then some (.ref H.length z 0 m,H++[some ⟨z,List.replicate m zero,true,true⟩])else none
 |_,_=>none:=rfl
theorem qsv {n0:Nat}{E:Env}{H:Heap}{z:Nat}{x:X}{lo hi mx:Option X}:stp n0 (.slice z x lo hi mx) E H =
 match getX E x with
 | .nil=>
  match qa2 E 0 lo,qa2 E 0 hi,qa2 E 0 mx with
  |some 0,some 0,some 0=>some (.nil,H)
  |_,_,_=>none
 | .sl l=>
  match qa2 E 0 lo,qa2 E l.length hi,qa2 E l.length mx with
  |some lo,some hi,some mx=>
   if lo<=hi/\hi<=mx/\mx<=l.length/\(lo=0\/qbl z ((l.take hi).drop lo)=true)then some (.sl ((l.take hi).drop lo),H)else none
  |_,_,_=>none
 | .ref b z' off len=>
  match qa2 E 0 lo,qa2 E len hi,mx with
  |some lo,some hi,none=>if lo<=hi/\hi<=len/\z'=z then some (.ref b z' (off+lo) (hi-lo),H)else none
  |_,_,_=>none
 |_=>none:=rfl
theorem qsz {n0:Nat}{E:Env}{H:Heap}{off:Nat}{x:X}:stp n0 (.faddr off x) E H =
 match getX E x with
 | .ptr b i o=>some (.ptr b i (o+off),H)
 | .eptr cs=>some (.eptr (cs.drop off),H)
 |_=>none:=rfl
theorem qsy {n0:Nat}{E:Env}{H:Heap}{ag:Bool}{off z:Nat}{x:X}:stp n0 (.field ag off z x) E H =
 match getX E x with
 | .agg cs=>(wrapC ag z (cs.drop off)).map fun v=>(v,H)
 |_=>none:=rfl
theorem qsx {n0:Nat}{E:Env}{H:Heap}{z:Nat}{x i:X}:stp n0 (.iaddr z x i) E H =
 match getX E x,natOf (getX E i)with
 | .sl l,some i=>
  match l[i]? with
  |some e=>if e.cells.length=z then some (.eptr e.cells,H)else none
  |none=>none
 | .ref b z' off len,some i=>if i<len/\z'=z then some (.ptr b (off+i) 0,H)else none
 |_,_=>none:=rfl
theorem qrj {n0:Nat}{E:Env}{H:Heap}{n z:Nat}{x i:X}:stp n0 (.aiaddr n z x i) E H =
 match getX E x,natOf (getX E i)with
 | .ptr b j off,some i=>if i<n then some (.ptr b j (off+i*z),H)else none
 | .eptr cs,some i=>if i<n then some (.eptr (cs.drop (i*z)),H)else none
 |_,_=>none:=rfl
theorem qsw {n0:Nat}{E:Env}{H:Heap}{ag:Bool}{n z:Nat}{x i:X}:stp n0 (.index ag n z x i) E H =
 match getX E x,natOf (getX E i)with
 | .agg cs,some i=>if i<n then(wrapC ag z (cs.drop (i*z))).map fun v=>(v,H)else none
 |_,_=>none:=rfl
theorem qrg {n0:Nat}{E:Env}{H:Heap}{x i:X}:stp n0 (.sindex x i) E H =
 match getX E x,natOf (getX E i)with
 | .str s,some i=>
  match s[i]? with
  |some b=>some (.int .u8 b.toNat,H)
  |none=>none
 |_,_=>none:=rfl
theorem qpa {n0:Nat}{E:Env}{H:Heap}{i:Nat}{x:X}:stp n0 (.extract i x) E H =
 match getX E x with
 | .tup vs=>(vs[i]?).map fun v=>(v,H)
 |_=>none:=rfl
theorem qwx {n0:Nat}{E:Env}{H:Heap}{x:X}:stp n0 (.len x) E H =
 match getX E x with
 | .sl l=>some (.int .i64 l.length,H)
 | .nil=>some (.int .i64 0,H)
 | .emp=>some (.int .i64 0,H)
 | .ref _ _ _ len=>some (.int .i64 len,H)
 |_=>none:=rfl
theorem qva {n0:Nat}{E:Env}{H:Heap}{n:Nat}{x:X}:stp n0 (.lenc n x) E H=(some (.int .i64 n,H)):=rfl
theorem qvd {n0:Nat}{E:Env}{H:Heap}{x:X}:stp n0 (.capn x) E H =
 match getX E x with
 | .nil=>some (.int .i64 0,H)
 |_=>none:=rfl
theorem qvb {n0:Nat}{E:Env}{H:Heap}{z:Nat}{x y:X}:stp n0 (.copy z x y) E H =
 match getX E x with
 | .ref b z' off len=>
  (elems H (getX E y)).bind fun ys=>
   match H[b]? with
   |some (some k)=>
    if k.arr=true/\k.wr=true/\k.z=z/\z'=z/\qbl z ys=true/\off+len<=k.el.length then
     some (.int .i64 (Nat.min ys.length len),H.set b (some { k with el:=qbx k.el off (ys.take len) }))
    else none
   |_=>none
 |_=>none:=rfl
theorem qwv {n0:Nat}{E:Env}{H:Heap}{x y:X}:stp n0 (.min x y) E H =
 match getX E x,getX E y with
 | .int k a,.int k' b=>if k=k' then some (.int k (if b<a then b else a),H)else none
 |_,_=>none:=rfl
theorem qww {n0:Nat}{E:Env}{H:Heap}{x y:X}:stp n0 (.max x y) E H =
 match getX E x,getX E y with
 | .int k a,.int k' b=>if k=k' then some (.int k (if a<b then b else a),H)else none
 |_,_=>none:=rfl
theorem qu8 {n0:Nat}{E:Env}{H:Heap}{x y z:X}:stp n0 (.max3 x y z) E H =
 match getX E x,getX E y,getX E z with
 | .int k a,.int k' b,.int k'' c=>if k=k'/\k=k'' then some (.int k (if(if a<b then b else a)<c then c else if a<b then b else a),H)else none
 |_,_,_=>none:=rfl
attribute [simp] qu8 qri qyk qu6 qwy qwu qs0 qrh qu5 qu9 qst qsu qrf qwz qyj qvc qu7 qo9 qpb qsv qsz qsy qsx qrj qsw qrg qpa qwx qva qvd qvb qwv qww
inductive Fr where
 |seq (b:AC)
 |blk (id:Nat)
section
variable {S : AProg} {n0 : Nat} {Q : AX → Env → Heap → Prop}
def WP (S:AProg)(n0:Nat)(Q:AX->Env->Heap->Prop):List Fr->AX->Env->Heap->Prop
 | [],x,E,H=>Q x E H
 | .seq b :: K,.normal,E,H=>WC S n0 b E H (fun x E H=>WP S n0 Q K x E H)
 | .seq _ :: K,x,E,H=>WP S n0 Q K x E H
 | .blk id :: K,x,E,H=>WP S n0 Q K (x.outOf id) E H
def WK (S:AProg)(n0:Nat)(c:AC)(K:List Fr)(E:Env)(H:Heap)(Q:AX->Env->Heap->Prop):Prop:=WC S n0 c E H (fun x E H=>WP S n0 Q K x E H)
def WL (S:AProg)(n0:Nat)(d:Bool)(l:List AOper)(K:List Fr)(E:Env)(H:Heap)(Q:AX->Env->Heap->Prop):Prop:=WO S n0 d l E H (fun E H=>WP S n0 Q K .normal E H)
theorem qjj {c:AC}{E:Env}{H:Heap}(h:WK S n0 c [] E H Q):WC S n0 c E H Q:=h
theorem qza {x:AX}{E:Env}{H:Heap}:WP S n0 Q [] x E H↔Q x E H:=Iff.rfl
theorem qy9 {b:AC}{K:List Fr}{E:Env}{H:Heap}:WP S n0 Q (.seq b :: K) .normal E H↔WK S n0 b K E H Q:=Iff.rfl
theorem qp5 {b:AC}{K:List Fr}{id:Nat}{E:Env}{H:Heap}:WP S n0 Q (.seq b :: K) (.exit id) E H↔WP S n0 Q K (.exit id) E H:=Iff.rfl
theorem qsg {b:AC}{K:List Fr}{E:Env}{H:Heap}:WP S n0 Q (.seq b :: K) .ret E H↔WP S n0 Q K .ret E H:=Iff.rfl
theorem WP_blk {id:Nat}{K:List Fr}{x:AX}{E:Env}{H:Heap}:WP S n0 Q (.blk id :: K) x E H↔WP S n0 Q K (x.outOf id) E H:=by cases x<;>exact Iff.rfl
theorem qp8 {c:AC}{E:Env}{H:Heap}{Q':AX->Env->Heap->Prop}(h:WC S n0 c E H Q)(hq:∀x E H,Q x E H->Q' x E H):WC S n0 c E H Q':=by
 obtain⟨x,E1,H1,e,q⟩:=h;exact⟨x,E1,H1,e,hq _ _ _ q⟩
theorem qsj {a b:AC}{K:List Fr}{E:Env}{H:Heap}:WK S n0 (.seq a b) K E H Q↔WK S n0 a (.seq b :: K) E H Q:=by
 constructor
 ·rintro⟨x,E1,H1,e,q⟩;cases e with
  |seqN e1 e2=>exact⟨.normal,_,_,e1,_,_,_,e2,q⟩
  |seqX e1 hx=>
   refine⟨x,E1,H1,e1,?_⟩;cases x with
   |normal=>exact absurd rfl hx
   |exit id=>exact q
   |ret=>exact q
 ·intro h;refine qzh (qp8 h fun x E1 H1 q=>?_);cases x with
  |normal=>exact q
  |exit id=>exact q
  |ret=>exact q
theorem qf9 {x:X}{a b:AC}{K:List Fr}{E:Env}{H:Heap}:WK S n0 (.cond x a b) K E H Q↔match getX E x with| .bool true=>WK S n0 a K E H Q| .bool false=>WK S n0 b K E H Q|_=>False:=by
 constructor
 ·rintro⟨y,E1,H1,e,q⟩;cases e with
  | @cond _ _ _ _ _ _ t _ hc e1=>
   rw[hc];cases t with
   |true=>exact⟨_,_,_,by simpa using e1,q⟩
   |false=>exact⟨_,_,_,by simpa using e1,q⟩
 ·intro h;split at h
  ·rename_i hc;exact qxy hc h
  ·rename_i hc;exact qv9 hc h
  ·exact h.elim
theorem qo3 {id:Nat}{c:AC}{K:List Fr}{E:Env}{H:Heap}:WK S n0 (.block id c) K E H Q↔WK S n0 c (.blk id :: K) E H Q:=by
 constructor
 ·rintro⟨y,E1,H1,e,q⟩;cases e with
  |block e1=>exact⟨_,_,_,e1,WP_blk.2 q⟩
 ·intro h;exact qwa (qp8 h fun x E1 H1 q=>WP_blk.1 q)
theorem qo2 {c:AC}{K:List Fr}{E:Env}{H:Heap}:WK S n0 (.scope c) K E H Q↔WK S n0 c K E H Q:=by
 constructor
 ·rintro⟨y,E1,H1,e,q⟩;cases e with
  |scope e1=>exact⟨_,_,_,e1,q⟩
 ·intro h;exact qv8 h
theorem qna {d:Bool}{l:List AOper}{K:List Fr}{E:Env}{H:Heap}:WK S n0 (.region d l) K E H Q↔WL S n0 d l K E H Q:=by
 constructor
 ·rintro⟨y,E1,H1,e,q⟩;cases e with
  |region e1=>exact⟨_,_,e1,q⟩
 ·intro h;exact qur h
theorem qp6 {K:List Fr}{E:Env}{H:Heap}:WK S n0 .skip K E H Q↔WP S n0 Q K .normal E H:=⟨by rintro⟨y,E1,H1,e,q⟩;cases e;exact q,qxz⟩
theorem qp7 {id:Nat}{K:List Fr}{E:Env}{H:Heap}:WK S n0 (.exit id) K E H Q↔WP S n0 Q K (.exit id) E H:=⟨by rintro⟨y,E1,H1,e,q⟩;cases e;exact q,qx1⟩
theorem qsk {K:List Fr}{E:Env}{H:Heap}:WK S n0 .ret K E H Q↔WP S n0 Q K .ret E H:=⟨by rintro⟨y,E1,H1,e,q⟩;cases e;exact q,qzi⟩
theorem qsi {d:Bool}{K:List Fr}{E:Env}{H:Heap}:WL S n0 d [] K E H Q↔WP S n0 Q K .normal E H:=qsh
def qk9 (S:AProg)(n0:Nat)(d:Bool)(dst:Option Nat)(x:X)(xs:List X)(sy:Bool)(l:List AOper)(K:List Fr)(E:Env)(H:Heap)(Q:AX->Env->Heap->Prop):Prop:=
 qum S n0 d dst x xs none sy l E H (fun E H=>WP S n0 Q K .normal E H)
def stepL (S:AProg)(n0:Nat)(d:Bool)(dst:Option Nat)(op:AOp)(gu:Option (Nat × Bool))(sy:Bool)(l:List AOper)(K:List Fr)(E:Env)(H:Heap)(Q:AX->Env->Heap->Prop):Prop:=
 match gd ⟨dst,op,gu,sy⟩ E with
 |some false=>WL S n0 d l K (put E dst .undef) H Q
 |some true=>
  match op with
  | .call x xs=>qk9 S n0 d dst x xs sy l K E H Q
  |op=>
   match stp n0 op E H with
   |some (v,H1)=>((d&&!sy)=true->H <+: H1)/\WL S n0 d l K (put E dst v) H1 Q
   |none=>False
 |none=>False
theorem qeh {d:Bool}{dst:Option Nat}{op:AOp}{gu:Option (Nat × Bool)}{sy:Bool}{l:List AOper}{K:List Fr}{E:Env}{H:Heap}:WL S n0 d (⟨dst,op,gu,sy⟩ :: l) K E H Q↔stepL S n0 d dst op gu sy l K E H Q:=qzc
theorem qac {d:Bool}{dst:Option Nat}{sy:Bool}{l:List AOper}{K:List Fr}{E:Env}{H:Heap}{x:X}{args caps vs:List V}{xs:List X}{g:Nat}{v:V}(hx:getX E x=.fn g caps)
 (ha:xs.map (getX E)++caps=args) (hp:prep S g H args=some (vs,H)) (h:CQ S g vs v) (k:WL S n0 d l K (put E dst v) H Q):qk9 S n0 d dst x xs sy l K E H Q:=
 qk8 hx ha hp (h.ct ⟨fun _=>List.prefix_refl H,k⟩)
theorem zq {d:Bool}{dst:Option Nat}{sy:Bool}{l:List AOper}{K:List Fr}{E:Env}{H:Heap}{x:X}{args caps vs:List V}{xs:List X}{g:Nat}{v:V}(h:CQ S g vs v) (k:WL S n0 d l K (put E dst v) H Q)(hx:getX E x=.fn g caps:=by exact rfl)(ha:xs.map (getX E)++caps=args:=by exact rfl)(hp:prep S g H args=some (vs,H):=by exact rfl):qk9 S n0 d dst x xs sy l K E H Q:=qac hx ha hp h k
theorem qci {d:Bool}{dst:Option Nat}{sy:Bool}{l:List AOper}{K:List Fr}{E:Env}{H H1:Heap}{x:X}{args caps vs:List V}{xs:List X}{g:Nat}(hx:getX E x=.fn g caps)
 (ha:xs.map (getX E)++caps=args) (hp:prep S g H args=some (vs,H1)) (h:CT S g vs H1 (fun v H2=>((d&&!sy)=true->H <+: H2)/\WL S n0 d l K (put E dst v) H2 Q)):qk9 S n0 d dst x xs sy l K E H Q:=
 qk8 hx ha hp h
theorem qbk {c:AC}{K:List Fr}{E:Env}{H:Heap}(I:Nat->Env->Heap->Prop)(k:Nat)(h0:I k E H)
 (round:∀k E H,I k E H->WC S n0 c E H (AX.thn (fun E1 H1=>∃j,j<k/\I j E1 H1) (fun x E H=>WP S n0 Q K x E H))):WK S n0 (.loop c) K E H Q:=qx0 I k h0 round
theorem qax {c:AC}{E:Env}{H:Heap}{J:Env->Heap->Prop}{R:AX->Env->Heap->Prop}(h:WK S n0 c [] E H (AX.thn J R)):WC S n0 c E H (AX.thn J R):=h
theorem qre {J:Env->Heap->Prop}{R:AX->Env->Heap->Prop}{E:Env}{H:Heap}:AX.thn J R .normal E H↔J E H:=Iff.rfl
theorem qu4 {J:Env->Heap->Prop}{R:AX->Env->Heap->Prop}{id:Nat}{E:Env}{H:Heap}:AX.thn J R (.exit id) E H↔R (.exit id) E H:=Iff.rfl
theorem qwq {J:Env->Heap->Prop}{R:AX->Env->Heap->Prop}{E:Env}{H:Heap}:AX.thn J R .ret E H↔R .ret E H:=Iff.rfl
theorem qai {g:Nat}{f:AFn}{args:List V}{v:V}(hf:S.fn g=some f)
 (h:∀H,WK S H.length f.body [] (E0 args) H (fun x E1 H1=>(x=.normal\/x=.ret)/\∃v0,resV E1 H1 f.results=some v0/\fin f.own H.length H1 v0=some (v,H))):CQ S g args v:=CQ_of hf h
end
theorem qy0 {n:Nat}{H:Heap}{l:List V}:fin false n H (.sl l)=some (.sl l,H.take n):=rfl
theorem qxc {n:Nat}{H:Heap}{k:IntKind}{i:Int}:fin false n H (.int k i)=some (.int k i,H.take n):=rfl
theorem qvq {n:Nat}{H:Heap}{b:Bool}:fin false n H (.bool b)=some (.bool b,H.take n):=rfl
@[simp] theorem qx7 {cs:List V}:(V.agg cs).cells=cs:=rfl
@[simp] theorem qwo {b:Bool}:(V.bool b).cells=[.bool b]:=rfl
@[simp] theorem qx6 {k:IntKind}{n:Int}:(V.int k n).cells=[.int k n]:=rfl
@[simp] theorem qyg {l:List V}:(V.sl l).cells=[.sl l]:=rfl
@[simp] theorem qx5 : V.nil.cells=[.nil]:=rfl
@[simp] theorem qx3 {b z off len:Nat}:(V.ref b z off len).cells=[.ref b z off len]:=rfl
@[simp] theorem qx4 {b i off:Nat}:(V.ptr b i off).cells=[.ptr b i off]:=rfl
@[simp] theorem qyh {g:Nat}{cs:List V}:(V.fn g cs).cells=[.fn g cs]:=rfl
@[simp] theorem qzs {cs:List V}:(V.agg cs).isTup=false:=rfl
@[simp] theorem qyf {b:Bool}:(V.bool b).isTup=false:=rfl
@[simp] theorem qzr {k:IntKind}{n:Int}:(V.int k n).isTup=false:=rfl
@[simp] theorem qz6 {l:List V}:(V.sl l).isTup=false:=rfl
@[simp] theorem qzq : V.nil.isTup=false:=rfl
@[simp] theorem qzo {b z off len:Nat}:(V.ref b z off len).isTup=false:=rfl
@[simp] theorem qzp {b i off:Nat}:(V.ptr b i off).isTup=false:=rfl
@[simp] theorem qz7 {g:Nat}{cs:List V}:(V.fn g cs).isTup=false:=rfl
attribute [simp] qy0 qxc qvq qza qy9 qp5 qsg WP_blk qsj qo3 qo2 qna qp6 qp7 qsk qsi qre qu4 qwq
attribute [simp] getX put qnf E0 AX.outOf binV sameI binI unV natOf qa2 qfk wrapC V.isNil resV resVs resV1
end Go.Abs
namespace Go.Abs
section
variable {S : AProg} {n0 : Nat} {Q : AX → Env → Heap → Prop}
def WKc (S:AProg)(n0:Nat)(v:V)(a b:AC)(K:List Fr)(E:Env)(H:Heap)(Q:AX->Env->Heap->Prop):Prop:=
 match v with
 | .bool true=>WK S n0 a K E H Q
 | .bool false=>WK S n0 b K E H Q
 |_=>False
theorem qv7 {t:Bool}{a b:AC}{K:List Fr}{E:Env}{H:Heap}:WKc S n0 (.bool t) a b K E H Q↔(t=true->WK S n0 a K E H Q)/\(t=false->WK S n0 b K E H Q):=by cases t<;>simp[WKc]
theorem qv6 {a b:AC}{K:List Fr}{E:Env}{H:Heap}:WKc S n0 (.bool true) a b K E H Q↔WK S n0 a K E H Q:=Iff.rfl
theorem qup {a b:AC}{K:List Fr}{E:Env}{H:Heap}:WKc S n0 (.bool false) a b K E H Q↔WK S n0 b K E H Q:=Iff.rfl
theorem quq {x:X}{a b:AC}{K:List Fr}{E:Env}{H:Heap}:WK S n0 (.cond x a b) K E H Q↔WKc S n0 (getX E x) a b K E H Q:=by
 rw[qf9];unfold WKc;split<;>simp_all
def stepN (S:AProg)(n0:Nat)(d:Bool)(dst:Option Nat)(op:AOp)(sy:Bool)(l:List AOper)(K:List Fr)(E:Env)(H:Heap)(Q:AX->Env->Heap->Prop):Prop:=
 match op with
 | .call x xs=>qk9 S n0 d dst x xs sy l K E H Q
 |op=>
  match stp n0 op E H with
  |some (v,H1)=>((d&&!sy)=true->H <+: H1)/\WL S n0 d l K (put E dst v) H1 Q
  |none=>False
theorem qxw {d:Bool}{dst:Option Nat}{op:AOp}{sy:Bool}{l:List AOper}{K:List Fr}{E:Env}{H:Heap} :
 WL S n0 d (⟨dst,op,none,sy⟩ :: l) K E H Q↔stepN S n0 d dst op sy l K E H Q:=qeh
theorem qu2 {E:Env}{t:Nat}{v:V}(h:E t=v):upd E t v=E:=by
 funext i;unfold upd;split
 ·rename_i e;rw[e,h]
 ·rfl
def WLg (S:AProg)(n0:Nat)(v:V)(t:Nat)(want d:Bool)(dst:Option Nat)(op:AOp)(sy:Bool)(l:List AOper)(K:List Fr)(E:Env)(H:Heap)(Q:AX->Env->Heap->Prop):Prop:=
 match v with
 | .bool b=>if b=want then stepN S n0 d dst op sy l K (upd E t (.bool b)) H Q else WL S n0 d l K (put (upd E t (.bool b)) dst .undef) H Q
 | .tup _=>WL S n0 d l K (put E dst .undef) H Q
 |_=>False
theorem qxv {d:Bool}{dst:Option Nat}{op:AOp}{sy:Bool}{l:List AOper}{K:List Fr}{E:Env}{H:Heap}{t:Nat}{want:Bool} :
 WL S n0 d (⟨dst,op,some (t,want),sy⟩ :: l) K E H Q↔WLg S n0 (E t) t want d dst op sy l K E H Q:=by
 rw[qeh];unfold stepL WLg gd;simp only;cases hv:E t with
 |bool b=>cases b<;>cases want<;>(simp only[qu2 hv];exact Iff.rfl)
 |tup vs=>exact Iff.rfl
 |_=>exact Iff.rfl
variable {t : Nat} {d : Bool} {dst : Option Nat} {op : AOp} {sy : Bool} {l : List AOper} {K : List Fr} {E : Env} {H : Heap}
theorem WLg_t {b:Bool}:WLg S n0 (.bool b) t true d dst op sy l K E H Q↔(b=true->stepN S n0 d dst op sy l K (upd E t (.bool true)) H Q)/\(b=false->WL S n0 d l K (put (upd E t (.bool false)) dst .undef) H Q):=by
 cases b<;>simp[WLg]
theorem WLg_f {b:Bool}:WLg S n0 (.bool b) t false d dst op sy l K E H Q↔(b=true->WL S n0 d l K (put (upd E t (.bool true)) dst .undef) H Q)/\(b=false->stepN S n0 d dst op sy l K (upd E t (.bool false)) H Q):=by
 cases b<;>simp[WLg]
theorem qzd : WLg S n0 (.bool true) t true d dst op sy l K E H Q↔stepN S n0 d dst op sy l K (upd E t (.bool true)) H Q:=Iff.rfl
theorem qzf : WLg S n0 (.bool false) t true d dst op sy l K E H Q↔WL S n0 d l K (put (upd E t (.bool false)) dst .undef) H Q:=Iff.rfl
theorem qze : WLg S n0 (.bool true) t false d dst op sy l K E H Q↔WL S n0 d l K (put (upd E t (.bool true)) dst .undef) H Q:=Iff.rfl
theorem qzg : WLg S n0 (.bool false) t false d dst op sy l K E H Q↔stepN S n0 d dst op sy l K (upd E t (.bool false)) H Q:=Iff.rfl
theorem qxu {want:Bool}{vs:List V}:WLg S n0 (.tup vs) t want d dst op sy l K E H Q↔WL S n0 d l K (put E dst .undef) H Q:=Iff.rfl
theorem qun {want:Bool}:WLg S n0 .undef t want d dst op sy l K E H Q↔WL S n0 d l K (put E dst .undef) H Q:=Iff.rfl
end
theorem WK_up {S:AProg}{n0:Nat}{Q:AX->Env->Heap->Prop}{c:AC}{K:List Fr}{E:Env}{H:Heap}(I:Nat->Env->Heap->Prop)(n:Nat)(h0:I 0 E H)
 (round:∀i E H,i<=n->I i E H->WK S n0 c [] E H (AX.thn (fun E1 H1=>i<n/\I (i+1) E1 H1) (fun x E H=>WP S n0 Q K x E H))):WK S n0 (.loop c) K E H Q:=by
 refine qbk (fun k E H=>∃i,i+k=n/\I i E H) n ⟨0,by omega,h0⟩ ?_;rintro k E H ⟨i,hi,h⟩;refine qp8 (round i E H (by omega) h) ?_;intro x E1 H1 hx;cases x with
 |normal=>exact⟨k-1,by have:=hx.1;omega,i+1,by have:=hx.1;omega,hx.2⟩
 |exit id=>exact hx
 |ret=>exact hx
theorem qqs {α:Type}(H l:List α)(k:Nat):(H++l)[H.length+k]?=l[k]?:=by
 rw[List.getElem?_append_right (by omega)];congr 1;omega
theorem qtt {α:Type}(H l:List α):(H++l)[H.length]?=l[0]?:=qqs H l 0
theorem qs5 {α:Type}(H l:List α)(k:Nat)(v:α):(H++l).set (H.length+k) v=H++l.set k v:=by
 rw[List.set_append_right _ _ (by omega)];congr 2;omega
theorem qve {α:Type}(H l:List α)(v:α):(H++l).set H.length v=H++l.set 0 v:=qs5 H l 0 v
attribute [simp low] qv7 WLg_t WLg_f
attribute [simp] quq qv6 qup stepN qxw qxv qzd qzf qze qzg qxu qun qqs qtt qs5 qve
end Go.Abs
