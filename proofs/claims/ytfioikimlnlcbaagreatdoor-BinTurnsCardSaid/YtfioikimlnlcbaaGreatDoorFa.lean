/- Parts of the proof: FpCode0, FpCode1, FpCode2, FpCode3, FpCode4, FpCode5, FpCode6, FpCode7, FpCode8, FpCode9, FpCode10, FpCode11, FpCode12, FpFuns, FpRules, FpProg, FpStpEq, FpWK, FpWX. -/
import Derived.Test.YtfioikimlnlcbaaGreatDoorF0
namespace Go.Abs
@[simp] def qhs : AFn:=nG [(.tmp 2)] (nS (nF [oU 1 3 0,oZ 2 false]) (nS (nS (nF [oQ 4 1 1,oJ 5 4,oT 6 5,oO 7 .eql 6 0]) (nC 7 (nR [oQ 8 0 1,oJ 9 8,oW 10 9,mV 11 10,gT 12 11 (nA 2 1),oH 13 11 false 1 12,gT 14 11 (nX .eql 13 0),oY 15 11 14,mV 2 15]) .skip)) (nS (nS (nF [oQ 16 1 1,oJ 17 16,oT 18 17,oO 19 .gtr 18 256,mV 20 19,gF 21 20 (nA 1 1),oG 22 20 false 1 21,gF 23 20 (nA 1 1),oG 24 20 false 1 23,gF 25 20 (.len (.t 24)),gF 26 20 (nX .sub 25 1),
 gF 27 20 (.iaddr 1 (.t 22) (.t 26)),oG 28 20 false 1 27,gF 29 20 (.bin .num .eql (.t 28) (.c (.int .u32 0))),oX 30 20 29,mV 31 30,gF 32 31 (nA 1 1),oG 33 31 false 1 32,gF 34 31 (.iaddr 1 (.t 33) (.c (.int .i64 0))),oG 35 31 false 1 34,gF 36 31 (.bin .num .and (.t 35) (.c (.int .u32 1))),gF 37 31 (.bin .num .eql (.t 36) (.c (.int .u32 0))),oX 38 31 37,mV 39 38,gF 40 39 (nA 2 1),oG 41 39 false 1 40,gF 42 39 (nX .lss 41 (-16384)),oX 43 39 42,mV 44 43,gF 45 44 (nA 2 1),oG 46 44 false 1 45,gF 47 44 (nX .gtr 46 16384),
 oX 48 44 47]) (nC 48 (nR [oZ 2 false]) .skip)) (nS (nF [oQ 49 1 1,oJ 50 49,oA1 51 49 50,mV 3 51]) (nR [mV 52 3,oO 53 .leq 52 4096,mV 54 53,oF 55 54 3,gT 56 54 (nA 2 1),oH 57 54 false 1 56,gT 58 54 (nY .add 55 57),gT 59 54 (nX .leq 58 16384),oY 60 54 59,mV 2 60])))))
@[simp] def qki : AFn:=nG [(.tmp 4)] (nS (nF [oU 2 3 0,oU 3 3 1,oP 4 (nV 0)]) (nS (nT [oI 7 3 2,oA1 8 54 7,oI 9 3 3,oB1 10 54 9,mV 5 8,mV 6 10]) (nS (nS (nF [mV 11 5,mV 12 6,oN 13 .neq 11 12]) (nC 13 (nS (nS (nF [mV 14 5,mV 15 6,oN 16 .lss 14 15]) (nC 16 (nR [oP 4 (nV (-1))]) .skip)) (nR [oP 4 (nV 1)])) .skip)) (nS (nS (nF [mV 17 5,oO 18 .eql 17 0]) (nC 18 (nR [oP 4 (nV 0)]) .skip)) (nS (nS (nT [oI 19 3 2,
 oA1 20 55 19,oI 21 3 3,oB1 22 55 21,oN 23 .neq 20 22]) (nC 23 (nS (nS (nT [oI 24 3 2,oA1 25 55 24,oI 26 3 3,oB1 27 55 26,oN 28 .lss 25 27,mV 29 5,oO 30 .gtr 29 0,oP 31 (.bin .bool .eql (.t 28) (.t 30))]) (nC 31 (nR [oP 4 (nV (-1))]) .skip)) (nR [oP 4 (nV 1)])) .skip)) (nS (nT [oI 32 3 2,oI 33 3 3,oA1 34 57 33,oB2 35 56 32 34,oB1 36 54 35,mV 4 36]) .ret))))))
@[simp] def qhu : AFn:=nG [(.tmp 4)] (nS (nF [oU 2 3 0,oU 3 3 1,oZ 4 false]) (nR [oQ 5 0 2,oJ 6 5,oQ 7 0 3,oJ 8 7,oP 9 (.bin .bool .eql (.t 6) (.t 8)),mV 10 9,gT 11 10 (nA 2 2),oH 12 10 false 1 11,gT 13 10 (nA 2 3),oH 14 10 false 1 13,gT 15 10 (nY .eql 12 14),oY 16 10 15,mV 17 16,gT 18 17 (nA 1 2),oH 19 17 false 1 18,gT 20 17 (.len (.t 19)),gT 21 17 (nA 1 3),oH 22 17 false 1 21,gT 23 17 (.len (.t 22)),gT 24 17 (nY .eql 20 23),oY 25 17 24,mV 26 25,gT 27 26 (nA 1 2),oH 28 26 false 1 27,gT 29 26 (nA 1 3),
 oH 30 26 false 1 29,oD2 31 26 63 28 30,gT 32 26 (nX .eql 31 0),oY 33 26 32,mV 4 33]))
def qfj : AC:=(nS (nS (nF [mV 18 4,oP 19 (.bin .num .gtr (.t 18) (.c (.int .u32 0)))]) (nC 19 .skip (.exit 0))) (nS (.block 1 (nF [mV 22 3,oO 23 .add 22 1,mV 3 23])) (nF [mV 20 4,oP 21 (.bin .num .shr (.t 20) (.c (.int .u64 1))),mV 4 21])))
@[simp] def qi1 : AFn:=nG [(.tmp 2)] (nS (nF [oP 2 (nV 0)]) (nS (nS (nF [mV 5 0,oT 6 5,oO 7 .eql 6 0]) (nC 7 (nR [oP 2 (nV 0)]) .skip)) (nS (nF [mV 8 0,oT 9 8,oO 10 .sub 9 1,oP 11 (.bin .num .mul (.c (.int .i64 32)) (.t 10)),mV 3 11]) (nS (nS (nF [mV 12 0,mV 13 0,oT 14 13,oO 15 .sub 14 1,oV 16 1 12 15,oJ 17 16,mV 4 17]) (.block 0 (.loop qfj))) (nR [mV 24 3,mV 2 24])))))
@[simp] def qi4 : AFn:=nG [(.tmp 2)] (nS (nF [oU 1 3 0,oZ 2 false]) (nS (nS (nF [oQ 3 1 1,oJ 4 3,oT 5 4,oO 6 .eql 5 0]) (nC 6 (nR [oQ 7 0 1,oJ 8 7,oW 9 8,mV 10 9,gT 11 10 (nA 2 1),oH 12 10 false 1 11,gT 13 10 (nX .eql 12 0),oY 14 10 13,mV 2 14]) .skip)) (nR [oQ 15 1 1,oJ 16 15,oT 17 16,oO 18 .leq 17 256,mV 19 18,gT 20 19 (nA 1 1),oH 21 19 false 1 20,gT 22 19 (.iaddr 1 (.t 21) (.c (.int .i64 0))),oH 23 19 false 1 22,gT 24 19 (.bin .num .rem (.t 23) (.c (.int .u32 2))),gT 25 19 (.bin .num .eql (.t 24) (.c (.int .u32 1))),
 oY 26 19 25,mV 27 26,gT 28 27 (nA 1 1),oH 29 27 false 1 28,gT 30 27 (nA 1 1),oH 31 27 false 1 30,gT 32 27 (.len (.t 31)),gT 33 27 (nX .sub 32 1),gT 34 27 (.iaddr 1 (.t 29) (.t 33)),oH 35 27 false 1 34,gT 36 27 (.bin .num .neq (.t 35) (.c (.int .u32 0))),oY 37 27 36,mV 38 37,oH 39 38 true 3 1,oD1 40 38 78 39,oY 41 38 40,mV 2 41])))
@[simp] def qln : AFn:=nG [(.tmp 4)] (nS (nF [oU 2 3 0,oU 3 3 1,oP 4 (nV 0)]) (nS (nS (nF [oI 7 3 2,oA1 8 51 7,oW 9 8,mV 10 9,oG 11 10 true 3 3,oC1 12 10 51 11,gF 13 10 (nU 12),oX 14 10 13]) (nC 14 (nR [oP 4 (nV 0)]) .skip)) (nS (nT [oI 15 3 2,oA1 16 79 15,oI 17 3 3,oB1 18 79 17,mV 5 16,mV 6 18]) (nS (.block 0 (nS (nF [mV 20 5,mV 21 6,oN 22 .lss 20 21,mV 19 22]) (nC 19 (nR [oP 4 (nV (-1))]) (nS (nF [mV 24 5,
 mV 25 6,oN 26 .gtr 24 25,mV 23 26]) (nC 23 (nR [oP 4 (nV 1)]) (nS (nF [mV 28 5,oO 29 .eql 28 0,mV 27 29]) (nC 27 (nR [oP 4 (nV 0)]) .skip))))))) (nR [mV 30 5,oI 31 3 2,oI 32 3 3,oA2 33 80 31 32,oN 34 .mul 30 33,mV 4 34])))))
@[simp] def qi2 : AFn:=nG [(.tmp 2)] (nS (nF [oU 1 3 0,oP 2 (nV 0)]) (nS (nS (nF [oQ 3 1 1,oJ 4 3,oT 5 4,oO 6 .eql 5 0]) (nC 6 (nR [oP 2 (nV 0)]) .skip)) (nS (nS (nF [oQ 7 0 1,oJ 8 7]) (nC 8 (nR [oP 2 (nV (-1))]) .skip)) (nR [oP 2 (nV 1)]))))
@[simp] def qke : AFn:=nG [(.tmp 2)] (nS (nF [oU 1 3 0,oP 2 (nV 0)]) (nS (nS (nF [oQ 3 1 1,oJ 4 3,oT 5 4,oO 6 .eql 5 0]) (nC 6 (nR [oP 2 (nV 0)]) .skip)) (nS (nT [oQ 7 1 1,oJ 8 7,oA1 9 49 8,oQ 10 2 1,oJ 11 10,oN 12 .add 9 11,mV 2 12]) .ret)))
@[simp] def qkf : AFn:=nG [(.cell 4 true 3)] (nS (nF [oU 2 3 0,oU 3 3 1,oM 4]) (nS (nS (nF [oQ 8 1 2,oJ 9 8,oT 10 9,oO 11 .eql 10 0]) (nC 11 (nR [oI 12 3 3,oK 3 4 12 false]) .skip)) (nS (nS (nF [oQ 13 1 3,oJ 14 13,oT 15 14,oO 16 .eql 15 0]) (nC 16 (nR [oI 17 3 2,oK 3 4 17 false]) .skip)) (nS (nF [oQ 18 2 2,oJ 19 18,oQ 20 2 3,oJ 21 20,oP 22 (.min (.t 19) (.t 21)),mV 5 22]) (nS (nT [oQ 23 1 2,oJ 24 23,oQ 25 2 2,oJ 26 25,mV 27 5,oN 28 .sub 26 27,oA2 29 84 24 28,oQ 30 1 3,
 oJ 31 30,oQ 32 2 3,oJ 33 32,mV 34 5,oN 35 .sub 33 34,oB2 36 84 31 35,mV 6 29,mV 7 36]) (nS (nS (nF [oQ 37 0 2,oJ 38 37,oQ 39 0 3,oJ 40 39,oP 41 (.bin .bool .eql (.t 38) (.t 40))]) (nC 41 (nS (nT [oQ 42 0 2,oJ 43 42,mV 44 6,mV 45 7,oA2 46 86 44 45,mV 47 5,oB3 48 85 43 46 47,oK 3 4 48 true]) .ret) .skip)) (nS (nS (nF [mV 49 6,mV 50 7,oA2 51 63 49 50,oO 52 .geq 51 0]) (nC 52 (nS (nT [oQ 53 0 2,oJ 54 53,mV 55 6,mV 56 7,oA2 57 87 55 56,mV 58 5,oB3 59 85 54 57 58,oK 3 4 59 true]) .ret) .skip)) (nS (nT [oQ 60 0 3,oJ 61 60,
 mV 62 7,mV 63 6,oA2 64 87 62 63,mV 65 5,oB3 66 85 61 64 65,oK 3 4 66 true]) .ret))))))))
@[simp] def qkg : AFn:=nG [(.cell 2 true 3)] (nS (nF [oU 1 3 0,oM 2]) (nR [oQ 3 0 1,oJ 4 3,oW 5 4,mV 6 5,gT 7 6 (nA 1 1),oH 8 6 false 1 7,gT 9 6 (.len (.t 8)),gT 10 6 (nX .gtr 9 0),oY 11 6 10,oQ 12 1 1,oJ 13 12,oQ 14 2 1,oJ 15 14,oP 16 (.build nD [(0,1,(.t 11)),(1,1,(.t 13)),(2,1,(.t 15))]),oK 3 2 16 false]))
@[simp] def qho : AFn:=nG [(.tmp 4)] (nS (nF [oU 2 7 0,oU 3 7 1,oZ 4 false]) (nR [oQ 5 6 2,oJ 6 5,oQ 7 6 3,oJ 8 7,oP 9 (.bin .bool .eql (.t 6) (.t 8)),mV 10 9,gT 11 10 (nA 0 2),oH 12 10 true 3 11,gT 13 10 (nA 0 3),oH 14 10 true 3 13,oD2 15 10 23 12 14,oY 16 10 15,mV 17 16,gT 18 17 (nA 3 2),oH 19 17 true 3 18,gT 20 17 (nA 3 3),oH 21 17 true 3 20,oD2 22 17 23 19 21,oY 23 17 22,mV 4 23]))
def qbj : AC:=(nS (nS (nF [mV 19 5,oO 20 .geq 19 0]) (nC 20 .skip (.exit 0))) (nS (.block 1 (nS (nS (nT [mV 23 0,mV 24 5,oV 25 1 23 24,oJ 26 25,mV 27 1,mV 28 5,oV 29 1 27 28,oJ 30 29,oN 31 .lss 26 30]) (nC 31 (nR [oP 4 (nV (-1))]) .skip)) (nS (nT [mV 32 0,mV 33 5,oV 34 1 32 33,oJ 35 34,mV 36 1,mV 37 5,oV 38 1 36 37,oJ 39 38,oN 40 .gtr 35 39]) (nC 40 (nR [oP 4 (nV 1)]) .skip)))) (nF [mV 21 5,oO 22 .sub 21 1,mV 5 22])))
@[simp] def qfi : AFn:=nG [(.tmp 4)] (nS (nF [oP 4 (nV 0)]) (nS (nS (nF [mV 6 0,oT 7 6,mV 8 1,oT 9 8,oN 10 .neq 7 9]) (nC 10 (nS (nS (nF [mV 11 0,oT 12 11,mV 13 1,oT 14 13,oN 15 .lss 12 14]) (nC 15 (nR [oP 4 (nV (-1))]) .skip)) (nR [oP 4 (nV 1)])) .skip)) (nS (nS (nF [mV 16 0,oT 17 16,oO 18 .sub 17 1,mV 5 18]) (.block 0 (.loop qbj))) (nR [oP 4 (nV 0)]))))
@[simp] def qhn : AFn:=nG [(.tmp 2)] (nS (nF [oU 1 7 0,oZ 2 false]) (nS (nS (nF [oQ 3 6 1,oJ 4 3]) (nC 4 (nR [oQ 5 0 1,oI 6 3 5,oA1 7 91 6,mV 8 7,gT 9 8 (nA 3 1),oH 10 8 true 3 9,oD1 11 8 91 10,oY 12 8 11,mV 2 12]) .skip)) (nR [oQ 13 0 1,oI 14 3 13,oA1 15 12 14,mV 16 15,gT 17 16 (nA 3 1),oH 18 16 true 3 17,oD1 19 16 12 18,oY 20 16 19,mV 21 20,gT 22 21 (nA 0 1),oH 23 21 true 3 22,gT 24 21 (nA 3 1),oH 25 21 true 3 24,oD2 26 21 18 23 25,gT 27 21 (nX .leq 26 0),
 oY 28 21 27,mV 2 28])))
@[simp] def qkh : AFn:=nG [(.cell 2 true 3)] (nS (nF [oM 2]) (nS (nF [mV 4 0,oP 5 (.conv .u64 (.t 4)),mV 3 5]) (nS (nS (nF [mV 6 0,oO 7 .lss 6 0]) (nC 7 (nF [mV 8 3,oP 9 (.bin .num .sub (.c (.int .u64 0)) (.t 8)),mV 3 9]) .skip)) (nR [mV 10 0,oO 11 .lss 10 0,mV 12 3,oP 13 (.bin .num .and (.t 12) (.c (.int .u64 4294967295))),oP 14 (.conv .u32 (.t 13)),mV 15 3,oP 16 (.bin .num .shr (.t 15) (.c (.int .u64 32))),oP 17 (.conv .u32 (.t 16)),oP 18 (.bslice 1 2 (.int .u32 0) [(0,(.t 14)),(1,(.t 17))]),oP 19 (.call (.f 85) [(.t 11),(.t 18),(.c (.int .i64 0))]),
 oK 3 2 19 false]))))
@[simp] def qgc : AFn:=nG [(.tmp 2)] (nS (nF [oU 1 7 0,oZ 2 false]) (nS (nS (nF [oQ 4 6 1,oJ 5 4]) (nC 5 (nS (nF [oP 3 (.mv (.f 96))]) (nR [mV 6 3,oQ 7 0 1,oI 8 3 7,oP 9 (.call (.t 6) [(.t 8)]),mV 10 9,oF 11 10 3,gT 12 10 (nA 3 1),oH 13 10 true 3 12,gT 14 10 (.call (.t 11) [(.t 13)]),oY 15 10 14,mV 2 15])) .skip)) (nR [oQ 16 0 1,oI 17 3 16,oA1 18 51 17,mV 19 18,gT 20 19 (nA 3 1),oH 21 19 true 3 20,oD1 22 19 51 21,oY 23 19 22,mV 24 23,gT 25 24 (nA 0 1),oH 26 24 true 3 25,gT 27 24 (nA 3 1),
 oH 28 24 true 3 27,oD2 29 24 52 26 28,gT 30 24 (nX .leq 29 0),oY 31 24 30,mV 2 31])))
@[simp] def qgi : AFn:=nG [(.tmp 2)] (nS (nF [oU 1 3 0,oZ 2 false]) (nS (nF [oQ 4 1 1,oJ 5 4,oA1 6 97 5,mV 3 6]) (nR [mV 7 3,oO 8 .eql 7 0,mV 9 8,oE 10 9 3,gF 11 9 (nX .leq 10 4096),oE 12 9 11,gT 13 12 (nA 2 1),oH 14 12 false 1 13,gT 15 12 (nX .geq 14 (-16384)),gF 16 9 (.pick (.t 12) (.t 15) (.c (.bool false))),oE 17 9 16,gT 18 17 (nA 2 1),oH 19 17 false 1 18,gT 20 17 (nX .leq 19 16384),gF 21 9 (.pick (.t 17) (.t 20) (.c (.bool false))),oE 22 9 21,oF 23 22 3,
 gT 24 22 (nA 2 1),oH 25 22 false 1 24,gT 26 22 (nY .add 23 25),gT 27 22 (nX .leq 26 16384),gF 28 9 (.pick (.t 22) (.t 27) (.c (.bool false))),oX 29 9 28,mV 2 29])))
@[simp] def qkk : AFn:=nG [(.tmp 2)] (nS (nF [oU 1 3 0,oP 2 (nV 0)]) (nS (.block 0 (nS (nF [oI 4 3 1,oA1 5 51 4,oW 6 5,mV 7 6,gF 8 7 (nA 1 1),oG 9 7 false 1 8,gF 10 7 (.len (.t 9)),gF 11 7 (nX .eql 10 0),oX 12 7 11,mV 3 12]) (nC 3 (nR [oP 2 (nV 0)]) (nS (nF [oQ 14 0 1,oJ 15 14,mV 13 15]) (nC 13 (nR [oP 2 (nV (-1))]) .skip))))) (nR [oP 2 (nV 1)])))
@[simp] def qgj : AFn:=nG [(.tmp 4)] (nS (nF [oU 2 3 0,oU 3 3 1,oP 4 (nV 0)]) (nS (nT [oI 8 3 2,oA1 9 98 8,oI 10 3 3,oB1 11 98 10,mV 5 9,mV 6 11]) (nS (.block 0 (nS (nF [mV 13 5,mV 14 6,oN 15 .lss 13 14,mV 12 15]) (nC 12 (nR [oP 4 (nV (-1))]) (nS (nF [mV 17 5,mV 18 6,oN 19 .gtr 17 18,mV 16 19]) (nC 16 (nR [oP 4 (nV 1)]) .skip))))) (nS (nF [oQ 20 2 2,oJ 21 20,oQ 22 2 3,oJ 23 22,oP 24 (.min (.t 21) (.t 23)),mV 7 24]) (nS (nT [oQ 25 1 2,
 oJ 26 25,oQ 27 2 2,oJ 28 27,mV 29 7,oN 30 .sub 28 29,oA2 31 100 26 30,oQ 32 1 3,oJ 33 32,oQ 34 2 3,oJ 35 34,mV 36 7,oN 37 .sub 35 36,oB2 38 100 33 37,oB2 39 99 31 38,mV 4 39]) .ret)))))
@[simp] def qfg : AFn:=nG [(.tmp 4)] (nS (nF [oU 2 7 0,oU 3 7 1,oZ 4 false]) (nS (nS (nF [oI 5 7 2,oA1 6 77 5,oW 7 6,mV 8 7,oG 9 8 true 7 3,oC1 10 8 77 9,gF 11 8 (nU 10),oX 12 8 11]) (nC 12 (nR [oZ 4 false]) .skip)) (nR [oQ 13 6 3,oJ 14 13,mV 15 14,gF 16 15 (nA 6 2),oG 17 15 false 1 16,gF 18 15 (nU 17),oE 19 15 18,gT 20 19 (nA 0 3),oH 21 19 true 3 20,gT 22 19 (nA 0 2),oH 23 19 true 3 22,oD2 24 19 52 21 23,gT 25 19 (nX .leq 24 0),gF 26 15 (.pick (.t 19) (.t 25) (.c (.bool false))),
 oE 27 15 26,gT 28 27 (nA 3 2),oH 29 27 true 3 28,gT 30 27 (nA 3 3),oH 31 27 true 3 30,oD2 32 27 52 29 31,gT 33 27 (nX .leq 32 0),gF 34 15 (.pick (.t 27) (.t 33) (.c (.bool false))),oX 35 15 34,mV 4 35])))
def qfh : AC:=(nS (nS (nF [mV 12 7,mV 13 0,oT 14 13,oN 15 .lss 12 14]) (nC 15 .skip (.exit 0))) (nS (.block 1 (nS (nF [mV 18 0,mV 19 7,oV 20 1 18 19,oJ 21 20,oP 22 (.conv .u64 (.t 21)),mV 23 1,oO 24 .rem 23 32,oP 25 (.conv .u64 (.t 24)),oN 26 .shl 22 25,mV 27 6,oN 28 .or 26 27,mV 8 28]) (nS (nF [mV 29 5,mV 30 8,oP 31 (.bin .num .and (.t 30) (.c (.int .u64 4294967295))),oP 32 (.conv .u32 (.t 31)),oP 33 (.bslice 1 1 (.int .u32 0) [(0,(.t 32))]),oP 34 (.append 1 4 (.t 29) (.t 33)),mV 5 34]) (nF [mV 35 8,oP 36 (.bin .num .shr (.t 35) (.c (.int .u64 32))),
 mV 6 36])))) (nF [mV 16 7,oO 17 .add 16 1,mV 7 17])))
@[simp] def qi0 : AFn:=nG [(.tmp 4)] (nS (nF [oP 4 (.mv (.c .nil))]) (nS (nF [mV 9 1,oO 10 .quo 9 32,oP 11 (.mkslice 1 4 (.int .u32 0) (.t 10) (.t 10)),mV 5 11]) (nS (nF [oP 6 (.mv (.c (.int .u64 0)))]) (nS (nS (nF [oP 7 (nV 0)]) (.block 0 (.loop qfh))) (nR [mV 37 5,mV 38 6,oP 39 (.conv .u32 (.t 38)),oP 40 (.bslice 1 1 (.int .u32 0) [(0,(.t 39))]),oP 41 (.append 1 4 (.t 37) (.t 40)),oA1 42 101 41,mV 4 42])))))
@[simp] def qli : AFn:=nG [(.cell 6 true 3)] (nS (nF [oM 6]) (nS (nF [mV 8 1,oA1 9 101 8,mV 1 9]) (nS (nS (nF [mV 10 1,oT 11 10,oO 12 .eql 11 0]) (nC 12 (nR [oP 13 (.build nD []),oK 3 6 13 false]) .skip)) (nS (nF [mV 14 1,oA1 15 102 14,mV 7 15]) (nR [mV 16 0,mV 17 1,mV 18 7,oA2 19 103 17 18,mV 20 2,mV 21 7,oN 22 .add 20 21,oP 23 (.build nD [(0,1,(.t 16)),(1,1,(.t 19)),(2,1,(.t 22))]),oK 3 6 23 false])))))
def qci : AC:=(nS (nS (nF [mV 9 7,mV 10 0,oT 11 10,oN 12 .lss 9 11,mV 13 12,oE 14 13 7,oE 15 13 1,gF 16 13 (.len (.t 15)),gF 17 13 (nY .lss 14 16),oX 18 13 17]) (nC 18 .skip (.exit 0))) (nS (.block 1 (nS (nF [mV 21 6,mV 8 21]) (nS (nS (nF [mV 22 7,mV 23 0,oT 24 23,oN 25 .lss 22 24]) (nC 25 (nF [mV 26 8,mV 27 0,mV 28 7,oV 29 1 27 28,oJ 30 29,oP 31 (.conv .u64 (.t 30)),oN 32 .add 26 31,mV 8 32]) .skip)) (nS (nS (nF [mV 33 7,mV 34 1,oT 35 34,oN 36 .lss 33 35]) (nC 36 (nF [mV 37 8,
 mV 38 1,mV 39 7,oV 40 1 38 39,oJ 41 40,oP 42 (.conv .u64 (.t 41)),oN 43 .add 37 42,mV 8 43]) .skip)) (nS (nF [mV 44 5,mV 45 8,oP 46 (.bin .num .and (.t 45) (.c (.int .u64 4294967295))),oP 47 (.conv .u32 (.t 46)),oP 48 (.bslice 1 1 (.int .u32 0) [(0,(.t 47))]),oP 49 (.append 1 4 (.t 44) (.t 48)),mV 5 49]) (nF [mV 50 8,oP 51 (.bin .num .shr (.t 50) (.c (.int .u64 32))),mV 6 51])))))) (nF [mV 19 7,oO 20 .add 19 1,mV 7 20])))
@[simp] def qiz : AFn:=nG [(.tmp 4)] (nS (nF [oP 4 (.mv (.c .nil))]) (nS (nF [oP 5 (.mv (.c .nil))]) (nS (nF [oP 6 (.mv (.c (.int .u64 0)))]) (nS (nS (nF [oP 7 (nV 0)]) (.block 0 (.loop qci))) (nR [mV 52 5,mV 53 6,oP 54 (.conv .u32 (.t 53)),oP 55 (.bslice 1 1 (.int .u32 0) [(0,(.t 54))]),oP 56 (.append 1 4 (.t 52) (.t 55)),oA1 57 101 56,mV 4 57])))))
def qc4 : AC:=(nS (nS (nF [mV 10 7,mV 11 0,oT 12 11,oN 13 .lss 10 12]) (nC 13 .skip (.exit 0))) (nS (.block 1 (nS (nF [mV 16 6,mV 8 16]) (nS (nS (nF [mV 17 7,mV 18 1,oT 19 18,oN 20 .lss 17 19]) (nC 20 (nF [mV 21 8,mV 22 1,mV 23 7,oV 24 1 22 23,oJ 25 24,oP 26 (.conv .u64 (.t 25)),oN 27 .add 21 26,mV 8 27]) .skip)) (nS (nF [mV 28 0,mV 29 7,oV 30 1 28 29,oJ 31 30,oP 32 (.conv .u64 (.t 31)),oP 33 (.bin .num .add (.t 32) (.c (.int .u64 4294967296))),mV 34 8,oN 35 .sub 33 34,mV 9 35]) (nS (nF [mV 36 5,mV 37 9,
 oP 38 (.bin .num .and (.t 37) (.c (.int .u64 4294967295))),oP 39 (.conv .u32 (.t 38)),oP 40 (.bslice 1 1 (.int .u32 0) [(0,(.t 39))]),oP 41 (.append 1 4 (.t 36) (.t 40)),mV 5 41]) (nF [mV 42 9,oP 43 (.bin .num .shr (.t 42) (.c (.int .u64 32))),oP 44 (.bin .num .sub (.c (.int .u64 1)) (.t 43)),mV 6 44])))))) (nF [mV 14 7,oO 15 .add 14 1,mV 7 15])))
@[simp] def qhr : AFn:=nG [(.tmp 4)] (nS (nF [oP 4 (.mv (.c .nil))]) (nS (nF [oP 5 (.mv (.c .nil))]) (nS (nF [oP 6 (.mv (.c (.int .u64 0)))]) (nS (nS (nF [oP 7 (nV 0)]) (.block 0 (.loop qc4))) (nR [mV 45 5,oA1 46 101 45,mV 4 46])))))
@[simp] def qiv : AFn:=nG [(.tmp 2)] (nS (nF [oU 1 3 0,oZ 2 false]) (nR [oQ 3 0 1,oJ 4 3,oW 5 4,mV 6 5,gT 7 6 (nA 1 1),oH 8 6 false 1 7,gT 9 6 (.len (.t 8)),gT 10 6 (nX .eql 9 0),oY 11 6 10,mV 12 11,gT 13 12 (nA 2 1),oH 14 12 false 1 13,gT 15 12 (nX .eql 14 0),oY 16 12 15,mV 2 16]))
@[simp] def qev : AFn:=nG [(.tmp 2)] (nS (nF [oU 1 3 0,oZ 2 false]) (nR [oQ 3 0 1,oJ 4 3,oW 5 4,mV 6 5,gT 7 6 (nA 1 1),oH 8 6 false 1 7,gT 9 6 (.len (.t 8)),gT 10 6 (nX .eql 9 0),oY 11 6 10,mV 12 11,gT 13 12 (nA 2 1),oH 14 12 false 1 13,gT 15 12 (nX .eql 14 0),oY 16 12 15,mV 2 16]))
@[simp] def qkj : AFn:=nG [(.tmp 2)] (nS (nF [oP 2 (nV 0)]) (nR [mV 3 0,oA1 4 110 3,mV 2 4]))
@[simp] def qlk : AFn:=nG [(.tmp 2)] (nS (nF [oU 1 3 0,oP 2 (nV 0)]) (nS (nS (nF [oI 3 3 1,oA1 4 51 3,oW 5 4,mV 6 5,gF 7 6 (nA 1 1),oG 8 6 false 1 7,gF 9 6 (.len (.t 8)),gF 10 6 (nX .eql 9 0),oX 11 6 10]) (nC 11 (nR [oP 2 (nV 0)]) .skip)) (nS (nT [oQ 12 1 1,oJ 13 12,oA1 14 97 13,oQ 15 2 1,oJ 16 15,oN 17 .add 14 16,mV 2 17]) .ret)))
def qcu : AC:=(nS (nS (nF [mV 23 5,oO 24 .geq 23 0]) (nC 24 .skip (.exit 0))) (nS (.block 1 (.block 2 (nS (nT [mV 28 0,mV 29 5,oV 30 1 28 29,oJ 31 30,mV 32 1,mV 33 5,oV 34 1 32 33,oJ 35 34,oN 36 .lss 31 35,mV 27 36]) (nC 27 (nR [oP 4 (nV (-1))]) (nS (nT [mV 38 0,mV 39 5,oV 40 1 38 39,oJ 41 40,mV 42 1,mV 43 5,oV 44 1 42 43,oJ 45 44,oN 46 .gtr 41 45,mV 37 46]) (nC 37 (nR [oP 4 (nV 1)]) .skip)))))) (nF [mV 25 5,oO 26 .sub 25 1,mV 5 26])))
@[simp] def qgw : AFn:=nG [(.tmp 4)] (nS (nF [oP 4 (nV 0)]) (nS (nF [mV 6 0,oA1 7 111 6,mV 8 1,oA1 9 111 8,mV 0 7,mV 1 9]) (nS (nS (nF [mV 10 0,oT 11 10,mV 12 1,oT 13 12,oN 14 .neq 11 13]) (nC 14 (nS (nS (nF [mV 15 0,oT 16 15,mV 17 1,oT 18 17,oN 19 .lss 16 18]) (nC 19 (nR [oP 4 (nV (-1))]) .skip)) (nR [oP 4 (nV 1)])) .skip)) (nS (nS (nF [mV 20 0,oT 21 20,oO 22 .sub 21 1,mV 5 22]) (.block 0 (.loop qcu))) (nR [oP 4 (nV 0)])))))
@[simp] def qgh : AFn:=nG [(.tmp 4)] (nS (nF [oP 4 (.mv (.c .nil))]) (nS (nF [mV 8 0,mV 9 1,oA2 10 112 8 9,mV 7 10,oR 11 0 7,oR 12 1 7,mV 5 11,mV 6 12]) (nR [mV 13 5,mV 4 13])))
def qdm : AC:=(nS (nS (nF [mV 6 3,oO 7 .gtr 6 0,mV 8 7,oF 9 8 0,oF 10 8 3,gT 11 8 (nX .sub 10 1),gT 12 8 (.iaddr 1 (.t 9) (.t 11)),oH 13 8 false 1 12,gT 14 8 (.bin .num .eql (.t 13) (.c (.int .u32 0))),oY 15 8 14]) (nC 15 .skip (.exit 0))) (.block 1 (nF [mV 16 3,oO 17 .sub 16 1,mV 3 17])))
@[simp] def qiy : AFn:=nG [(.tmp 2)] (nS (nF [oP 2 (.mv (.c .nil))]) (nS (nF [mV 4 0,oT 5 4,mV 3 5]) (nS (.block 0 (.loop qdm)) (nR [oP 18 (.bslice 1 0 (.int .u32 0) []),mV 19 0,mV 20 3,oP 21 (.slice 1 (.t 19) none (some (.t 20)) none),oP 22 (.append 1 4 (.t 18) (.t 21)),mV 2 22]))))
def qey : AC:=(nS (nS (nF [mV 4 0,mV 5 3,oO 6 .quo 5 32,oV 7 1 4 6,oJ 8 7,mV 9 3,oO 10 .rem 9 32,oP 11 (.conv .u64 (.t 10)),oN 12 .shr 8 11,oP 13 (.bin .num .and (.t 12) (.c (.int .u32 1))),oP 14 (.bin .num .eql (.t 13) (.c (.int .u32 0)))]) (nC 14 .skip (.exit 0))) (.block 1 (nF [mV 15 3,oO 16 .add 15 1,mV 3 16])))
@[simp] def qhp : AFn:=nG [(.tmp 2)] (nS (nF [oP 2 (nV 0)]) (nS (nF [oP 3 (nV 0)]) (nS (.block 0 (.loop qey)) (nR [mV 17 3,mV 2 17]))))
def qc3 : AC:=(nS (nS (nF [mV 17 6,mV 18 0,oT 19 18,oN 20 .lss 17 19]) (nC 20 .skip (.exit 0))) (nS (.block 1 (nS (nF [mV 23 0,mV 24 6,oV 25 1 23 24,oJ 26 25,oP 27 (.conv .u64 (.t 26)),mV 7 27]) (nS (nS (nF [mV 28 6,oO 29 .add 28 1,mV 30 0,oT 31 30,oN 32 .lss 29 31]) (nC 32 (nF [mV 33 7,mV 34 0,mV 35 6,oO 36 .add 35 1,oV 37 1 34 36,oJ 38 37,oP 39 (.conv .u64 (.t 38)),oP 40 (.bin .num .shl (.t 39) (.c (.int .u64 32))),oN 41 .or 33 40,mV 7 41]) .skip)) (nF [mV 42 5,mV 43 7,mV 44 1,oO 45 .rem 44 32,oP 46 (.conv .u64 (.t 45)),
 oN 47 .shr 43 46,oP 48 (.bin .num .and (.t 47) (.c (.int .u64 4294967295))),oP 49 (.conv .u32 (.t 48)),oP 50 (.bslice 1 1 (.int .u32 0) [(0,(.t 49))]),oP 51 (.append 1 4 (.t 42) (.t 50)),mV 5 51])))) (nF [mV 21 6,oO 22 .add 21 1,mV 6 22])))
@[simp] def qhq : AFn:=nG [(.tmp 4)] (nS (nF [oP 4 (.mv (.c .nil))]) (nS (nS (nF [mV 8 1,oO 9 .quo 8 32,mV 10 0,oT 11 10,oN 12 .geq 9 11]) (nC 12 (nR [oP 4 (.mv (.c .nil))]) .skip)) (nS (nF [mV 13 0,mV 14 1,oO 15 .quo 14 32,oP 16 (.slice 1 (.t 13) (some (.t 15)) none none),mV 0 16]) (nS (nF [oP 5 (.mv (.c .nil))]) (nS (nS (nF [oP 6 (nV 0)]) (.block 0 (.loop qc3))) (nR [mV 52 5,oA1 53 101 52,mV 4 53]))))))
def qcn : AC:=(nS (nF [oN 8 .lss 7 6]) (nS (nC 8 .skip (.exit 0)) (nS (.block 1 (nS (nF [oV 9 7 5 7,oI 10 7 9,oL 4,oK 7 4 10 false]) (nS (nF [oQ 11 6 4,oJ 12 11,mV 13 12,oG 14 13 true 7 4,oC1 15 13 77 14,gF 16 13 (nU 15),oX 17 13 16]) (nC 17 (nR [oZ 2 false]) .skip)))) (nF [oO 18 .add 7 1,mV 7 18]))))
@[simp] def qga : AFn:=nG [(.tmp 2)] (nS (nF [oZ 2 false]) (nS (nS (nF [mV 5 0,oT 6 5,oP 7 (nV 0)]) (.block 0 (.loop qcn))) (nR [oZ 2 true])))
@[simp] def qgb : AFn:=nG [(.cell 0 true 7)] (nS (nF [oL 0]) (nR [oP 1 (.build nI [(6,1,(.c (.bool true)))]),oK 7 0 1 false]))
@[simp] def qhm : AFn:=nG [(.tmp 2)] (nS (nF [oU 1 7 0,oZ 2 false]) (nR [oI 3 7 1,oA1 4 70 3,mV 5 4,gT 6 5 (nA 6 1),oH 7 5 false 1 6,gT 8 5 (nU 7),oY 9 5 8,mV 2 9]))
@[simp] def qfr : AFn:=nG [(.tmp 2)] (nS (nF [oP 2 (nV 0)]) (nS (nF [mV 3 0,oA1 4 111 3,mV 0 4]) (nS (nS (nF [mV 5 0,oT 6 5,oO 7 .eql 6 0]) (nC 7 (nR [oP 2 (nV 0)]) .skip)) (nR [mV 8 0,oT 9 8,oO 10 .sub 9 1,oP 11 (.bin .num .mul (.c (.int .i64 32)) (.t 10)),mV 12 0,mV 13 0,oT 14 13,oO 15 .sub 14 1,oV 16 1 12 15,oJ 17 16,oA1 18 113 17,oN 19 .add 11 18,mV 2 19]))))
def qdj : AC:=(nS (nS (nF [mV 6 3,oO 7 .gtr 6 0,mV 8 7,oF 9 8 0,oF 10 8 3,gT 11 8 (nX .sub 10 1),gT 12 8 (.iaddr 1 (.t 9) (.t 11)),oH 13 8 false 1 12,gT 14 8 (.bin .num .eql (.t 13) (.c (.int .u32 0))),oY 15 8 14]) (nC 15 .skip (.exit 0))) (.block 1 (nF [mV 16 3,oO 17 .sub 16 1,mV 3 17])))
@[simp] def qdx : AFn:=nG [(.tmp 2)] (nS (nF [oP 2 (.mv (.c .nil))]) (nS (nF [mV 4 0,oT 5 4,mV 3 5]) (nS (.block 0 (.loop qdj)) (nR [mV 18 0,mV 19 3,oP 20 (.slice 1 (.t 18) none (some (.t 19)) none),mV 2 20]))))
@[simp] def qkb : AFn:=nG [(.tmp 4),(.tmp 5)] (nS (nF [oP 4 (.mv (.c .nil)),oP 5 (nV 0)]) (nS (.block 0 (nS (nF [mV 7 0,oP 8 (.bslice 1 1 .nil [(0,(.t 7))]),oA1 9 114 8,mV 6 9]) (nC 6 (nR [oP 4 (.mv (.c .nil)),oP 5 (nV 9)]) (nS (nF [mV 11 1,oO 12 .lss 11 0,mV 13 12,oE 14 13 1,gF 15 13 (nX .gtr 14 65536),oX 16 13 15,mV 10 16]) (nC 10 (nR [oP 4 (.mv (.c .nil)),oP 5 (nV 2)]) .skip))))) (nR [mV 17 0,
 mV 18 1,oA2 19 116 17 18,oA1 20 115 19,oR 21 0 20,oR 22 1 20,mV 4 21,mV 5 22])))
@[simp] def qdl : AFn:=nG [(.tmp 2)] (nS (nF [oP 2 (nV 0)]) (nS (nS (nF [mV 3 0,oP 4 (.bin .num .geq (.t 3) (.c (.int .u32 65536)))]) (nC 4 (nS (nF [mV 5 0,oP 6 (.bin .num .shr (.t 5) (.c (.int .u64 16))),mV 0 6]) (nF [oP 2 (nV 16)])) .skip)) (nS (nS (nF [mV 7 0,oP 8 (.bin .num .geq (.t 7) (.c (.int .u32 256)))]) (nC 8 (nS (nF [mV 9 0,oP 10 (.bin .num .shr (.t 9) (.c (.int .u64 8))),mV 0 10]) (nF [mV 11 2,oO 12 .add 11 8,mV 2 12])) .skip)) (nR [mV 13 2,
 mV 14 0,oP 15 (.conv .u8 (.t 14)),oP 16 (.sindex (.c (.str str_0)) (.t 15)),oP 17 (.conv .i64 (.t 16)),oN 18 .add 13 17,mV 2 18]))))
@[simp] def qir : AFn:=nG [(.tmp 2)] (nS (nF [oZ 2 false]) (nR [mV 3 0,oP 4 (.call (.f 117) [(.t 3),(.f 118)]),mV 2 4]))
@[simp] def qis : AFn:=nG [(.tmp 2),(.tmp 3)] (nS (nF [oP 2 (.mv (.c .nil)),oP 3 (nV 0)]) (nS (nF [mV 4 0,oA1 5 111 4,mV 0 5]) (nS (nS (nF [mV 6 0,oP 7 (.bslice 1 1 .nil [(0,(.t 6))]),oA1 8 114 7]) (nC 8 (nR [oP 2 (.mv (.c .nil)),oP 3 (nV 9)]) .skip)) (nR [mV 9 0,oA1 10 119 9,mV 2 10,oP 3 (nV 0)]))))
def qf5 : AC:=(nS (nF [oN 24 .lss 23 22]) (nS (nC 24 .skip (.exit 0)) (nS (.block 1 (nS (nF [oV 25 1 21 23,oJ 26 25,mV 8 26]) (nS (nF [mV 27 8,oP 28 (.conv .u64 (.t 27)),mV 29 1,oO 30 .rem 29 32,oN 31 .shl 28 30,mV 32 6,oN 33 .or 31 32,mV 9 33]) (nF [mV 34 5,mV 35 9,oP 36 (.conv .u32 (.t 35)),oP 37 (.bslice 1 1 (.int .u32 0) [(0,(.t 36))]),oP 38 (.append 1 4 (.t 34) (.t 37)),mV 39 9,oP 40 (.bin .num .shr (.t 39) (.c (.int .u64 32))),mV 5 38,mV 6 40])))) (nF [oO 41 .add 23 1,mV 23 41]))))
@[simp] def qgv : AFn:=⟨[(.tmp 4)],(nS (nF [oP 4 (.mv (.c .nil))]) (nS (nF [mV 10 0,oA1 11 111 10,mV 0 11]) (nS (nF [mV 12 1,oO 13 .quo 12 32,mV 14 1,oO 15 .quo 14 32,mV 16 0,oT 17 16,oN 18 .add 15 17,oO 19 .add 18 1,oP 20 (.mkslice 1 4 (.int .u32 0) (.t 13) (.t 19)),mV 5 20]) (nS (nF [oP 6 (.mv (.c (.int .u64 0)))]) (nS (nS (nF [mV 21 0,oT 22 21,oP 23 (nV 0)]) (.block 0 (.loop qf5))) (nR [mV 42 5,mV 43 6,oP 44 (.conv .u32 (.t 43)),oP 45 (.bslice 1 1 (.int .u32 0) [(0,(.t 44))]),oP 46 (.append 1 4 (.t 42) (.t 45)),
 mV 4 46])))))),true,false⟩
@[simp] def qbh : AFn:=nG [(.tmp 4)] (nS (nF [oZ 4 false]) (nR [mV 5 0,mV 6 1,oA2 7 120 5 6,oO 8 .geq 7 0,mV 4 8]))
@[simp] def qf7 : AFn:=nG [(.tmp 2)] (nS (nF [oZ 2 false]) (nR [mV 3 0,oT 4 3,oO 5 .gtr 4 256,mV 2 5]))
@[simp] def qdp : AFn:=nG [(.tmp 2)] (nS (nF [oP 2 (.mv (.c .nil))]) (nR [mV 3 0,mV 4 0,oT 5 4,mV 6 0,oT 7 6,oP 8 (.slice 1 (.t 3) none (some (.t 5)) (some (.t 7))),mV 2 8]))
def qbg : AC:=(nS (nF [oN 9 .lss 8 7]) (nS (nC 9 .skip (.exit 0)) (nS (.block 1 (nS (nF [mV 10 8,mV 5 10]) (nS (nF [mV 11 1,mV 12 0,mV 13 5,oV 14 1 12 13,oJ 15 14,oP 16 (.call (.t 11) [(.t 15)])]) (nC 16 (nR [mV 17 5,mV 4 17]) .skip)))) (nF [oO 18 .add 8 1,mV 8 18]))))
@[simp] def qbx : AFn:=nG [(.tmp 4)] (nS (nF [oP 4 (nV 0)]) (nS (nS (nF [mV 6 0,oT 7 6,oP 8 (nV 0)]) (.block 0 (.loop qbg))) (nR [oP 4 (nV (-1))])))
@[simp] def qiu : AFn:=nG [(.tmp 4)] (nS (nF [oU 2 7 0,oU 3 3 1,oZ 4 false]) (nS (nS (nF [oI 5 7 2,oA1 6 77 5,oW 7 6,mV 8 7,oG 9 8 true 3 3,oC1 10 8 51 9,gF 11 8 (nU 10),oX 12 8 11]) (nC 12 (nR [oZ 4 false]) .skip)) (nR [oQ 13 6 2,oJ 14 13,mV 15 14,gF 16 15 (nA 0 2),oG 17 15 true 3 16,oG 18 15 true 3 3,oC2 19 15 52 17 18,gF 20 15 (nX .leq 19 0),oE 21 15 20,oH 22 21 true 3 3,gT 23 21 (nA 3 2),oH 24 21 true 3 23,oD2 25 21 52 22 24,gT 26 21 (nX .leq 25 0),
 gF 27 15 (.pick (.t 21) (.t 26) (.c (.bool false))),oX 28 15 27,mV 4 28])))
@[simp] def qit : AFn:=nG [(.cell 6 true 7)] (nS (nF [oU 3 7 0,oU 4 7 1,oL 6]) (nS (nS (nF [oI 7 7 3,oI 8 7 4,oP 9 (.bslice 7 2 (.agg nI) [(0,(.t 7)),(1,(.t 8))]),oA1 10 106 9,oW 11 10,mV 12 11,oE 13 12 2,oC1 14 12 186 13,gF 15 12 (nU 14),oX 16 12 15]) (nC 16 (nR [oA0 17 107,oK 7 6 17 false]) .skip)) (nR [oI 18 7 3,oI 19 7 4,mV 20 2,oP 21 (.call (.f 190) [(.t 18),(.t 19),(.t 20),(.f 191),(.f 192)]),oK 7 6 21 false])))
@[simp] def qgd : AFn:=nG [(.cell 4 true 7)] (nS (nF [oU 2 7 0,oL 4]) (nS (nS (nF [oI 9 7 2,oP 10 (.bslice 7 1 (.agg nI) [(0,(.t 9))]),oA1 11 106 10,oW 12 11]) (nC 12 (nR [oA0 13 107,oK 7 4 13 false]) .skip)) (nS (nF [oQ 15 0 2,oI 16 3 15,mV 17 1,oA2 18 204 16 17,mV 14 18,oR 19 0 14,oR 20 1 14,oM 5,oK 3 5 19 false,mV 6 20]) (nS (nF [oQ 22 3 2,oI 23 3 22,mV 24 1,oA2 25 204 23 24,mV 21 25,oR 26 0 21,oR 27 1 21,oM 7,oK 3 7 26 false,mV 8 27]) (nR [oI 28 3 5,
 mV 29 6,oI 30 3 7,mV 31 8,oA4 32 189 28 29 30 31,oK 7 4 32 false])))))
@[simp] def qiw : AFn:=nG [(.tmp 2)] (nS (nF [oU 1 7 0,oP 2 (nV 0)]) (nS (nS (nF [oI 3 7 1,oA1 4 108 3,oW 5 4]) (nC 5 (nR [oP 2 (nV 0)]) .skip)) (nS (nS (nF [oQ 6 0 1,oI 7 3 6,oA1 8 54 7,oO 9 .gtr 8 0]) (nC 9 (nR [oP 2 (nV 1)]) .skip)) (nS (nS (nF [oQ 10 3 1,oI 11 3 10,oA1 12 54 11,oO 13 .lss 12 0]) (nC 13 (nR [oP 2 (nV (-1))]) .skip)) (nR [oP 2 (nV 0)])))))
@[simp] def qht : AFn:=nG [(.cell 4 true 3),(.tmp 5)] (nS (nF [oU 2 3 0,oM 4,oP 5 (nV 0)]) (nS (nS (nF [oI 6 3 2,oA1 7 12 6,oW 8 7,mV 9 8,oE 10 9 1,oC1 11 9 214 10,gF 12 9 (nU 11),oX 13 9 12]) (nC 13 (nR [oP 14 (.build nD []),oK 3 4 14 false,oP 5 (nV 1)]) .skip)) (nR [oQ 15 0 2,oJ 16 15,oQ 17 1 2,oJ 18 17,oQ 19 2 2,oJ 20 19,mV 21 1,oN 22 .add 20 21,oA3 23 85 16 18 22,oA1 24 184 23,oR 25 0 24,oR 26 1 24,oK 3 4 25 false,mV 5 26])))
@[simp] def qfk : AFn:=nG [(.cell 2 true 3),(.tmp 3)] (nS (nF [oU 1 3 0,oM 2,oP 3 (nV 0)]) (nS (nS (nF [oI 4 3 1,oA1 5 12 4,oW 6 5]) (nC 6 (nR [oP 7 (.build nD []),oK 3 2 7 false,oP 3 (nV 9)]) .skip)) (nR [oI 8 3 1,oK 3 2 8 false,oP 3 (nV 0)])))
@[simp] def qdq : AFn:=nG [(.tmp 2)] (nS (nF [oZ 2 false]) (nR [mV 3 0,oO 4 .geq 3 8,mV 5 4,oF 6 5 0,gT 7 5 (nX .leq 6 512),oY 8 5 7,mV 2 8]))
@[simp] def qhk : AFn:=nG [(.cell 8 true 7)] (nS (nF [oU 4 3 0,oU 6 3 2,oL 8]) (nS (nS (nF [mV 9 1,oO 10 .neq 9 0,mV 11 10,oE 12 11 3,gF 13 11 (nX .neq 12 0),oX 14 11 13]) (nC 14 (nR [oA0 15 107,oK 7 8 15 false]) .skip)) (nR [oI 16 3 4,oI 17 3 6,oP 18 (.build nI [(0,3,(.t 16)),(3,3,(.t 17))]),oK 7 8 18 false])))
def qc2 : AC:=(nS (nF [oO 42 .lss 41 4]) (nS (nC 42 .skip (.exit 0)) (nS (.block 1 (nS (nF [mV 43 41,oP 44 (.index true 4 6 (.t 40) (.t 41)),oP 14 (.new 6 (.agg [(.bool false),.nil,(.int .i64 0),(.bool false),.nil,(.int .i64 0)])),mV 13 43,oK 6 14 44 false]) (nS (nF [mV 46 3,oP 47 (.aiaddr 2 3 (.t 14) (.c (.int .i64 0))),oI 48 3 47,oP 49 (.aiaddr 2 3 (.t 14) (.c (.int .i64 1))),oI 50 3 49,mV 51 2,oP 52 (.call (.t 46) [(.t 48),(.t 50),(.t 51)]),mV 45 52,oR 53 0 45,oR 54 1 45,oM 15,oK 3 15 53 false,mV 16 54]) (nS (nF [mV 56 4,oP 57 (.aiaddr 2 3 (.t 14) (.c (.int .i64 0))),
 oI 58 3 57,oP 59 (.aiaddr 2 3 (.t 14) (.c (.int .i64 1))),oI 60 3 59,mV 61 2,oP 62 (.call (.t 56) [(.t 58),(.t 60),(.t 61)]),mV 55 62,oR 63 0 55,oR 64 1 55,oM 17,oK 3 17 63 false,mV 18 64]) (nS (nS (nF [mV 65 16,oO 66 .neq 65 0,mV 67 66,oE 68 67 18,gF 69 67 (nX .neq 68 0),oX 70 67 69]) (nC 70 (nR [oA0 71 107,oK 7 10 71 false]) .skip)) (nS (nS (nF [mV 72 13,oO 73 .eql 72 0,mV 74 73,oG 75 74 true 3 15,gF 76 74 (nA 0 12),oG 77 74 true 3 76,oC2 78 74 52 75 77,gF 79 74 (nX .lss 78 0),
 oX 80 74 79]) (nC 80 (nF [oI 81 3 15,oQ 82 0 12,oK 3 82 81 false]) .skip)) (nS (nF [mV 83 13,oO 84 .eql 83 0,mV 85 84,oG 86 85 true 3 17,gF 87 85 (nA 3 12),oG 88 85 true 3 87,oC2 89 85 52 86 88,gF 90 85 (nX .gtr 89 0),oX 91 85 90]) (nC 91 (nF [oI 92 3 17,oQ 93 3 12,oK 3 93 92 false]) .skip)))))))) (nF [oO 94 .add 41 1,mV 41 94]))))
@[simp] def qhl : AFn:=nG [(.cell 10 true 7)] (nS (nF [oU 5 7 0,oU 6 7 1,oL 10]) (nS (nF [oQ 19 0 5,oI 20 3 19,oQ 21 0 6,oI 22 3 21,oP 23 (.build [(.bool false),.nil,(.int .i64 0),(.bool false),.nil,(.int .i64 0)] [(0,3,(.t 20)),(3,3,(.t 22))]),oQ 24 0 5,oI 25 3 24,oQ 26 3 6,oI 27 3 26,oP 28 (.build [(.bool false),.nil,(.int .i64 0),(.bool false),.nil,(.int .i64 0)] [(0,3,(.t 25)),(3,3,(.t 27))]),oQ 29 3 5,oI 30 3 29,oQ 31 0 6,oI 32 3 31,oP 33 (.build [(.bool false),.nil,(.int .i64 0),(.bool false),.nil,(.int .i64 0)] [(0,3,(.t 30)),(3,3,(.t 32))]),oQ 34 3 5,oI 35 3 34,
 oQ 36 3 6,oI 37 3 36,oP 38 (.build [(.bool false),.nil,(.int .i64 0),(.bool false),.nil,(.int .i64 0)] [(0,3,(.t 35)),(3,3,(.t 37))]),oP 39 (.build [(.bool false),.nil,(.int .i64 0),(.bool false),.nil,(.int .i64 0),(.bool false),.nil,(.int .i64 0),(.bool false),.nil,(.int .i64 0),(.bool false),.nil,(.int .i64 0),(.bool false),.nil,(.int .i64 0),(.bool false),.nil,(.int .i64 0),(.bool false),.nil,(.int .i64 0)] [(0,6,(.t 23)),(6,6,(.t 28)),(12,6,(.t 33)),(18,6,(.t 38))]),oP 11 (.new 24 (.agg [(.bool false),.nil,(.int .i64 0),(.bool false),.nil,(.int .i64 0),(.bool false),.nil,(.int .i64 0),(.bool false),.nil,(.int .i64 0),(.bool false),.nil,(.int .i64 0),(.bool false),.nil,(.int .i64 0),(.bool false),.nil,(.int .i64 0),(.bool false),.nil,(.int .i64 0)])),
 oK 24 11 39 false]) (nS (nF [oL 12]) (nS (nS (nF [oI 40 24 11,oP 41 (nV 0)]) (.block 0 (.loop qc2))) (nR [oI 95 7 12,oK 7 10 95 false])))))
@[simp] def qhf : AFn:=nG [(.cell 6 true 3),(.tmp 7)] (nS (nF [oU 3 3 0,oU 4 3 1,oM 6,oP 7 (nV 0)]) (nR [oI 8 3 3,oI 9 3 4,mV 10 2,oP 11 (.call (.f 217) [(.t 8),(.t 9),(.t 10),(.c (.bool false))]),oR 12 0 11,oR 13 1 11,oK 3 6 12 false,mV 7 13]))
@[simp] def qj4 : AFn:=nG [(.cell 6 true 3),(.tmp 7)] (nS (nF [oU 3 3 0,oU 4 3 1,oM 6,oP 7 (nV 0)]) (nR [oI 8 3 3,oI 9 3 4,mV 10 2,oP 11 (.call (.f 217) [(.t 8),(.t 9),(.t 10),(.c (.bool true))]),oR 12 0 11,oR 13 1 11,oK 3 6 12 false,mV 7 13]))
@[simp] def qix : AFn:=nG [(.tmp 2)] (nS (nF [oZ 2 false]) (nR [mV 3 0,oO 4 .geq 3 8,mV 5 4,oF 6 5 0,gT 7 5 (nX .leq 6 512),oY 8 5 7,mV 2 8]))
@[simp] def qll : AFn:=nG [(.cell 2 true 3)] (nS (nF [oU 1 3 0,oM 2]) (nS (nS (nF [oI 3 3 1,oA1 4 51 3,oW 5 4,mV 6 5,gF 7 6 (nA 1 1),oG 8 6 false 1 7,gF 9 6 (.len (.t 8)),gF 10 6 (nX .eql 9 0),oX 11 6 10]) (nC 11 (nR [oP 12 (.build nD []),oK 3 2 12 false]) .skip)) (nS (nT [oQ 13 0 1,oJ 14 13,oW 15 14,oQ 16 1 1,oJ 17 16,oA1 18 221 17,oQ 19 2 1,oJ 20 19,oP 21 (.build nD [(0,1,(.t 15)),(1,1,(.t 18)),(2,1,(.t 20))]),oK 3 2 21 true]) .ret)))
@[simp] def qlh : AFn:=nG [(.cell 4 true 3),(.tmp 5)] (nS (nF [oU 2 3 0,oM 4,oP 5 (nV 0)]) (nR [oI 6 3 2,mV 7 1,oP 8 (.call (.f 222) [(.t 6),(.t 7),(.c (.bool false))]),oR 9 0 8,oR 10 1 8,oK 3 4 9 false,mV 5 10]))
@[simp] def qpx : AFn:=nG [(.cell 4 true 3),(.tmp 5)] (nS (nF [oU 2 3 0,oM 4,oP 5 (nV 0)]) (nR [oI 6 3 2,mV 7 1,oP 8 (.call (.f 222) [(.t 6),(.t 7),(.c (.bool true))]),oR 9 0 8,oR 10 1 8,oK 3 4 9 false,mV 5 10]))
@[simp] def qi5 : AFn:=nG [(.cell 4 true 3),(.tmp 5)] (nS (nF [oU 2 3 0,oM 4,oP 5 (nV 0)]) (nS (nS (nF [oI 6 3 2,oA1 7 51 6,oW 8 7,mV 9 8,oE 10 9 1,oC1 11 9 223 10,gF 12 9 (nU 11),oX 13 9 12]) (nC 13 (nR [oP 14 (.build nD []),oK 3 4 14 false,oP 5 (nV 1)]) .skip)) (nR [oQ 15 0 2,oJ 16 15,oQ 17 1 2,oJ 18 17,oQ 19 2 2,oJ 20 19,mV 21 1,oN 22 .add 20 21,oA3 23 225 16 18 22,oA1 24 224 23,oR 25 0 24,oR 26 1 24,oK 3 4 25 false,mV 5 26])))
@[simp] def qlm : AFn:=nG [(.cell 2 true 3)] (nS (nF [oM 2]) (nS (nF [mV 4 0,oP 5 (.conv .u64 (.t 4)),mV 3 5]) (nS (nS (nF [mV 6 0,oO 7 .lss 6 0]) (nC 7 (nF [mV 8 3,oP 9 (.un .neg (.t 8)),mV 3 9]) .skip)) (nR [mV 10 0,oO 11 .lss 10 0,mV 12 3,oP 13 (.conv .u32 (.t 12)),mV 14 3,oP 15 (.bin .num .shr (.t 14) (.c (.int .u64 32))),oP 16 (.conv .u32 (.t 15)),oP 17 (.bslice 1 2 (.int .u32 0) [(0,(.t 13)),(1,(.t 16))]),oP 18 (.call (.f 225) [(.t 11),(.t 17),(.c (.int .i64 0))]),oK 3 2 18 false]))))
@[simp] def qez : AFn:=nG [(.tmp 2)] (nS (nF [oZ 2 false]) (nR [mV 3 0,oP 4 (nX .geq 3 (-32768)),mV 5 4,oF 6 5 0,gT 7 5 (nX .leq 6 32768),oY 8 5 7,mV 2 8]))
@[simp] def qng : AFn:=nG [(.cell 8 true 3),(.tmp 9)] (nS (nF [oU 4 3 0,oU 5 3 1,oM 8,oP 9 (nV 0)]) (nS (nS (nF [mV 13 2,oI 14 3 4,oI 15 3 5,oP 16 (.bslice 3 2 (.agg nD) [(0,(.t 14)),(1,(.t 15))]),oA2 17 235 13 16,mV 10 17]) (nS (nF [mV 18 10,oO 19 .neq 18 0]) (nC 19 (nR [oP 20 (.build nD []),mV 21 10,oK 3 8 20 false,mV 9 21]) .skip))) (nS (nS (nF [oQ 22 1 4,oJ 23 22,oT 24 23,oO 25 .eql 24 0,mV 26 25,gF 27 26 (nA 1 5),oG 28 26 false 1 27,
 gF 29 26 (.len (.t 28)),gF 30 26 (nX .eql 29 0),oX 31 26 30]) (nC 31 (nR [oP 32 (.build nD []),oK 3 8 32 false,oP 9 (nV 0)]) .skip)) (nS (nF [oQ 34 1 4,oJ 35 34,oQ 36 1 5,oJ 37 36,oA2 38 238 35 37,mV 33 38,oR 39 0 33,oR 40 1 33,mV 11 39,mV 12 40]) (nR [oQ 41 0 4,oJ 42 41,oQ 43 0 5,oJ 44 43,oP 45 (.bin .bool .neq (.t 42) (.t 44)),mV 46 11,oQ 47 2 4,oJ 48 47,oQ 49 2 5,oJ 50 49,oN 51 .add 48 50,oP 52 (.build [.nil,(.int .i64 0),(.bool false)] [(0,1,(.t 46)),(1,1,(.t 51))]),
 mV 53 2,mV 54 3,oA4 55 237 45 52 53 54,oR 56 0 55,oR 57 1 55,oK 3 8 56 false,mV 9 57])))))
@[simp] def qc9 : AFn:=nG [(.tmp 2)] (nS (nF [oP 2 (.mv (.c .nil))]) (nS (nS (nF [mV 3 0,oP 4 (.bin .slice .eql (.t 3) (.c .nil))]) (nC 4 (nR [oP 2 (.mv (.c .nil))]) .skip)) (nR [oP 5 (.bslice 1 0 (.int .u32 0) []),mV 6 0,oP 7 (.append 1 4 (.t 5) (.t 6)),mV 2 7])))
@[simp] def qj2 : AFn:=nG [(.cell 6 true 3),(.tmp 7)] (nS (nF [oU 3 3 0,oM 6,oP 7 (nV 0)]) (nS (nS (nF [mV 9 1,oI 10 3 3,oP 11 (.bslice 3 1 (.agg nD) [(0,(.t 10))]),oA2 12 235 9 11,mV 8 12]) (nS (nF [mV 13 8,oO 14 .neq 13 0]) (nC 14 (nR [oP 15 (.build nD []),mV 16 8,oK 3 6 15 false,mV 7 16]) .skip))) (nS (nT [oQ 17 0 3,oJ 18 17,oI 19 3 3,oA1 20 243 19,mV 21 1,mV 22 2,oB4 23 237 18 20 21 22,oR 24 0 23,oR 25 1 23,oK 3 6 24 true,mV 7 25]) .ret)))
@[simp] def qfl : AFn:=nG [(.tmp 2)] (nS (nF [oZ 2 false]) (nR [mV 3 0,oP 4 (nX .geq 3 (-32768)),mV 5 4,oF 6 5 0,gT 7 5 (nX .leq 6 32768),oY 8 5 7,mV 2 8]))
@[simp] def qgk : AFn:=nG [(.cell 2 true 3),(.tmp 3)] (nS (nF [oU 1 3 0,oM 2,oP 3 (nV 0)]) (nS (nS (nF [oI 4 3 1,oA1 5 78 4,oW 6 5]) (nC 6 (nR [oP 7 (.build nD []),oK 3 2 7 false,oP 3 (nV 9)]) .skip)) (nR [oI 8 3 1,oK 3 2 8 false,oP 3 (nV 0)])))
@[simp] def qe1 : AFn:=nG [(.cell 6 true 3)] (nS (nF [oM 6]) (nS (nF [mV 10 1,oA1 11 244 10,mV 1 11]) (nS (nS (nF [mV 12 1,oT 13 12,oO 14 .eql 13 0]) (nC 14 (nR [oP 15 (.build nD []),oK 3 6 15 false]) .skip)) (nS (nF [mV 16 1,oA1 17 245 16,mV 7 17]) (nS (nF [mV 19 1,mV 20 7,oA2 21 246 19 20,mV 18 21,oR 22 0 18,oR 23 1 18,mV 8 22,mV 9 23]) (nR [mV 24 0,mV 25 8,oA1 26 221 25,oA1 27 119 26,mV 28 2,mV 29 7,oN 30 .add 28 29,oP 31 (.build nD [(0,1,(.t 24)),(1,1,(.t 27)),(2,1,(.t 30))]),
 oK 3 6 31 false]))))))
def qf4 : AC:=(nS (nF [oN 10 .lss 9 8]) (nS (nC 10 .skip (.exit 0)) (nS (.block 1 (nS (nF [oV 11 3 7 9,oI 12 3 11,oM 6,oK 3 6 12 false]) (nS (nF [oI 13 3 6,oA1 14 51 13,oW 15 14]) (nC 15 (nR [oP 4 (nV 1)]) .skip)))) (nF [oO 16 .add 9 1,mV 9 16]))))
@[simp] def qj3 : AFn:=nG [(.tmp 4)] (nS (nF [oP 4 (nV 0)]) (nS (nS (nF [mV 7 1,oT 8 7,oP 9 (nV 0)]) (.block 0 (.loop qf4))) (nS (nS (nF [mV 17 0,oA1 18 255 17,oW 19 18]) (nC 19 (nR [oP 4 (nV 2)]) .skip)) (nR [oP 4 (nV 0)]))))
@[simp] def qiq : AFn:=nG [(.cell 8 true 3),(.tmp 9)] (nS (nF [oU 5 3 1,oM 8,oP 9 (nV 0)]) (nS (nF [oI 13 3 5,mV 14 2,mV 15 3,mV 16 0,oP 17 (.bin .bool .neq (.t 15) (.t 16)),oA3 18 254 13 14 17,mV 12 18,oR 19 0 12,oR 20 1 12,oM 10,oK 3 10 19 false,mV 11 20]) (nS (nS (nF [mV 21 11,oO 22 .eql 21 0,mV 23 22,oF 24 23 0,oY 25 23 24]) (nC 25 (nF [oI 26 3 10,oA1 27 198 26,oK 3 10 27 false]) .skip)) (nR [oI 28 3 10,mV 29 11,oK 3 8 28 false,mV 9 29]))))
@[simp] def qkc : AFn:=nG [(.tmp 4),(.tmp 5)] (nS (nF [oP 4 (.mv (.c .nil)),oP 5 (nV 0)]) (nS (nS (nF [mV 6 0,mV 7 1,oP 8 (.bslice 1 2 .nil [(0,(.t 6)),(1,(.t 7))]),oA1 9 114 8]) (nC 9 (nR [oP 4 (.mv (.c .nil)),oP 5 (nV 9)]) .skip)) (nR [mV 10 0,oA1 11 111 10,mV 12 1,oA1 13 111 12,oA2 14 259 11 13,oA1 15 115 14,oR 16 0 15,oR 17 1 15,mV 4 16,mV 5 17])))
@[simp] def qf9 : AFn:=nG [(.tmp 4),(.tmp 5),(.tmp 6)] (nS (nF [oP 4 (.mv (.c .nil)),oP 5 (.mv (.c .nil)),oP 6 (nV 0)]) (nS (.block 0 (nS (nF [mV 10 0,mV 11 1,oP 12 (.bslice 1 2 .nil [(0,(.t 10)),(1,(.t 11))]),oA1 13 114 12,mV 9 13]) (nC 9 (nR [oP 4 (.mv (.c .nil)),oP 5 (.mv (.c .nil)),oP 6 (nV 9)]) (nS (nF [mV 15 1,oA1 16 111 15,oT 17 16,oO 18 .eql 17 0,mV 14 18]) (nC 14 (nR [oP 4 (.mv (.c .nil)),oP 5 (.mv (.c .nil)),oP 6 (nV 10)]) .skip))))) (nS (nF [mV 20 0,
 mV 21 1,oA2 22 260 20 21,mV 19 22,oR 23 0 19,oR 24 1 19,mV 7 23,mV 8 24]) (nR [mV 25 7,oA1 26 111 25,oA1 27 119 26,mV 28 8,oA1 29 111 28,oA1 30 119 29,mV 4 27,mV 5 30,oP 6 (nV 0)]))))
@[simp] def qnf : AFn:=nG [(.tmp 4)] (nS (nF [oP 4 (.mv (.c .nil))]) (nS (nF [mV 8 0,mV 9 1,oA2 10 112 8 9,mV 7 10,oR 11 0 7,oR 12 1 7,mV 5 11,mV 6 12]) (nR [mV 13 5,mV 4 13])))
@[simp] def qpw : AFn:=nG [(.cell 2 true 3)] (nS (nF [oU 1 3 0,oP 2 (.new 3 (.agg [.nil,(.int .i64 0),(.bool false)]))]) (nR [oQ 3 1 1,oJ 4 3,oQ 5 2 1,oJ 6 5,oP 7 (.build [.nil,(.int .i64 0),(.bool false)] [(0,1,(.t 4)),(1,1,(.t 6))]),oK 3 2 7 false]))
def qco : AC:=(nS (nS (nF [mV 6 3,oO 7 .gtr 6 0,mV 8 7,oF 9 8 0,oF 10 8 3,gT 11 8 (nX .sub 10 1),gT 12 8 (.iaddr 1 (.t 9) (.t 11)),oH 13 8 false 1 12,gT 14 8 (.bin .num .eql (.t 13) (.c (.int .u32 0))),oY 15 8 14]) (nC 15 .skip (.exit 0))) (.block 1 (nF [mV 16 3,oO 17 .sub 16 1,mV 3 17])))
@[simp] def qgg : AFn:=nG [(.tmp 2)] (nS (nF [oP 2 (.mv (.c .nil))]) (nS (nF [mV 4 0,oT 5 4,mV 3 5]) (nS (.block 0 (.loop qco)) (nR [mV 18 0,mV 19 3,oP 20 (.slice 1 (.t 18) none (some (.t 19)) none),mV 2 20]))))
def qhz : AC:=(nS (nF [oN 9 .lss 8 7]) (nS (nC 9 .skip (.exit 0)) (nS (.block 1 (nS (nF [oV 10 1 6 8,oJ 11 10,mV 5 11]) (nS (nS (nF [mV 12 5,oP 13 (.bin .num .neq (.t 12) (.c (.int .u32 0)))]) (nC 13 (nR [mV 14 3,mV 15 5,oA1 16 261 15,oN 17 .add 14 16,mV 2 17]) .skip)) (nF [mV 18 3,oO 19 .add 18 32,mV 3 19])))) (nF [oO 20 .add 8 1,mV 8 20]))))
@[simp] def qlj : AFn:=nG [(.tmp 2)] (nS (nF [oP 2 (nV 0)]) (nS (nF [oP 3 (nV 0)]) (nS (nS (nF [mV 6 0,oT 7 6,oP 8 (nV 0)]) (.block 0 (.loop qhz))) (nR [mV 21 3,mV 2 21]))))
@[simp] def qka : AFn:=nG [(.tmp 4),(.tmp 5)] (nS (nF [oP 4 (.mv (.c .nil)),oP 5 (nV 0)]) (nS (.block 0 (nS (nF [mV 7 0,oP 8 (.bslice 1 1 .nil [(0,(.t 7))]),oA1 9 114 8,mV 6 9]) (nC 6 (nR [oP 4 (.mv (.c .nil)),oP 5 (nV 9)]) (nS (nF [mV 11 1,oO 12 .lss 11 0,mV 13 12,oE 14 13 1,gF 15 13 (nX .gtr 14 65536),oX 16 13 15,mV 10 16]) (nC 10 (nR [oP 4 (.mv (.c .nil)),oP 5 (nV 2)]) .skip))))) (nR [mV 17 0,
 mV 18 1,oA2 19 262 17 18,oA1 20 115 19,oR 21 0 20,oR 22 1 20,mV 4 21,mV 5 22])))
@[simp] def c_round_cut : AFn:=nG [(.cell 6 true 3),(.tmp 7)] (nS (nF [oU 3 3 0,oM 6,oP 7 (nV 0)]) (nS (nT [oQ 13 1 3,oJ 14 13,oQ 15 0 3,oJ 16 15,oA1 17 110 16,oN 18 .add 14 17,mV 19 1,oN 20 .sub 18 19,oP 21 (.max (.t 20) (.c (.int .i64 (-16384)))),mV 8 21]) (nS (nT [oQ 22 0 3,oJ 23 22,oQ 24 2 3,oJ 25 24,mV 9 23,mV 10 25]) (nS (nS (nF [oQ 26 1 3,oJ 27 26,mV 28 8,oN 29 .geq 27 28]) (nC 29 (nF [oQ 30 0 3,oJ 31 30,oQ 32 1 3,oJ 33 32,mV 34 8,oN 35 .sub 33 34,oA2 36 241 31 35,mV 9 36]) (nS (nF [oQ 38 0 3,
 oJ 39 38,mV 40 8,oQ 41 1 3,oJ 42 41,oN 43 .sub 40 42,oA2 44 256 39 43,mV 37 44,oR 45 0 37,oR 46 1 37,mV 11 45,mV 12 46]) (nF [mV 47 11,mV 48 10,mV 49 48,oE 50 49 12,oX 51 49 50,mV 9 47,mV 10 51])))) (nS (nS (nF [mV 52 2,mV 53 52,oF 54 53 10,oY 55 53 54]) (nC 55 (nF [mV 57 9,oP 58 (.bslice 1 1 (.int .u32 0) [(0,(.c (.int .u32 1)))]),oA2 59 257 57 58,mV 56 59,oR 60 0 56,oR 61 1 56,mV 9 60]) .skip)) (nS (nS (nF [mV 62 9,oA1 63 110 62,mV 64 8,oN 65 .add 63 64,oO 66 .gtr 65 16384]) (nC 66 (nS (nS (nF [mV 67 2]) (nC 67 (nR [oP 68 (.build nD []),
 oK 3 6 68 false,oP 7 (nV 9)]) .skip)) (nS (nF [oP 70 (.bslice 1 1 (.int .u32 0) [(0,(.c (.int .u32 1)))]),mV 71 1,oA2 72 241 70 71,oP 73 (.bslice 1 1 (.int .u32 0) [(0,(.c (.int .u32 1)))]),oA2 74 258 72 73,mV 69 74,oR 75 0 69,oR 76 1 69,mV 9 75]) (nF [mV 77 1,oP 78 (.bin .num .sub (.c (.int .i64 16384)) (.t 77)),mV 8 78]))) .skip)) (nR [mV 79 9,mV 80 8,oP 81 (.call (.f 265) [(.c (.bool false)),(.t 79),(.t 80)]),oR 82 0 81,oR 83 1 81,oK 3 6 82 false,mV 7 83])))))))
@[simp] def qhe : AFn:=nG [(.tmp 2)] (nS (nF [oZ 2 false]) (nR [mV 3 0,oO 4 .geq 3 8,mV 5 4,oF 6 5 0,gT 7 5 (nX .leq 6 512),oY 8 5 7,mV 2 8]))
@[simp] def qne : AFn:=nG [(.tmp 4),(.tmp 5)] (nS (nF [oP 4 (.mv (.c .nil)),oZ 5 false]) (nS (nS (nF [mV 8 1,mV 9 0,oA1 10 110 9,oN 11 .gtr 8 10]) (nC 11 (nF [mV 12 0,oA1 13 110 12,mV 1 13]) .skip)) (nS (nF [mV 15 0,mV 16 1,oA2 17 246 15 16,mV 14 17,oR 18 0 14,oR 19 1 14,mV 6 18,mV 7 19]) (nR [mV 20 6,mV 21 6,mV 22 1,oA2 23 241 21 22,mV 24 0,oA2 25 99 23 24,oO 26 .neq 25 0,mV 4 20,mV 5 26]))))
@[simp] def qkd : AFn:=nG [(.tmp 4),(.tmp 5)] (nS (nF [oP 4 (.mv (.c .nil)),oP 5 (nV 0)]) (nS (nS (nF [mV 6 0,mV 7 1,oP 8 (.bslice 1 2 .nil [(0,(.t 6)),(1,(.t 7))]),oA1 9 114 8]) (nC 9 (nR [oP 4 (.mv (.c .nil)),oP 5 (nV 9)]) .skip)) (nR [mV 10 0,mV 11 1,oA2 12 264 10 11,oA1 13 115 12,oR 14 0 13,oR 15 1 13,mV 4 14,mV 5 15])))
@[simp] def qj9 : AFn:=nG [(.tmp 4),(.tmp 5)] (nS (nF [oP 4 (.mv (.c .nil)),oP 5 (nV 0)]) (nS (.block 0 (nS (nF [mV 7 0,mV 8 1,oP 9 (.bslice 1 2 .nil [(0,(.t 7)),(1,(.t 8))]),oA1 10 114 9,mV 6 10]) (nC 6 (nR [oP 4 (.mv (.c .nil)),oP 5 (nV 9)]) (nS (nF [mV 12 0,mV 13 1,oA2 14 99 12 13,oO 15 .lss 14 0,mV 11 15]) (nC 11 (nR [oP 4 (.mv (.c .nil)),oP 5 (nV 2)]) .skip))))) (nR [mV 16 0,mV 17 1,oA2 18 266 16 17,oA1 19 115 18,oR 20 0 19,
 oR 21 1 19,mV 4 20,mV 5 21])))
def qd4 : AC:=(nS (nF [oN 28 .lss 27 26]) (nS (nC 28 .skip (.exit 2)) (nS (.block 3 (nS (nF [mV 29 27,oV 30 1 25 27,oJ 31 30,mV 9 29,mV 10 31]) (nS (nF [mV 32 7,oP 33 (.conv .u64 (.t 32)),mV 34 10,oP 35 (.conv .u64 (.t 34)),oN 36 .mul 33 35,mV 37 5,mV 38 6,mV 39 9,oN 40 .add 38 39,oV 41 1 37 40,oJ 42 41,oP 43 (.conv .u64 (.t 42)),oN 44 .add 36 43,mV 45 8,oN 46 .add 44 45,mV 11 46]) (nF [mV 47 5,mV 48 6,mV 49 9,oN 50 .add 48 49,mV 51 11,oP 52 (.conv .u32 (.t 51)),mV 53 11,oP 54 (.bin .num .shr (.t 53) (.c (.int .u64 32))),oV 55 1 47 50,
 oK 1 55 52 false,mV 8 54])))) (nF [oO 56 .add 27 1,mV 27 56]))))
def qf6 : AC:=(nS (nF [oN 21 .lss 20 19]) (nS (nC 21 .skip (.exit 0)) (nS (.block 1 (nS (nF [mV 22 20,oV 23 1 18 20,oJ 24 23,mV 6 22,mV 7 24]) (nS (nF [oP 8 (.mv (.c (.int .u64 0)))]) (nS (nS (nF [mV 25 1,oT 26 25,oP 27 (nV 0)]) (.block 2 (.loop qd4))) (nF [mV 57 5,mV 58 6,mV 59 1,oT 60 59,oN 61 .add 58 60,mV 62 8,oP 63 (.conv .u32 (.t 62)),oV 64 1 57 61,oK 1 64 63 false]))))) (nF [oO 65 .add 20 1,mV 20 65]))))
@[simp] def qj7 : AFn:=nG [(.tmp 4)] (nS (nF [oP 4 (.mv (.c .nil))]) (nS (nF [mV 12 0,oT 13 12,mV 14 1,oT 15 14,oN 16 .add 13 15,oP 17 (.mkslice 1 4 (.int .u32 0) (.t 16) (.t 16)),mV 5 17]) (nS (nS (nF [mV 18 0,oT 19 18,oP 20 (nV 0)]) (.block 0 (.loop qf6))) (nR [mV 66 5,mV 4 66]))))
def qhi : AC:=(nS (nS (nF [mV 56 9,oT 57 56,mV 58 0,oT 59 58,oN 60 .leq 57 59]) (nC 60 .skip (.exit 0))) (.block 1 (nF [mV 61 9,oP 62 (.bslice 1 1 (.int .u32 0) [(0,(.c (.int .u32 0)))]),oP 63 (.append 1 4 (.t 61) (.t 62)),mV 9 63])))
def qcm : AC:=(nS (nF [oN 126 .lss 125 124]) (nS (nC 126 .skip (.exit 4)) (nS (.block 5 (nS (nF [mV 127 125,oV 128 1 123 125,oJ 129 128,mV 16 127,mV 17 129]) (nF [mV 131 9,mV 132 13,mV 133 16,oN 134 .add 132 133,mV 135 9,mV 136 13,mV 137 16,oN 138 .add 136 137,oV 139 1 135 138,oJ 140 139,mV 141 17,mV 142 15,oA3 143 271 140 141 142,mV 130 143,oR 144 0 130,oR 145 1 130,oV 146 1 131 134,oK 1 146 144 false,mV 15 145]))) (nF [oO 147 .add 125 1,mV 125 147]))))
def qcl : AC:=(nS (nS (nF [mV 76 13,oO 77 .geq 76 0]) (nC 77 .skip (.exit 2))) (nS (.block 3 (nS (nT [mV 80 9,mV 81 13,mV 82 11,oN 83 .add 81 82,oV 84 1 80 83,oJ 85 84,mV 86 9,mV 87 13,mV 88 11,oN 89 .add 87 88,oO 90 .sub 89 1,oV 91 1 86 90,oJ 92 91,mV 93 9,mV 94 13,mV 95 11,oN 96 .add 94 95,oO 97 .sub 96 2,oV 98 1 93 97,oJ 99 98,mV 100 10,mV 101 11,oO 102 .sub 101 1,oV 103 1 100 102,oJ 104 103,mV 105 10,mV 106 11,oO 107 .sub 106 2,oV 108 1 105 107,oJ 109 108,oB5 110 269 85 92 99 104 109,mV 14 110]) (nS (nS (nF [mV 111 9,mV 112 13,mV 113 13,mV 114 11,
 oN 115 .add 113 114,oO 116 .add 115 1,oP 117 (.slice 1 (.t 111) (some (.t 112)) (some (.t 116)) none),mV 118 10,mV 119 14,oA3 120 270 117 118 119]) (nC 120 (nS (nF [mV 121 14,oP 122 (.bin .num .sub (.t 121) (.c (.int .u64 1))),mV 14 122]) (nS (nF [oP 15 (.mv (.c (.int .u32 0)))]) (nS (nS (nF [mV 123 10,oT 124 123,oP 125 (nV 0)]) (.block 4 (.loop qcm))) (nF [mV 148 9,mV 149 13,mV 150 11,oN 151 .add 149 150,oV 152 1 148 151,oJ 153 152,mV 154 15,oN 155 .add 153 154,oV 156 1 148 151,oK 1 156 155 false])))) .skip)) (nF [mV 157 12,
 mV 158 13,mV 159 14,oP 160 (.conv .u32 (.t 159)),oV 161 1 157 158,oK 1 161 160 false])))) (nF [mV 78 13,oO 79 .sub 78 1,mV 13 79])))
@[simp] def qf8 : AFn:=nG [(.tmp 4),(.tmp 5)] (nS (nF [oP 4 (.mv (.c .nil)),oP 5 (.mv (.c .nil))]) (nS (nF [mV 18 0,oA1 19 111 18,mV 20 1,oA1 21 111 20,mV 0 19,mV 1 21]) (nS (nS (nF [mV 22 0,mV 23 1,oA2 24 99 22 23,oO 25 .lss 24 0]) (nC 25 (nR [mV 26 0,oA1 27 221 26,oP 4 (.mv (.c .nil)),mV 5 27]) .skip)) (nS (nS (nF [mV 28 1,oT 29 28,oO 30 .eql 29 1]) (nC 30 (nS (nF [mV 32 0,mV 33 1,oP 34 (.iaddr 1 (.t 33) (.c (.int .i64 0))),oJ 35 34,oA2 36 267 32 35,mV 31 36,oR 37 0 31,oR 38 1 31,mV 6 37,
 mV 7 38]) (nR [mV 39 6,mV 40 7,oP 41 (.bslice 1 1 (.int .u32 0) [(0,(.t 40))]),mV 4 39,mV 5 41])) .skip)) (nS (nF [mV 42 1,mV 43 1,oT 44 43,oO 45 .sub 44 1,oV 46 1 42 45,oJ 47 46,oA1 48 268 47,mV 8 48]) (nS (nF [mV 49 0,mV 50 8,oA2 51 116 49 50,mV 52 1,mV 53 8,oA2 54 116 52 53,oA1 55 111 54,mV 9 51,mV 10 55]) (nS (.block 0 (.loop qhi)) (nS (nF [mV 64 10,oT 65 64,mV 11 65]) (nS (nF [mV 66 9,oT 67 66,mV 68 11,oN 69 .sub 67 68,oP 70 (.mkslice 1 4 (.int .u32 0) (.t 69) (.t 69)),mV 12 70]) (nS (nS (nF [mV 71 9,
 oT 72 71,mV 73 11,oN 74 .sub 72 73,oO 75 .sub 74 1,mV 13 75]) (.block 2 (.loop qcl))) (nR [mV 162 12,mV 163 9,mV 164 11,oP 165 (.slice 1 (.t 163) none (some (.t 164)) none),mV 166 8,oA2 167 262 165 166,mV 4 162,mV 5 167])))))))))))
@[simp] def qbt : AFn:=nG [(.tmp 2)] (nS (nF [oP 2 (nV 0)]) (nS (nS (nF [mV 3 0,oP 4 (.bin .num .eql (.t 3) (.c (.int .u32 0)))]) (nC 4 (nR [oP 2 (nV 32)]) .skip)) (nR [mV 5 0,mV 6 0,oP 7 (.un .neg (.t 6)),oN 8 .and 5 7,oP 9 (.bin .num .mul (.t 8) (.c (.int .u32 125613361))),oP 10 (.bin .num .shr (.t 9) (.c (.int .u64 27))),oP 11 (.aiaddr 32 1 (.c (.eptr [(.int .u8 0),(.int .u8 1),(.int .u8 28),(.int .u8 2),(.int .u8 29),(.int .u8 14),(.int .u8 24),(.int .u8 3),(.int .u8 30),(.int .u8 22),(.int .u8 20),(.int .u8 15),(.int .u8 25),(.int .u8 17),(.int .u8 4),(.int .u8 8),(.int .u8 31),(.int .u8 27),(.int .u8 13),(.int .u8 23),(.int .u8 21),(.int .u8 19),(.int .u8 16),(.int .u8 7),(.int .u8 26),(.int .u8 12),(.int .u8 18),(.int .u8 6),(.int .u8 11),(.int .u8 5),(.int .u8 10),(.int .u8 9)])) (.t 10)),
 oJ 12 11,oP 13 (.conv .i64 (.t 12)),mV 2 13])))
def qd3 : AC:=(nS (nF [oN 26 .lss 25 24]) (nS (nC 26 .skip (.exit 0)) (nS (.block 1 (nS (nF [mV 27 25,oV 28 1 23 25,oJ 29 28,mV 6 27,mV 7 29]) (nS (nF [mV 30 7,oP 31 (.conv .u64 (.t 30)),mV 8 31]) (nS (nS (nF [mV 32 6,oO 33 .add 32 1,mV 34 0,oT 35 34,oN 36 .lss 33 35]) (nC 36 (nF [mV 37 8,mV 38 0,mV 39 6,oO 40 .add 39 1,oV 41 1 38 40,oJ 42 41,oP 43 (.conv .u64 (.t 42)),oP 44 (.bin .num .shl (.t 43) (.c (.int .u64 32))),oN 45 .or 37 44,mV 8 45]) .skip)) (nF [mV 46 5,mV 47 6,mV 48 8,mV 49 1,oO 50 .rem 49 32,
 oN 51 .shr 48 50,oP 52 (.conv .u32 (.t 51)),oV 53 1 46 47,oK 1 53 52 false]))))) (nF [oO 54 .add 25 1,mV 25 54]))))
@[simp] def qj6 : AFn:=nG [(.tmp 4)] (nS (nF [oP 4 (.mv (.c .nil))]) (nS (nF [mV 9 0,oA1 10 111 9,mV 0 10]) (nS (nS (nF [mV 11 1,oO 12 .quo 11 32,mV 13 0,oT 14 13,oN 15 .geq 12 14]) (nC 15 (nR [oP 4 (.mv (.c .nil))]) .skip)) (nS (nF [mV 16 0,mV 17 1,oO 18 .quo 17 32,oP 19 (.slice 1 (.t 16) (some (.t 18)) none none),mV 0 19]) (nS (nF [mV 20 0,oT 21 20,oP 22 (.mkslice 1 4 (.int .u32 0) (.t 21) (.t 21)),mV 5 22]) (nS (nS (nF [mV 23 0,oT 24 23,oP 25 (nV 0)]) (.block 0 (.loop qd3))) (nR [mV 55 5,
 mV 4 55])))))))
def qct : AC:=(nS (nF [oN 24 .lss 23 22]) (nS (nC 24 .skip (.exit 0)) (nS (.block 1 (nS (nF [mV 25 23,oV 26 1 21 23,oJ 27 26,mV 7 25,mV 8 27]) (nS (nF [oP 9 (.mv (.c (.int .u32 0)))]) (nS (nS (nF [mV 28 7,mV 29 1,oT 30 29,oN 31 .lss 28 30]) (nC 31 (nF [mV 32 1,mV 33 7,oV 34 1 32 33,oJ 35 34,mV 9 35]) .skip)) (nF [mV 37 5,mV 38 7,mV 39 8,mV 40 9,mV 41 6,oA3 42 271 39 40 41,mV 36 42,oR 43 0 36,oR 44 1 36,oV 45 1 37 38,oK 1 45 43 false,mV 6 44]))))) (nF [oO 46 .add 23 1,mV 23 46]))))
@[simp] def qj8 : AFn:=nG [(.tmp 4)] (nS (nF [oP 4 (.mv (.c .nil))]) (nS (nS (nF [mV 10 0,oT 11 10,mV 12 1,oT 13 12,oN 14 .lss 11 13]) (nC 14 (nF [mV 15 1,mV 16 0,mV 0 15,mV 1 16]) .skip)) (nS (nF [mV 17 0,oT 18 17,oO 19 .add 18 1,oP 20 (.mkslice 1 4 (.int .u32 0) (.t 19) (.t 19)),mV 5 20]) (nS (nF [oP 6 (.mv (.c (.int .u32 0)))]) (nS (nS (nF [mV 21 0,oT 22 21,oP 23 (nV 0)]) (.block 0 (.loop qct))) (nS (nF [mV 47 5,mV 48 0,oT 49 48,mV 50 6,oV 51 1 47 49,oK 1 51 50 false]) (nR [mV 52 5,
 mV 4 52])))))))
@[simp] def qkl : AFn:=nG [(.cell 6 true 3),(.tmp 7)] (nS (nF [oM 6,oP 7 (nV 0)]) (nS (nS (nF [mV 8 1,oT 9 8,oO 10 .gtr 9 256,mV 11 10,oE 12 11 2,oC1 13 11 223 12,gF 14 11 (nU 13),oX 15 11 14]) (nC 15 (nR [oP 16 (.build nD []),oK 3 6 16 false,oP 7 (nV 1)]) .skip)) (nR [mV 17 0,mV 18 1,mV 19 2,oA3 20 225 17 18 19,oA1 21 224 20,oR 22 0 21,oR 23 1 21,oK 3 6 22 false,mV 7 23])))
def qd2 : AC:=(nS (nF [oN 20 .lss 19 18]) (nS (nC 20 .skip (.exit 0)) (nS (.block 1 (nS (nF [mV 21 19,oV 22 1 17 19,oJ 23 22,mV 7 21,mV 8 23]) (nS (nF [oP 9 (.mv (.c (.int .u32 0)))]) (nS (nS (nF [mV 24 7,mV 25 1,oT 26 25,oN 27 .lss 24 26]) (nC 27 (nF [mV 28 1,mV 29 7,oV 30 1 28 29,oJ 31 30,mV 9 31]) .skip)) (nF [mV 33 5,mV 34 7,mV 35 8,mV 36 9,mV 37 6,oA3 38 272 35 36 37,mV 32 38,oR 39 0 32,oR 40 1 32,oV 41 1 33 34,oK 1 41 39 false,mV 6 40]))))) (nF [oO 42 .add 19 1,mV 19 42]))))
@[simp] def qj5 : AFn:=nG [(.tmp 4)] (nS (nF [oP 4 (.mv (.c .nil))]) (nS (nF [mV 10 0,oA1 11 111 10,mV 12 1,oA1 13 111 12,mV 0 11,mV 1 13]) (nS (nF [mV 14 0,oT 15 14,oP 16 (.mkslice 1 4 (.int .u32 0) (.t 15) (.t 15)),mV 5 16]) (nS (nF [oP 6 (.mv (.c (.int .u32 0)))]) (nS (nS (nF [mV 17 0,oT 18 17,oP 19 (nV 0)]) (.block 0 (.loop qd2))) (nR [mV 43 5,mV 4 43]))))))
def qeu : AC:=(nS (nS (nF [mV 15 8,oO 16 .geq 15 0]) (nC 16 .skip (.exit 0))) (nS (.block 1 (nF [mV 20 6,mV 21 8,mV 22 7,mV 23 0,mV 24 8,oV 25 1 23 24,oJ 26 25,mV 27 1,oA3 28 273 22 26 27,mV 19 28,oR 29 0 19,oR 30 1 19,oV 31 1 20 21,oK 1 31 29 false,mV 7 30])) (nF [mV 17 8,oO 18 .sub 17 1,mV 8 18])))
@[simp] def qhg : AFn:=nG [(.tmp 4),(.tmp 5)] (nS (nF [oP 4 (.mv (.c .nil)),oP 5 (.mv (.c (.int .u32 0)))]) (nS (nF [mV 9 0,oT 10 9,oP 11 (.mkslice 1 4 (.int .u32 0) (.t 10) (.t 10)),mV 6 11]) (nS (nF [oP 7 (.mv (.c (.int .u32 0)))]) (nS (nS (nF [mV 12 0,oT 13 12,oO 14 .sub 13 1,mV 8 14]) (.block 0 (.loop qeu))) (nR [mV 32 6,mV 33 7,mV 4 32,mV 5 33])))))
@[simp] def qb0 : AFn:=nG [(.tmp 2)] (nS (nF [oP 2 (nV 0)]) (nR [mV 3 0,oA1 4 113 3,oP 5 (.bin .num .sub (.c (.int .i64 32)) (.t 4)),mV 2 5]))
@[simp] def qhh : AFn:=nG [(.tmp 10)] (nS (nF [oP 10 (.mv (.c (.int .u64 0)))]) (nS (nS (nF [mV 12 0,mV 13 3,oN 14 .geq 12 13]) (nC 14 (nR [mV 15 0,mV 16 3,oN 17 .sub 15 16,oP 18 (.conv .u64 (.t 17)),oP 19 (.bin .num .shl (.t 18) (.c (.int .u64 32))),mV 20 1,oP 21 (.conv .u64 (.t 20)),oN 22 .add 19 21,mV 23 3,oP 24 (.conv .u64 (.t 23)),oN 25 .add 22 24,mV 26 2,mV 27 3,mV 28 4,oP 29 (.call (.f 274) [(.c (.int .u64 4294967295)),(.t 25),(.t 26),(.t 27),(.t 28)]),mV 10 29]) .skip)) (nS (nF [mV 30 0,oP 31 (.conv .u64 (.t 30)),oP 32 (.bin .num .shl (.t 31) (.c (.int .u64 32))),
 mV 33 1,oP 34 (.conv .u64 (.t 33)),oN 35 .or 32 34,mV 11 35]) (nS (nT [mV 36 11,mV 37 3,oP 38 (.conv .u64 (.t 37)),oN 39 .quo 36 38,mV 40 11,mV 41 3,oP 42 (.conv .u64 (.t 41)),oN 43 .rem 40 42,mV 44 2,mV 45 3,mV 46 4,oB5 47 274 39 43 44 45 46,mV 10 47]) .ret))))
def qdk : AC:=(nS (nF [oN 17 .lss 16 15]) (nS (nC 17 .skip (.exit 0)) (nS (.block 1 (nS (nF [mV 18 16,oV 19 1 14 16,oJ 20 19,mV 9 18,mV 10 20]) (nS (nF [mV 21 2,mV 22 10,oP 23 (.conv .u64 (.t 22)),oN 24 .mul 21 23,mV 25 7,oN 26 .add 24 25,mV 11 26]) (nS (nF [mV 27 11,oP 28 (.bin .num .shr (.t 27) (.c (.int .u64 32))),mV 7 28]) (nS (nF [mV 29 0,mV 30 9,oV 31 1 29 30,oJ 32 31,oP 33 (.conv .u64 (.t 32)),mV 34 11,oP 35 (.bin .num .and (.t 34) (.c (.int .u64 4294967295))),oN 36 .sub 33 35,mV 37 8,oN 38 .sub 36 37,mV 12 38]) (nF [mV 39 0,
 mV 40 9,mV 41 12,oP 42 (.conv .u32 (.t 41)),mV 43 12,oP 44 (.bin .num .shr (.t 43) (.c (.int .u64 63))),oV 45 1 39 40,oK 1 45 42 false,mV 8 44])))))) (nF [oO 46 .add 16 1,mV 16 46]))))
@[simp] def qfq : AFn:=⟨[(.tmp 6)],(nS (nF [oZ 6 false]) (nS (nF [oP 7 (.mv (.c (.int .u64 0))),oP 8 (.mv (.c (.int .u64 0)))]) (nS (nS (nF [mV 14 1,oT 15 14,oP 16 (nV 0)]) (.block 0 (.loop qdk))) (nS (nF [mV 47 0,mV 48 1,oT 49 48,oV 50 1 47 49,oJ 51 50,oP 52 (.conv .u64 (.t 51)),mV 53 7,oN 54 .sub 52 53,mV 55 8,oN 56 .sub 54 55,mV 13 56]) (nS (nF [mV 57 0,mV 58 1,oT 59 58,mV 60 13,oP 61 (.conv .u32 (.t 60)),oV 62 1 57 59,oK 1 62 61 false]) (nR [mV 63 13,oP 64 (.bin .num .shr (.t 63) (.c (.int .u64 63))),
 oP 65 (.bin .num .eql (.t 64) (.c (.int .u64 1))),mV 6 65])))))),false,true⟩
@[simp] def qff : AFn:=nG [(.tmp 6),(.tmp 7)] (nS (nF [oP 6 (.mv (.c (.int .u32 0))),oP 7 (.mv (.c (.int .u32 0)))]) (nS (nF [mV 9 0,oP 10 (.conv .u64 (.t 9)),mV 11 1,oP 12 (.conv .u64 (.t 11)),oN 13 .add 10 12,mV 14 2,oP 15 (.conv .u64 (.t 14)),oN 16 .add 13 15,mV 8 16]) (nS (nF [mV 17 8,oP 18 (.conv .u32 (.t 17)),mV 6 18]) (nR [mV 19 8,oP 20 (.bin .num .shr (.t 19) (.c (.int .u64 32))),oP 21 (.conv .u32 (.t 20)),mV 7 21]))))
@[simp] def qfd : AFn:=nG [(.tmp 6),(.tmp 7)] (nS (nF [oP 6 (.mv (.c (.int .u32 0))),oP 7 (.mv (.c (.int .u32 0)))]) (nS (nF [mV 8 0,mV 9 1,oN 10 .sub 8 9,mV 11 2,oN 12 .sub 10 11,mV 6 12]) (nR [mV 13 0,oP 14 (.un .xor (.t 13)),mV 15 1,oN 16 .and 14 15,mV 17 0,mV 18 1,oN 19 .xor 17 18,oP 20 (.un .xor (.t 19)),mV 21 6,oN 22 .and 20 21,oN 23 .or 16 22,oP 24 (.bin .num .shr (.t 23) (.c (.int .u64 31))),mV 7 24])))
@[simp] def qfe : AFn:=nG [(.tmp 6),(.tmp 7)] (nS (nF [oP 6 (.mv (.c (.int .u32 0))),oP 7 (.mv (.c (.int .u32 0)))]) (nS (nS (nF [mV 9 2,oP 10 (.bin .num .neq (.t 9) (.c (.int .u32 0))),mV 11 10,oF 12 11 2,oF 13 11 0,gT 14 11 (nY .leq 12 13),oY 15 11 14]) (nC 15 .stop .skip)) (nS (nF [mV 17 0,oP 18 (.conv .u64 (.t 17)),oP 19 (.bin .num .shl (.t 18) (.c (.int .u64 32))),mV 20 1,oP 21 (.conv .u64 (.t 20)),oN 22 .or 19 21,mV 8 22]) (nS (nT [mV 23 8,mV 24 2,oP 25 (.conv .u64 (.t 24)),oN 26 .quo 23 25,oP 27 (.conv .u32 (.t 26)),
 mV 28 8,mV 29 2,oP 30 (.conv .u64 (.t 29)),oN 31 .rem 28 30,oP 32 (.conv .u32 (.t 31)),mV 6 27,mV 7 32]) .ret))))
def qc1 : AC:=(nS (nS (nF [mV 11 1,oP 12 (.bin .num .lss (.t 11) (.c (.int .u64 4294967296))),mV 13 12,oF 14 13 0,oF 15 13 4,gT 16 13 (.conv .u64 (.t 15)),gT 17 13 (nY .mul 14 16),oF 18 13 1,gT 19 13 (.bin .num .shl (.t 18) (.c (.int .u64 32))),oF 20 13 2,gT 21 13 (.conv .u64 (.t 20)),gT 22 13 (nY .or 19 21),gT 23 13 (nY .gtr 17 22),oY 24 13 23]) (nC 24 .skip (.exit 0))) (.block 1 (nS (nF [mV 25 0,oP 26 (.bin .num .sub (.t 25) (.c (.int .u64 1))),mV 0 26]) (nF [mV 27 1,mV 28 3,oP 29 (.conv .u64 (.t 28)),
 oN 30 .add 27 29,mV 1 30]))))
@[simp] def qhj : AFn:=nG [(.tmp 10)] (nS (nF [oP 10 (.mv (.c (.int .u64 0)))]) (nS (.block 0 (.loop qc1)) (nR [mV 31 0,mV 10 31])))
@[simp] def qgf : AFn:=nG [(.tmp 6)] (nS (nF [oU 3 7 0,oZ 6 false]) (nS (nF [oP 12 (.call (.f 74) [(.c (.int .i64 1))]),mV 13 1,oA2 14 182 12 13,mV 11 14,oR 15 0 11,oR 16 1 11,oM 7,oK 3 7 15 false,mV 8 16]) (nS (nF [oP 18 (.call (.f 74) [(.c (.int .i64 1))]),mV 19 2,oA2 20 182 18 19,mV 17 20,oR 21 0 17,oR 22 1 17,oM 9,oK 3 9 21 false,mV 10 22]) (nR [oI 23 7 3,oA1 24 70 23,mV 25 24,gT 26 25 (nA 6 3),oH 27 25 false 1 26,gT 28 25 (nU 27),oY 29 25 28,mV 30 29,gT 31 30 (nA 0 3),oH 32 30 true 3 31,oH 33 30 true 3 7,oD2 34 30 18 32 33,
 gT 35 30 (nX .geq 34 0),oY 36 30 35,mV 37 36,gT 38 37 (nA 3 3),oH 39 37 true 3 38,oH 40 37 true 3 9,oD2 41 37 18 39 40,gT 42 37 (nX .leq 41 0),oY 43 37 42,mV 6 43]))))
@[simp] def qge : AFn:=nG [(.tmp 6)] (nS (nF [oU 3 7 0,oZ 6 false]) (nS (nT [oI 7 7 3,oB1 8 70 7,mV 9 8,gT 10 9 (nA 6 3),oH 11 9 false 1 10,gT 12 9 (nU 11),oY 13 9 12,mV 14 13,gT 15 14 (nA 0 3),oH 16 14 true 3 15,oF 17 14 1,oD1 18 14 74 17,⟨some 19,.call (.f 18) [(.t 16),(.t 18)],some (14,true),true⟩,gT 20 14 (nX .geq 19 0),oY 21 14 20,mV 22 21,gT 23 22 (nA 3 3),oH 24 22 true 3 23,oF 25 22 2,oD1 26 22 74 25,⟨some 27,.call (.f 18) [(.t 24),(.t 26)],some (22,true),true⟩,gT 28 22 (nX .leq 27 0),
 oY 29 22 28,mV 6 29]) .ret))
@[simp] def qnj : AFn:=nG [(.cell 2 true 7)] (nS (nF [oL 2]) (nS (nS (nF [mV 3 0,oA1 4 480 3,oW 5 4]) (nC 5 (nR [oA0 6 107,oK 7 2 6 false]) .skip)) (nR [mV 7 0,oO 8 .add 7 64,oA1 9 482 8,mV 10 0,oO 11 .add 10 64,mV 12 0,oA3 13 481 9 11 12,oK 7 2 13 false])))
@[simp] def qgl : AFn:=nG [(.tmp 2)] (nS (nF [oZ 2 false]) (nR [mV 3 0,oO 4 .geq 3 8,mV 5 4,oF 6 5 0,gT 7 5 (nX .leq 6 512),oY 8 5 7,mV 2 8]))
@[simp] def qkm : AFn:=nG [(.cell 6 true 7)] (nS (nF [oU 3 2 0,oL 6]) (nS (nF [oP 14 (.bslice 1 1 (.int .u32 0) [(0,(.c (.int .u32 1)))]),oP 15 (.call (.f 493) [(.t 14),(.c (.int .i64 24))]),oP 16 (.build nB [(0,1,(.c (.bool false))),(1,1,(.t 15))]),oP 7 (.new 2 (.agg nB)),oK 2 7 16 false]) (nS (nT [oI 17 2 3,oI 18 2 7,oA1 19 495 18,oA2 20 494 17 19,oI 21 2 3,oI 22 2 7,oA2 23 494 21 22,oP 8 (.new 2 (.agg nB)),oP 9 (.new 2 (.agg nB)),oK 2 8 20 true,oK 2 9 23 true]) (nS (nF [oQ 25 0 8,
 oJ 26 25,oQ 27 1 8,oJ 28 27,mV 29 1,oP 30 (.un .neg (.t 29)),oA3 31 265 26 28 30,mV 24 31,oR 32 0 24,oR 33 1 24,oM 10,oK 3 10 32 false,mV 11 33]) (nS (nF [oQ 35 0 9,oJ 36 35,oQ 37 1 9,oJ 38 37,mV 39 1,oP 40 (.un .neg (.t 39)),oA3 41 265 36 38 40,mV 34 41,oR 42 0 34,oR 43 1 34,oM 12,oK 3 12 42 false,mV 13 43]) (nS (nS (nF [mV 44 11,oO 45 .neq 44 0,mV 46 45,oE 47 46 13,gF 48 46 (nX .neq 47 0),oX 49 46 48]) (nC 49 (nR [oA0 50 107,oK 7 6 50 false]) .skip)) (nS (nF [oI 52 3 10,mV 53 2,oA2 54 199 52 53,
 mV 51 54,oR 55 0 51,oR 56 1 51,oK 3 10 55 false,mV 11 56]) (nS (nF [oI 58 3 12,mV 59 2,oA2 60 200 58 59,mV 57 60,oR 61 0 57,oR 62 1 57,oK 3 12 61 false,mV 13 62]) (nS (nS (nF [mV 63 11,oO 64 .neq 63 0,mV 65 64,oE 66 65 13,gF 67 65 (nX .neq 66 0),oX 68 65 67]) (nC 68 (nR [oA0 69 107,oK 7 6 69 false]) .skip)) (nR [oI 70 3 10,oI 71 3 12,oP 72 (.build nI [(0,3,(.t 70)),(3,3,(.t 71))]),oK 7 6 72 false]))))))))))
@[simp] def qni : AFn:=nG [(.cell 2 true 2)] (nS (nF [oP 2 (.new 2 (.agg nB))]) (nS (nF [mV 5 0,oP 6 (.call (.f 496) [(.c (.int .i64 5)),(.t 5)]),mV 7 0,oP 8 (.call (.f 496) [(.c (.int .i64 239)),(.t 7)]),oP 3 (.new 2 (.agg nB)),oP 4 (.new 2 (.agg nB)),oK 2 3 6 false,oK 2 4 8 false]) (nS (nT [oQ 9 1 3,oJ 10 9,oP 11 (.call (.f 493) [(.t 10),(.c (.int .i64 4))]),oP 12 (.build nB [(0,1,(.c (.bool false))),(1,1,(.t 11))]),oQ 13 1 4,oJ 14 13,oS 15 (.call (.f 493) [(.t 14),(.c (.int .i64 2))]),
 oP 16 (.build nB [(0,1,(.c (.bool true))),(1,1,(.t 15))]),oB2 17 494 12 16,oK 2 2 17 true]) .ret)))
@[simp] def qkn : AFn:=nG [(.tmp 4)] (nS (nF [oP 4 (.mv (.c .nil))]) (nS (nF [mV 8 0,mV 9 1,oA2 10 112 8 9,mV 7 10,oR 11 0 7,oR 12 1 7,mV 5 11,mV 6 12]) (nR [mV 13 5,mV 4 13])))
@[simp] def qe7 : AFn:=nG [(.cell 4 true 2)] (nS (nF [oU 2 2 0,oU 3 2 1,oP 4 (.new 2 (.agg nB))]) (nS (nS (nF [oQ 9 0 2,oJ 10 9,oQ 11 0 3,oJ 12 11,oP 13 (.bin .bool .eql (.t 10) (.t 12))]) (nC 13 (nS (nF [oQ 15 1 2,oJ 16 15,oQ 17 1 3,oJ 18 17,oA2 19 257 16 18,mV 14 19,oR 20 0 14,oR 21 1 14,mV 5 20,mV 6 21]) (nR [oQ 22 0 2,oJ 23 22,mV 24 5,oP 25 (.build nB [(0,1,(.t 23)),(1,1,(.t 24))]),oK 2 4 25 false])) .skip)) (nS (nS (nF [oQ 26 1 2,oJ 27 26,oQ 28 1 3,oJ 29 28,oA2 30 99 27 29,
 oO 31 .lss 30 0]) (nC 31 (nF [oI 32 2 3,oI 33 2 2,oK 2 2 32 false,oK 2 3 33 false]) .skip)) (nS (nF [oQ 35 1 2,oJ 36 35,oQ 37 1 3,oJ 38 37,oA2 39 258 36 38,mV 34 39,oR 40 0 34,oR 41 1 34,mV 7 40,mV 8 41]) (nR [oQ 42 0 2,oJ 43 42,mV 44 7,oP 45 (.build nB [(0,1,(.t 43)),(1,1,(.t 44))]),oK 2 4 45 false])))))
@[simp] def qds : AFn:=nG [(.cell 2 true 2)] (nS (nF [oU 1 2 0,oP 2 (.new 2 (.agg nB))]) (nR [oQ 3 0 1,oJ 4 3,oW 5 4,oQ 6 1 1,oJ 7 6,oP 8 (.build nB [(0,1,(.t 5)),(1,1,(.t 7))]),oK 2 2 8 false]))
@[simp] def qgm : AFn:=nG [(.cell 4 true 2)] (nS (nF [oU 2 1 0,oP 4 (.new 2 (.agg nB))]) (nS (nF [oP 6 (.bslice 1 1 (.int .u32 0) [(0,(.c (.int .u32 1)))]),mV 7 1,oA2 8 493 6 7,oP 9 (.build nB [(0,1,(.c (.bool false))),(1,1,(.t 8))]),oP 5 (.new 2 (.agg nB)),oK 2 5 9 false]) (nR [oI 10 2 5,oJ 11 2,oA2 12 507 10 11,oP 13 (.mkfn 508 [(.t 2)]),oA2 14 506 12 13,oK 2 4 14 false])))
def qe3 : AC:=(nS (.block 1 (nS (nF [mV 11 1,oI 12 2 2,oP 13 (.call (.t 11) [(.t 12)]),oK 2 2 13 false]) (nS (nS (nF [oI 14 2 2,oA1 15 514 14]) (nC 15 (nR [oI 16 2 5,oK 2 4 16 false]) .skip)) (nS (nF [oI 17 2 2,mV 18 6,oP 19 (.bin .num .mul (.c (.int .i64 2)) (.t 18)),oO 20 .add 19 1,oA2 21 507 17 20,oP 7 (.new 2 (.agg nB)),oK 2 7 21 false]) (nS (nS (nF [mV 22 6,oO 23 .rem 22 2,oO 24 .eql 23 1]) (nC 24 (nF [oI 25 2 7,oA1 26 495 25,oK 2 7 26 false]) .skip)) (nF [oI 27 2 5,
 oI 28 2 7,oA2 29 494 27 28,oK 2 5 29 false])))))) (nF [mV 9 6,oO 10 .add 9 1,mV 6 10]))
@[simp] def qdr : AFn:=nG [(.cell 4 true 2)] (nS (nF [oU 2 2 0,oP 4 (.new 2 (.agg nB))]) (nS (nF [oI 8 2 2,oP 5 (.new 2 (.agg nB)),oK 2 5 8 false]) (nS (nF [oP 6 (nV 1)]) (.block 0 (.loop qe3)))))
@[simp] def qfm : AFn:=nG [(.cell 4 true 2)] (nS (nF [oU 2 2 0,oP 4 (.new 2 (.agg nB))]) (nS (nT [oQ 9 1 2,oJ 10 9,mV 11 1,oA1 12 511 11,oP 13 (.field false 1 1 (.t 12)),oB2 14 240 10 13,mV 8 14,oR 15 0 8,oR 16 1 8,oR 17 2 8,mV 5 15,mV 6 16,mV 7 17]) (nR [oQ 18 0 2,oJ 19 18,mV 20 5,oP 21 (.build nB [(0,1,(.t 19)),(1,1,(.t 20))]),oK 2 4 21 false])))
@[simp] def qe2 : AFn:=nG [(.cell 3 true 2)] (nS (nF [oU 2 2 0,oP 3 (.new 2 (.agg nB))]) (nR [oI 4 2 2,oJ 5 1,oJ 6 1,oN 7 .mul 5 6,oA2 8 507 4 7,oK 2 3 8 false]))
@[simp] def qi6 : AFn:=nG [(.cell 2 true 2)] (nS (nF [oP 2 (.new 2 (.agg nB))]) (nS (nF [mV 4 0,oA1 5 210 4,oM 3,oK 3 3 5 false]) (nS (nT [oQ 6 0 3,oJ 7 6,oQ 8 1 3,oJ 9 8,oQ 10 2 3,oJ 11 10,oA2 12 493 9 11,oP 13 (.build nB [(0,1,(.t 7)),(1,1,(.t 12))]),oK 2 2 13 true]) .ret)))
@[simp] def qeb : AFn:=nG [(.tmp 2)] (nS (nF [oU 1 2 0,oZ 2 false]) (nR [oQ 3 1 1,oJ 4 3,oA1 5 110 4,oO 6 .eql 5 0,mV 2 6]))
@[simp] def qca : AFn:=nG [(.tmp 4)] (nS (nF [oZ 4 false]) (nR [mV 5 0,mV 6 1,oA2 7 605 5 6,oO 8 .geq 7 0,mV 4 8]))
def qb9 : AC:=(nS (nF [oN 9 .lss 8 7]) (nS (nC 9 .skip (.exit 0)) (nS (.block 1 (nS (nF [mV 10 8,mV 5 10]) (nS (nF [mV 11 1,mV 12 0,mV 13 5,oV 14 1 12 13,oJ 15 14,oP 16 (.call (.t 11) [(.t 15)])]) (nC 16 (nR [mV 17 5,mV 4 17]) .skip)))) (nF [oO 18 .add 8 1,mV 8 18]))))
@[simp] def qcz : AFn:=nG [(.tmp 4)] (nS (nF [oP 4 (nV 0)]) (nS (nS (nF [mV 6 0,oT 7 6,oP 8 (nV 0)]) (.block 0 (.loop qb9))) (nR [oP 4 (nV (-1))])))
@[simp] def qhy : AFn:=nG [(.tmp 0)] (nS (nF [oZ 0 false]) (nS (nF [oP 2 (.call (.f 630) [(.c (.int .i64 1))]),oA1 3 629 2,oP 4 (.call (.f 630) [(.c (.int .i64 3))]),oA1 5 629 4,oP 6 (.call (.f 628) [(.t 3),(.t 5),(.c (.int .i64 8))]),oL 1,oK 7 1 6 false]) (nR [oI 7 7 1,oP 8 (.bslice 1 1 (.int .u32 0) [(0,(.c (.int .u32 85)))]),oP 9 (.build nD [(1,1,(.t 8)),(2,1,(.c (.int .i64 (-8))))]),oP 10 (.bslice 1 1 (.int .u32 0) [(0,(.c (.int .u32 171)))]),oP 11 (.build nD [(1,1,(.t 10)),(2,1,(.c (.int .i64 (-9))))]),
 oP 12 (.build nI [(0,3,(.t 9)),(3,3,(.t 11))]),oA2 13 623 7 12,mV 0 13])))
@[simp] def qhw : AFn:=nG [(.tmp 6)] (nS (nF [oU 3 7 0,oU 4 7 1,oZ 6 false]) (nR [oQ 7 0 3,oI 8 3 7,oA1 9 631 8,mV 10 9,gF 11 10 (nA 3 3),oG 12 10 true 3 11,oC1 13 10 631 12,oX 14 10 13,mV 15 14,gF 16 15 (nA 0 4),oG 17 15 true 3 16,oC1 18 15 631 17,oX 19 15 18,mV 20 19,gF 21 20 (nA 3 4),oG 22 20 true 3 21,oC1 23 20 631 22,oX 24 20 23,mV 25 24,oE 26 25 2,gF 27 25 (nX .gtr 26 128),oE 28 25 27,oF 29 28 2,gT 30 28 (nX .leq 29 512),gF 31 25 (.pick (.t 28) (.t 30) (.c (.bool false))),oX 32 25 31,
 mV 6 32]))
@[simp] def qhx : AFn:=nG [(.tmp 4)] (nS (nF [oU 2 7 0,oU 3 7 1,oZ 4 false]) (nR [oQ 5 6 2,oJ 6 5,mV 7 6,gT 8 7 (nA 6 3),oH 9 7 false 1 8,oY 10 7 9,mV 11 10,oG 12 11 true 7 2,oG 13 11 true 7 3,oC2 14 11 60 12 13,oX 15 11 14,mV 4 15]))
@[simp] def qth : AFn:=nG [(.cell 6 true 7)] (nS (nF [oU 3 7 0,oU 4 7 1,oU 5 1 2,oL 6]) (nR [oJ 7 5,oP 8 (.mkfn 641 [(.t 5)]),oI 9 7 3,oI 10 7 4,oP 11 (.bslice 7 2 (.agg nI) [(0,(.t 9)),(1,(.t 10))]),oA3 12 633 7 8 11,oK 7 6 12 false]))
@[simp] def qhv : AFn:=nG [(.cell 2 true 7)] (nS (nF [oU 1 3 0,oL 2]) (nR [oI 3 3 1,oI 4 3 1,oP 5 (.build nI [(0,3,(.t 3)),(3,3,(.t 4))]),oK 7 2 5 false]))
@[simp] def qnh : AFn:=nG [(.cell 2 true 3)] (nS (nF [oM 2]) (nR [mV 3 0,oA1 4 74 3,oK 3 2 4 false]))
@[simp] def qi3 : AFn:=nG [(.tmp 2)] (nS (nF [oU 1 3 0,oZ 2 false]) (nR [oQ 3 1 1,oJ 4 3,oT 5 4,oO 6 .gtr 5 20,mV 2 6]))
def qh1 : AC:=(nS (nF [oN 14 .lss 13 12]) (nS (nC 14 .skip (.exit 0)) (nS (.block 1 (nS (nF [oV 15 7 11 13,oI 16 7 15,oL 9,oK 7 9 16 false]) (nF [mV 17 7,oI 18 7 9,oA1 19 639 18,oP 20 (.bslice 7 1 (.agg nI) [(0,(.t 19))]),oP 21 (.append 7 88 (.t 17) (.t 20)),mV 7 21]))) (nF [oO 22 .add 13 1,mV 13 22]))))
@[simp] def qly : AFn:=nG [(.cell 6 true 7)] (nS (nF [oL 6]) (nS (nF [oP 7 (.mv (.c .nil))]) (nS (nS (nF [mV 11 2,oT 12 11,oP 13 (nV 0)]) (.block 0 (.loop qh1))) (nS (nS (nF [mV 23 0,oA1 24 642 23,oW 25 24,mV 26 25,oE 27 26 7,gF 28 26 (.call (.f 643) [(.t 27),(.f 644)]),oX 29 26 28]) (nC 29 (nR [oP 30 (.build nI [(6,1,(.c (.bool true)))]),oK 7 6 30 false]) .skip)) (nS (nF [mV 31 1,mV 32 7,oP 33 (.call (.t 31) [(.t 32)]),
 oL 10,oK 7 10 33 false]) (nS (nS (nF [oQ 34 6 10,oJ 35 34]) (nC 35 (nR [oP 36 (.build nI [(6,1,(.c (.bool true)))]),oK 7 6 36 false]) .skip)) (nS (nT [oQ 37 0 10,oI 38 3 37,oA1 39 645 38,oQ 40 3 10,oI 41 3 40,oB1 42 645 41,oP 43 (.build nI [(0,3,(.t 39)),(3,3,(.t 42))]),oK 7 6 43 true]) .ret)))))))
def qdn : AC:=(nS (nF [oN 37 .lss 36 35]) (nS (nC 37 .skip (.exit 0)) (nS (.block 1 (nS (nF [mV 38 36,oV 39 6 34 36,oI 40 6 39,oP 9 (.new 6 (.agg [(.bool false),.nil,(.int .i64 0),(.bool false),.nil,(.int .i64 0)])),mV 8 38,oK 6 9 40 false]) (nS (nF [oP 42 (.aiaddr 2 3 (.t 9) (.c (.int .i64 0))),oI 43 3 42,oP 44 (.aiaddr 2 3 (.t 9) (.c (.int .i64 1))),oI 45 3 44,mV 46 2,oA3 47 648 43 45 46,mV 41 47,oR 48 0 41,oR 49 1 41,oM 10,oK 3 10 48 false,mV 11 49]) (nS (nF [oI 50 3 10,mV 51 11,oI 52 3 10,mV 53 11,mV 54 2,oA5 55 649 50 51 52 53 54,
 oL 12,oK 7 12 55 false]) (nS (nS (nF [oQ 56 6 12,oJ 57 56]) (nC 57 (.seq .stop .ret) .skip)) (nS (nS (nF [mV 59 8,oO 60 .eql 59 0,mV 61 60,gF 62 61 (nA 0 12),oG 63 61 true 3 62,gF 64 61 (nA 0 7),oG 65 61 true 3 64,oC2 66 61 640 63 65,gF 67 61 (nX .lss 66 0),oX 68 61 67]) (nC 68 (nF [oQ 69 0 12,oI 70 3 69,oQ 71 0 7,oK 3 71 70 false]) .skip)) (nS (nF [mV 72 8,oO 73 .eql 72 0,mV 74 73,gF 75 74 (nA 3 12),oG 76 74 true 3 75,gF 77 74 (nA 3 7),oG 78 74 true 3 77,oC2 79 74 640 76 78,
 gF 80 74 (nX .gtr 79 0),oX 81 74 80]) (nC 81 (nF [oQ 82 3 12,oI 83 3 82,oQ 84 3 7,oK 3 84 83 false]) .skip)))))))) (nF [oO 85 .add 36 1,mV 36 85]))))
@[simp] def qif : List AOper:=
 [oI 86 7 7,oK 7 6 86 false]
@[simp] def qi9 : AFn:=nG [(.cell 6 true 7)] (nS (nF [oU 3 7 0,oU 4 7 1,oL 6]) (nS (nS (nF [oQ 13 6 3,oJ 14 13,mV 15 14,gF 16 15 (nA 6 4),oG 17 15 false 1 16,oX 18 15 17,mV 19 18,gF 20 19 (nA 0 4),oG 21 19 true 3 20,oC1 22 19 646 21,gF 23 19 (nX .leq 22 0),oE 24 19 23,gT 25 24 (nA 3 4),oH 26 24 true 3 25,oD1 27 24 646 26,gT 28 24 (nX .geq 27 0),gF 29 19 (.pick (.t 24) (.t 28) (.c (.bool false))),oX 30 19 29]) (nC 30 (.seq .stop .ret) .skip)) (nS (nF [oL 7]) (nS (nS (nF [oI 32 7 3,
 oI 33 7 4,oA2 34 647 32 33,oT 35 34,oP 36 (nV 0)]) (.block 0 (.loop qdn))) (nS (.region false qif) .ret)))))
@[simp] def qnr : AFn:=nG [(.cell 2 true 7)] (nS (nF [oU 1 3 0,oL 2]) (nR [oI 3 3 1,oI 4 3 1,oP 5 (.build nI [(0,3,(.t 3)),(3,3,(.t 4))]),oK 7 2 5 false]))
def qi8 : AC:=(nS (nS (nF [mV 11 0,oO 12 .gtr 11 0]) (nC 12 .skip (.exit 0))) (nS (.block 1 (nF [oQ 15 1 3,oJ 16 15,mV 17 0,oO 18 .rem 17 32768,oP 19 (.bslice 1 1 (.int .i64 0) [(0,(.t 18))]),oP 20 (.append 1 8 (.t 16) (.t 19)),oQ 21 1 3,oK 1 21 20 false])) (nF [mV 13 0,oO 14 .quo 13 32768,mV 0 14])))
@[simp] def qnl : AFn:=nG [(.cell 2 true 3)] (nS (nF [oM 2]) (nS (nF [mV 4 0,oO 5 .lss 4 0,oP 6 (.build nD [(0,1,(.t 5))]),oM 3,oK 3 3 6 false]) (nS (nS (nF [mV 7 0,mV 8 0,oP 9 (.un .neg (.t 8)),oP 10 (.max (.t 7) (.t 9)),mV 0 10]) (.block 0 (.loop qi8))) (nR [oI 22 3 3,oK 3 2 22 false]))))
@[simp] def qnn : AFn:=nG [(.tmp 2)] (nS (nF [oU 1 7 0,oZ 2 false]) (nS (nS (nF [oQ 3 6 1,oJ 4 3]) (nC 4 (nR [oQ 5 0 1,oQ 6 1 5,oJ 7 6,oT 8 7,oQ 9 3 1,oQ 10 1 9,oJ 11 10,oT 12 11,oN 13 .add 8 12,oO 14 .eql 13 0,mV 15 14,gT 16 15 (nA 0 1),gT 17 15 (nA 0 16),oH 18 15 false 1 17,gT 19 15 (nU 18),oY 20 15 19,mV 21 20,gT 22 21 (nA 3 1),gT 23 21 (nA 0 22),oH 24 21 false 1 23,gT 25 21 (nU 24),oY 26 21 25,mV 27 26,gT 28 27 (nA 0 1),gT 29 27 (nA 2 28),oH 30 27 false 1 29,gT 31 27 (nX .eql 30 0),
 oY 32 27 31,mV 33 32,gT 34 33 (nA 3 1),gT 35 33 (nA 2 34),oH 36 33 false 1 35,gT 37 33 (nX .eql 36 0),oY 38 33 37,mV 2 38]) .skip)) (nS (nT [oQ 39 0 1,oI 40 3 39,oB1 41 650 40,mV 42 41,gT 43 42 (nA 3 1),oH 44 42 true 3 43,⟨some 45,.call (.f 650) [(.t 44)],some (42,true),true⟩,oY 46 42 45,mV 47 46,gT 48 47 (nA 0 1),oH 49 47 true 3 48,oD1 50 47 651 49,gT 51 47 (nA 3 1),oH 52 47 true 3 51,⟨some 53,.call (.f 651) [(.t 52)],some (47,true),true⟩,⟨some 54,.call (.f 640) [(.t 50),(.t 53)],some (47,true),true⟩,
 gT 55 47 (nX .leq 54 0),oY 56 47 55,mV 2 56]) .ret)))
@[simp] def qp5 : AFn:=nG [(.cell 2 true 7)] (nS (nF [oU 1 7 0,oL 2]) (nS (nS (nF [oI 3 7 1,oA1 4 638 3,oW 5 4,mV 6 5,gF 7 6 (nA 6 1),oG 8 6 false 1 7,oX 9 6 8]) (nC 9 (.seq .stop .ret) .skip)) (nS (nT [oQ 11 0 1,oI 12 3 11,oA1 13 651 12,oQ 14 3 1,oI 15 3 14,oB1 16 651 15,oP 17 (.build nI [(0,3,(.t 13)),(3,3,(.t 16))]),oK 7 2 17 true]) .ret)))
@[simp] def qns : AFn:=nG [(.tmp 4)] (nS (nF [oU 2 3 0,oU 3 3 1,oP 4 (nV 0)]) (nS (nT [oI 5 3 2,oI 6 3 3,oA1 7 653 6,oB2 8 652 5 7,oB1 9 646 8,mV 4 9]) .ret))
@[simp] def qnw : AFn:=nG [(.cell 3 true 7)] (nS (nF [oL 3]) (nS (nT [mV 4 0,oP 5 (.iaddr 7 (.t 4) (.c (.int .i64 0))),oI 6 7 5,mV 7 0,oP 8 (.iaddr 7 (.t 7) (.c (.int .i64 1))),oI 9 7 8,oJ 10 1,oB3 11 635 6 9 10,oK 7 3 11 true]) .ret))
@[simp] def qkt : AFn:=nG [(.tmp 2)] (nS (nF [oZ 2 false]) (nR [mV 3 0,oO 4 .geq 3 8,mV 5 4,oF 6 5 0,gT 7 5 (nX .leq 6 512),oY 8 5 7,mV 2 8]))
@[simp] def qbz : AFn:=nG [(.tmp 4)] (nS (nF [oZ 4 false]) (nR [mV 5 0,mV 6 1,oA2 7 654 5 6,oO 8 .geq 7 0,mV 4 8]))
@[simp] def qjc : AFn:=nG [(.tmp 2)] (nS (nF [oU 1 7 0,oZ 2 false]) (nR [oQ 3 6 1,oJ 4 3,mV 2 4]))
def qi7 : AC:=(nS (nS (nF [mV 17 3,mV 18 4,oO 19 .quo 18 15,oV 20 1 17 19,oJ 21 20,mV 22 4,oO 23 .rem 22 15,oN 24 .shr 21 23,oO 25 .and 24 1,oO 26 .eql 25 0]) (nC 26 .skip (.exit 0))) (.block 1 (nF [mV 27 4,oO 28 .add 27 1,mV 4 28])))
def qdy : AC:=(nS (nF [oN 45 .lss 44 43]) (nS (nC 45 .skip (.exit 2)) (nS (.block 3 (nS (nF [oV 46 1 42 44,oJ 47 46,mV 9 47]) (nS (nF [mV 48 6,mV 49 9,mV 50 7,oN 51 .shl 49 50,oN 52 .add 48 51,mV 6 52]) (nS (nF [mV 53 7,oO 54 .add 53 15,mV 7 54]) (nS (nF [mV 55 7,oO 56 .geq 55 32]) (nC 56 (nS (nF [oQ 57 1 5,oJ 58 57,mV 59 6,oP 60 (.conv .u32 (.t 59)),oP 61 (.bslice 1 1 (.int .u32 0) [(0,(.t 60))]),oP 62 (.append 1 4 (.t 58) (.t 61)),oQ 63 1 5,oK 1 63 62 false]) (nS (nF [mV 64 6,oP 65 (.bin .num .shr (.t 64) (.c (.int .u64 32))),
 mV 6 65]) (nF [mV 66 7,oO 67 .sub 66 32,mV 7 67]))) .skip)))))) (nF [oO 68 .add 44 1,mV 44 68]))))
@[simp] def qnk : AFn:=nG [(.cell 2 true 3)] (nS (nF [oU 1 3 0,oM 2]) (nS (nF [oQ 10 1 1,oJ 11 10,oA1 12 655 11,mV 3 12]) (nS (nS (nF [mV 13 3,oT 14 13,oO 15 .eql 14 0]) (nC 15 (nR [oP 16 (.build nD []),oK 3 2 16 false]) .skip)) (nS (nF [oP 4 (nV 0)]) (nS (.block 0 (.loop qi7)) (nS (nF [mV 30 3,mV 31 4,oA2 32 656 30 31,mV 29 32,oR 33 0 29,oR 34 1 29,mV 3 33]) (nS (nF [oQ 35 0 1,oJ 36 35,oQ 37 2 1,oJ 38 37,mV 39 4,oN 40 .add 38 39,oP 41 (.build nD [(0,1,(.t 36)),(2,1,(.t 40))]),
 oM 5,oK 3 5 41 false]) (nS (nF [oP 6 (nV 0),oP 7 (nV 0)]) (nS (nS (nF [mV 42 3,oT 43 42,oP 44 (nV 0)]) (.block 2 (.loop qdy))) (nS (nS (nF [mV 69 6,oO 70 .gtr 69 0]) (nC 70 (nF [oQ 71 1 5,oJ 72 71,mV 73 6,oP 74 (.conv .u32 (.t 73)),oP 75 (.bslice 1 1 (.int .u32 0) [(0,(.t 74))]),oP 76 (.append 1 4 (.t 72) (.t 75)),oQ 77 1 5,oK 1 77 76 false]) .skip)) (nR [oI 78 3 5,oK 3 2 78 false])))))))))))
@[simp] def qp1 : AFn:=nG [(.tmp 2)] (nS (nF [oU 1 3 0,oP 2 (nV 0)]) (nS (.block 0 (nS (nF [oQ 4 1 1,oJ 5 4,oT 6 5,oO 7 .eql 6 0,mV 3 7]) (nC 3 (nR [oP 2 (nV 0)]) (nS (nF [oQ 9 0 1,oJ 10 9,mV 8 10]) (nC 8 (nR [oP 2 (nV (-1))]) .skip))))) (nR [oP 2 (nV 1)])))
@[simp] def qkv : AFn:=nG [(.tmp 4)] (nS (nF [oU 2 7 0,oU 3 7 1,oP 4 (.mv (.c .nil))]) (nR [oQ 5 0 2,oI 6 3 5,oQ 7 0 3,oI 8 3 7,oP 9 (.build [(.bool false),.nil,(.int .i64 0),(.bool false),.nil,(.int .i64 0)] [(0,3,(.t 6)),(3,3,(.t 8))]),oQ 10 0 2,oI 11 3 10,oQ 12 3 3,oI 13 3 12,oP 14 (.build [(.bool false),.nil,(.int .i64 0),(.bool false),.nil,(.int .i64 0)] [(0,3,(.t 11)),(3,3,(.t 13))]),oQ 15 3 2,oI 16 3 15,oQ 17 0 3,oI 18 3 17,oP 19 (.build [(.bool false),.nil,(.int .i64 0),(.bool false),.nil,(.int .i64 0)] [(0,3,(.t 16)),(3,3,(.t 18))]),oQ 20 3 2,oI 21 3 20,oQ 22 3 3,
 oI 23 3 22,oP 24 (.build [(.bool false),.nil,(.int .i64 0),(.bool false),.nil,(.int .i64 0)] [(0,3,(.t 21)),(3,3,(.t 23))]),oP 25 (.bslice 6 4 (.agg [(.bool false),.nil,(.int .i64 0),(.bool false),.nil,(.int .i64 0)]) [(0,(.t 9)),(1,(.t 14)),(2,(.t 19)),(3,(.t 24))]),mV 4 25]))
@[simp] def qjb : AFn:=nG [(.cell 6 true 3),(.tmp 7)] (nS (nF [oU 3 3 0,oU 4 3 1,oM 6,oZ 7 false]) (nS (nT [mV 11 2,oO 12 .add 11 3,oQ 13 1 4,oJ 14 13,oA1 15 657 14,oN 16 .add 12 15,oQ 17 1 3,oJ 18 17,oB1 19 657 18,oN 20 .sub 16 19,oP 21 (.max (.c (.int .i64 0)) (.t 20)),mV 8 21]) (nS (nT [oQ 23 1 3,oJ 24 23,mV 25 8,oA2 26 659 24 25,oQ 27 1 4,oJ 28 27,oB2 29 658 26 28,mV 22 29,oR 30 0 22,oR 31 1 22,mV 9 30,mV 10 31]) (nR [oQ 32 0 3,oJ 33 32,oQ 34 0 4,oJ 35 34,oP 36 (.bin .bool .neq (.t 33) (.t 35)),mV 37 9,oQ 38 2 3,oJ 39 38,oQ 40 2 4,oJ 41 40,
 oN 42 .sub 39 41,mV 43 8,oN 44 .sub 42 43,oP 45 (.build nD [(0,1,(.t 36)),(1,1,(.t 37)),(2,1,(.t 44))]),mV 46 10,oK 3 6 45 false,mV 7 46]))))
@[simp] def qkp : AFn:=nG [(.cell 10 true 7)] (nS (nF [oU 5 3 0,oU 7 3 2,oL 10]) (nS (nF [oI 16 3 5,mV 17 1,mV 18 4,oP 19 (.call (.f 660) [(.t 16),(.t 17),(.t 18),(.c (.bool false))]),mV 15 19,oR 20 0 15,oR 21 1 15,oM 11,oK 3 11 20 false,mV 12 21]) (nS (nF [oI 23 3 7,mV 24 3,mV 25 4,oP 26 (.call (.f 660) [(.t 23),(.t 24),(.t 25),(.c (.bool true))]),mV 22 26,oR 27 0 22,oR 28 1 22,oM 13,oK 3 13 27 false,mV 14 28]) (nS (nS (nF [mV 29 12,oW 30 29,mV 31 30,oE 32 31 14,gF 33 31 (nU 32),oX 34 31 33]) (nC 34 (.seq .stop .ret) .skip)) (nR [oI 36 3 11,
 oI 37 3 13,oP 38 (.build nI [(0,3,(.t 36)),(3,3,(.t 37))]),oK 7 10 38 false])))))
@[simp] def qlv : AFn:=nG [(.tmp 2)] (nS (nF [oU 1 3 0,oZ 2 false]) (nS (nF [oQ 5 1 1,oJ 6 5,oT 7 6,mV 3 7]) (nS (nS (nF [mV 8 3,oO 9 .eql 8 0]) (nC 9 (nR [oQ 10 0 1,oJ 11 10,oW 12 11,mV 13 12,gT 14 13 (nA 2 1),oH 15 13 false 1 14,gT 16 13 (nX .eql 15 0),oY 17 13 16,mV 2 17]) .skip)) (nS (nS (nF [mV 18 3,oO 19 .gtr 18 256,mV 20 19,gF 21 20 (nA 1 1),oG 22 20 false 1 21,oE 23 20 3,gF 24 20 (nX .sub 23 1),gF 25 20 (.iaddr 1 (.t 22) (.t 24)),
 oG 26 20 false 1 25,gF 27 20 (.bin .num .eql (.t 26) (.c (.int .u32 0))),oX 28 20 27,mV 29 28,gF 30 29 (nA 1 1),oG 31 29 false 1 30,gF 32 29 (.iaddr 1 (.t 31) (.c (.int .i64 0))),oG 33 29 false 1 32,gF 34 29 (.bin .num .and (.t 33) (.c (.int .u32 1))),gF 35 29 (.bin .num .eql (.t 34) (.c (.int .u32 0))),oX 36 29 35,mV 37 36,gF 38 37 (nA 2 1),oG 39 37 false 1 38,gF 40 37 (nX .lss 39 (-16384)),oX 41 37 40,mV 42 41,gF 43 42 (nA 2 1),oG 44 42 false 1 43,gF 45 42 (nX .gtr 44 16384),oX 46 42 45]) (nC 46 (nR [oZ 2 false]) .skip)) (nS (nF [oI 47 3 1,
 oA1 48 651 47,oP 49 (.field false 1 1 (.t 48)),oA1 50 657 49,mV 4 50]) (nR [mV 51 4,oO 52 .leq 51 4096,mV 53 52,oF 54 53 4,gT 55 53 (nA 2 1),oH 56 53 false 1 55,gT 57 53 (nY .add 54 56),gT 58 53 (nX .leq 57 16384),oY 59 53 58,mV 2 59]))))))
def qkr : AC:=(nS (nS (nF [mV 28 5,oO 29 .geq 28 15]) (nC 29 .skip (.exit 2))) (.block 3 (nS (nF [oQ 30 1 3,oJ 31 30,mV 32 4,oO 33 .rem 32 32768,oP 34 (.bslice 1 1 (.int .i64 0) [(0,(.t 33))]),oP 35 (.append 1 8 (.t 31) (.t 34)),oQ 36 1 3,oK 1 36 35 false]) (nS (nF [mV 37 4,oO 38 .quo 37 32768,mV 4 38]) (nF [mV 39 5,oO 40 .sub 39 15,mV 5 40])))))
def qkq : AC:=(nS (nF [oN 17 .lss 16 15]) (nS (nC 17 .skip (.exit 0)) (nS (.block 1 (nS (nF [oV 18 1 14 16,oJ 19 18,mV 7 19]) (nS (nF [mV 20 4,mV 21 7,oP 22 (.conv .i64 (.t 21)),mV 23 5,oN 24 .shl 22 23,oN 25 .add 20 24,mV 4 25]) (nS (nF [mV 26 5,oO 27 .add 26 32,mV 5 27]) (.block 2 (.loop qkr)))))) (nF [oO 41 .add 16 1,mV 16 41]))))
@[simp] def qp2 : AFn:=nG [(.cell 2 true 3)] (nS (nF [oU 1 3 0,oM 2]) (nS (nF [oQ 8 0 1,oJ 9 8,oQ 10 2 1,oJ 11 10,oP 12 (.build nD [(0,1,(.t 9)),(2,1,(.t 11))]),oM 3,oK 3 3 12 false]) (nS (nF [oP 4 (nV 0),oP 5 (nV 0)]) (nS (nS (nF [oQ 13 1 1,oJ 14 13,oT 15 14,oP 16 (nV 0)]) (.block 0 (.loop qkq))) (nS (nF [oQ 42 1 3,oJ 43 42,mV 44 4,oP 45 (.bslice 1 1 (.int .i64 0) [(0,(.t 44))]),oP 46 (.append 1 8 (.t 43) (.t 45)),oA1 47 655 46,oQ 48 1 3,oK 1 48 47 false]) (nR [oI 49 3 3,
 oK 3 2 49 false]))))))
@[simp] def qtf : AFn:=nG [(.cell 4 true 3)] (nS (nF [oU 2 3 0,oU 3 3 1,oM 4]) (nS (nS (nF [oQ 8 1 2,oJ 9 8,oT 10 9,oO 11 .eql 10 0]) (nC 11 (nR [oI 12 3 3,oK 3 4 12 false]) .skip)) (nS (nS (nF [oQ 13 1 3,oJ 14 13,oT 15 14,oO 16 .eql 15 0]) (nC 16 (nR [oI 17 3 2,oK 3 4 17 false]) .skip)) (nS (nF [oQ 18 2 2,oJ 19 18,oQ 20 2 3,oJ 21 20,oP 22 (.min (.t 19) (.t 21)),mV 5 22]) (nS (nT [oQ 23 1 2,oJ 24 23,oQ 25 2 2,oJ 26 25,mV 27 5,oN 28 .sub 26 27,oA2 29 659 24 28,oQ 30 1 3,
 oJ 31 30,oQ 32 2 3,oJ 33 32,mV 34 5,oN 35 .sub 33 34,oB2 36 659 31 35,mV 6 29,mV 7 36]) (nS (.block 0 (nS (nF [oQ 38 0 2,oJ 39 38,oQ 40 0 3,oJ 41 40,oP 42 (.bin .bool .eql (.t 39) (.t 41)),mV 37 42]) (nC 37 (nS (nT [oQ 43 0 2,oJ 44 43,mV 45 6,mV 46 7,oA2 47 661 45 46,mV 48 5,oP 49 (.build nD [(0,1,(.t 44)),(1,1,(.t 47)),(2,1,(.t 48))]),oK 3 4 49 true]) .ret) (nS (nF [mV 51 6,mV 52 7,oA2 53 662 51 52,oO 54 .geq 53 0,mV 50 54]) (nC 50 (nS (nT [oQ 55 0 2,oJ 56 55,mV 57 6,mV 58 7,oA2 59 663 57 58,mV 60 5,
 oP 61 (.build nD [(0,1,(.t 56)),(1,1,(.t 59)),(2,1,(.t 60))]),oK 3 4 61 true]) .ret) .skip))))) (nS (nT [oQ 62 0 3,oJ 63 62,mV 64 7,mV 65 6,oA2 66 663 64 65,mV 67 5,oP 68 (.build nD [(0,1,(.t 63)),(1,1,(.t 66)),(2,1,(.t 67))]),oK 3 4 68 true]) .ret)))))))
@[simp] def qku : AFn:=nG [(.cell 2 true 3)] (nS (nF [oU 1 3 0,oM 2]) (nR [oQ 3 0 1,oJ 4 3,oW 5 4,oQ 6 1 1,oJ 7 6,oQ 8 2 1,oJ 9 8,oP 10 (.build nD [(0,1,(.t 5)),(1,1,(.t 7)),(2,1,(.t 9))]),oK 3 2 10 false]))
def qby : AC:=(nS (nF [oN 9 .lss 8 7]) (nS (nC 9 .skip (.exit 0)) (nS (.block 1 (nS (nF [mV 10 8,mV 5 10]) (nS (nF [mV 11 1,mV 12 0,mV 13 5,oV 14 7 12 13,oI 15 7 14,oP 16 (.call (.t 11) [(.t 15)])]) (nC 16 (nR [mV 17 5,mV 4 17]) .skip)))) (nF [oO 18 .add 8 1,mV 8 18]))))
@[simp] def qck : AFn:=nG [(.tmp 4)] (nS (nF [oP 4 (nV 0)]) (nS (nS (nF [mV 6 0,oT 7 6,oP 8 (nV 0)]) (.block 0 (.loop qby))) (nR [oP 4 (nV (-1))])))
def qb5 : AC:=(nS (nS (nF [mV 6 3,oO 7 .gtr 6 0,mV 8 7,oF 9 8 0,oF 10 8 3,gT 11 8 (nX .sub 10 1),gT 12 8 (.iaddr 1 (.t 9) (.t 11)),oH 13 8 false 1 12,gT 14 8 (nX .eql 13 0),oY 15 8 14]) (nC 15 .skip (.exit 0))) (.block 1 (nF [mV 16 3,oO 17 .sub 16 1,mV 3 17])))
@[simp] def qp0 : AFn:=⟨[(.tmp 2)],(nS (nF [oP 2 (.mv (.c .nil))]) (nS (nF [mV 4 0,oT 5 4,mV 3 5]) (nS (.block 0 (.loop qb5)) (nR [mV 18 0,mV 19 3,oP 20 (.slice 1 (.t 18) none (some (.t 19)) none),mV 2 20])))),true,true⟩
def qe4 : AC:=(nS (nS (nF [mV 37 9,mV 38 0,oT 39 38,oN 40 .lss 37 39]) (nC 40 .skip (.exit 0))) (nS (.block 1 (nS (nF [mV 43 0,mV 44 9,oV 45 1 43 44,oJ 46 45,mV 10 46]) (nS (nS (nF [mV 47 9,oO 48 .add 47 1,mV 49 0,oT 50 49,oN 51 .lss 48 50]) (nC 51 (nF [mV 52 10,mV 53 0,mV 54 9,oO 55 .add 54 1,oV 56 1 53 55,oJ 57 56,oP 58 (.bin .num .shl (.t 57) (.c (.int .u64 15))),oN 59 .add 52 58,mV 10 59]) .skip)) (nF [mV 60 8,mV 61 10,mV 62 1,oO 63 .rem 62 15,oN 64 .shr 61 63,oO 65 .rem 64 32768,oP 66 (.bslice 1 1 (.int .i64 0) [(0,(.t 65))]),
 oP 67 (.append 1 8 (.t 60) (.t 66)),mV 8 67])))) (nF [mV 41 9,oO 42 .add 41 1,mV 9 42])))
@[simp] def qmw : List AOper:=
 [mV 68 8,oA1 69 655 68,mV 70 7,mV 4 69,mV 5 70]
@[simp] def qp7 : AFn:=nG [(.tmp 4),(.tmp 5)] (nS (nF [oP 4 (.mv (.c .nil)),oZ 5 false]) (nS (nF [mV 11 1,oO 12 .quo 11 15,mV 6 12]) (nS (nS (nF [mV 13 6,mV 14 0,oT 15 14,oN 16 .geq 13 15]) (nC 16 (nR [mV 17 0,oT 18 17,oO 19 .gtr 18 0,oP 4 (.mv (.c .nil)),mV 5 19]) .skip)) (nS (nT [mV 20 0,mV 21 6,oP 22 (.slice 1 (.t 20) none (some (.t 21)) none),oS 23 (.call (.f 600) [(.t 22),(.f 664)]),mV 24 23,oE 25 24 0,oE 26 24 6,gF 27 24 (.iaddr 1 (.t 25) (.t 26)),oG 28 24 false 1 27,oE 29 24 1,gF 30 24 (nX .rem 29 15),
 gF 31 24 (.bin .num .shl (.c (.int .i64 1)) (.t 30)),gF 32 24 (nX .sub 31 1),gF 33 24 (nY .and 28 32),gF 34 24 (nX .neq 33 0),oX 35 24 34,mV 7 35]) (nS (nF [oP 8 (.mv (.c .nil))]) (nS (nS (nF [mV 36 6,mV 9 36]) (.block 0 (.loop qe4))) (nS (.region false qmw) .ret)))))))
def qh2 : AC:=(nS (nS (nF [mV 18 4,oO 19 .gtr 18 0]) (nC 19 .skip (.exit 0))) (nS (.block 1 (nF [mV 22 3,oO 23 .add 22 1,mV 3 23])) (nF [mV 20 4,oP 21 (.bin .num .shr (.t 20) (.c (.int .u64 1))),mV 4 21])))
@[simp] def qlz : AFn:=nG [(.tmp 2)] (nS (nF [oP 2 (nV 0)]) (nS (nS (nF [mV 5 0,oT 6 5,oO 7 .eql 6 0]) (nC 7 (nR [oP 2 (nV 0)]) .skip)) (nS (nF [mV 8 0,oT 9 8,oO 10 .sub 9 1,oP 11 (.bin .num .mul (.c (.int .i64 15)) (.t 10)),mV 3 11]) (nS (nS (nF [mV 12 0,mV 13 0,oT 14 13,oO 15 .sub 14 1,oV 16 1 12 15,oJ 17 16,mV 4 17]) (.block 0 (.loop qh2))) (nR [mV 24 3,mV 2 24])))))
def qh0 : AC:=(nS (nS (nF [mV 73 7,mV 74 11,mV 75 11,mV 76 9,oN 77 .add 75 76,oO 78 .add 77 1,oP 79 (.slice 1 (.t 73) (some (.t 74)) (some (.t 78)) none),mV 80 8,mV 81 12,oA3 82 665 79 80 81,oW 83 82]) (nC 83 .skip (.exit 2))) (.block 3 (nF [mV 84 12,oO 85 .sub 84 1,mV 12 85])))
def qe5 : AC:=(nS (nS (nF [mV 46 11,oO 47 .geq 46 0]) (nC 47 .skip (.exit 0))) (nS (.block 1 (nS (nT [mV 50 7,mV 51 11,mV 52 9,oN 53 .add 51 52,oV 54 1 50 53,oJ 55 54,oO 56 .mul 55 32768,mV 57 7,mV 58 11,mV 59 9,oN 60 .add 58 59,oO 61 .sub 60 1,oV 62 1 57 61,oJ 63 62,oN 64 .add 56 63,mV 65 8,mV 66 9,oO 67 .sub 66 1,oV 68 1 65 67,oJ 69 68,oN 70 .quo 64 69,mV 12 70]) (nS (nF [mV 71 12,oP 72 (.min (.t 71) (.c (.int .i64 32767))),mV 12 72]) (nS (.block 2 (.loop qh0)) (nF [mV 86 10,mV 87 11,mV 88 12,oV 89 1 86 87,oK 1 89 88 false]))))) (nF [mV 48 11,
 oO 49 .sub 48 1,mV 11 49])))
@[simp] def qlx : AFn:=nG [(.tmp 4),(.tmp 5)] (nS (nF [oP 4 (.mv (.c .nil)),oZ 5 false]) (nS (nS (nF [mV 13 0,mV 14 1,oA2 15 662 13 14,oO 16 .lss 15 0]) (nC 16 (nR [mV 17 0,oT 18 17,oO 19 .gtr 18 0,oP 4 (.mv (.c .nil)),mV 5 19]) .skip)) (nS (nF [mV 20 1,oT 21 20,oP 22 (.bin .num .mul (.c (.int .i64 15)) (.t 21)),mV 23 1,oA1 24 657 23,oN 25 .sub 22 24,mV 6 25]) (nS (nF [mV 26 0,mV 27 6,oA2 28 659 26 27,oP 29 (.bslice 1 2 (.int .i64 0) [(0,(.c (.int .i64 0))),(1,(.c (.int .i64 0)))]),oP 30 (.append 1 8 (.t 28) (.t 29)),
 mV 31 1,mV 32 6,oA2 33 659 31 32,mV 7 30,mV 8 33]) (nS (nF [mV 34 8,oT 35 34,mV 9 35]) (nS (nF [mV 36 7,oT 37 36,mV 38 9,oN 39 .sub 37 38,oP 40 (.mkslice 1 8 (.int .i64 0) (.t 39) (.t 39)),mV 10 40]) (nS (nS (nF [mV 41 7,oT 42 41,mV 43 9,oN 44 .sub 42 43,oO 45 .sub 44 1,mV 11 45]) (.block 0 (.loop qe5))) (nR [mV 90 10,oA1 91 655 90,mV 92 7,oA1 93 655 92,oT 94 93,oO 95 .gtr 94 0,mV 4 91,mV 5 95]))))))))
def qno : AC:=(nS (nF [oN 24 .lss 23 22]) (nS (nC 24 .skip (.exit 0)) (nS (.block 1 (nS (nF [oV 25 1 21 23,oJ 26 25,mV 8 26]) (nS (nF [mV 27 6,mV 28 8,mV 29 1,oO 30 .rem 29 15,oN 31 .shl 28 30,oN 32 .add 27 31,mV 6 32]) (nS (nF [mV 33 5,mV 34 6,oO 35 .rem 34 32768,oP 36 (.bslice 1 1 (.int .i64 0) [(0,(.t 35))]),oP 37 (.append 1 8 (.t 33) (.t 36)),mV 5 37]) (nF [mV 38 6,oO 39 .quo 38 32768,mV 6 39]))))) (nF [oO 40 .add 23 1,mV 23 40]))))
@[simp] def qo5 : AFn:=⟨[(.tmp 4)],(nS (nF [oP 4 (.mv (.c .nil))]) (nS (nS (nF [mV 9 0,oT 10 9,oO 11 .eql 10 0]) (nC 11 (nR [oP 4 (.mv (.c .nil))]) .skip)) (nS (nF [mV 12 1,oO 13 .quo 12 15,mV 14 1,oO 15 .quo 14 15,mV 16 0,oT 17 16,oN 18 .add 15 17,oO 19 .add 18 1,oP 20 (.mkslice 1 8 (.int .i64 0) (.t 13) (.t 19)),mV 5 20]) (nS (nF [oP 6 (nV 0)]) (nS (nS (nF [mV 21 0,oT 22 21,oP 23 (nV 0)]) (.block 0 (.loop qno))) (nR [mV 41 5,mV 42 6,oP 43 (.bslice 1 1 (.int .i64 0) [(0,(.t 42))]),
 oP 44 (.append 1 8 (.t 41) (.t 43)),oA1 45 655 44,mV 4 45])))))),true,false⟩
@[simp] def qte : AFn:=nG [(.cell 8 true 3),(.tmp 9)] (nS (nF [oU 4 3 0,oM 8,oZ 9 false]) (nS (nS (nF [oQ 14 1 4,oJ 15 14,oT 16 15,oO 17 .eql 16 0]) (nC 17 (nR [oP 18 (.build nD []),oK 3 8 18 false,oZ 9 true]) .skip)) (nS (nT [oQ 19 1 4,oJ 20 19,oA1 21 657 20,mV 22 2,oN 23 .sub 21 22,oQ 24 2 4,oJ 25 24,oP 26 (.bin .num .sub (.c (.int .i64 (-16384))) (.t 25)),oP 27 (.max3 (.t 23) (.t 26) (.c (.int .i64 0))),mV 10 27]) (nS (nF [oQ 29 1 4,oJ 30 29,mV 31 10,oA2 32 656 30 31,mV 28 32,oR 33 0 28,
 oR 34 1 28,mV 11 33,mV 12 34]) (nS (nF [oQ 35 0 4,oJ 36 35,mV 37 11,oQ 38 2 4,oJ 39 38,mV 40 10,oN 41 .add 39 40,oP 42 (.build nD [(0,1,(.t 36)),(1,1,(.t 37)),(2,1,(.t 41))]),oM 13,oK 3 13 42 false]) (nS (nS (nF [mV 43 12,mV 44 43,oE 45 44 1,oX 46 44 45,mV 47 46,oF 48 47 3,gT 49 47 (nA 0 4),oH 50 47 false 1 49,gT 51 47 (.bin .bool .neq (.t 48) (.t 50)),oY 52 47 51]) (nC 52 (nF [mV 53 11,oP 54 (.bslice 1 1 (.int .i64 0) [(0,(.c (.int .i64 1)))]),oA2 55 661 53 54,oQ 56 1 13,oK 1 56 55 false]) .skip)) (nS (nS (nT [oQ 57 1 13,
 oJ 58 57,oA1 59 657 58,oQ 60 2 13,oJ 61 60,oN 62 .add 59 61,oO 63 .gtr 62 16384,mV 64 63,gT 65 64 (nA 1 13),oH 66 64 false 1 65,gT 67 64 (.len (.t 66)),gT 68 64 (nX .gtr 67 0),oY 69 64 68]) (nC 69 (nS (nS (nF [mV 70 3,oQ 71 0 4,oJ 72 71,oP 73 (.bin .bool .neq (.t 70) (.t 72))]) (nC 73 (nR [oP 74 (.build nD []),oK 3 8 74 false,oZ 9 false]) .skip)) (nF [oP 75 (.bslice 1 1 (.int .i64 0) [(0,(.c (.int .i64 1)))]),mV 76 2,oA2 77 659 75 76,oP 78 (.bslice 1 1 (.int .i64 0) [(0,(.c (.int .i64 1)))]),
 oA2 79 663 77 78,mV 80 2,oP 81 (.bin .num .sub (.c (.int .i64 16384)) (.t 80)),oQ 82 1 13,oK 1 82 79 false,oQ 83 2 13,oK 1 83 81 false])) .skip)) (nR [oI 84 3 13,oK 3 8 84 false,oZ 9 true]))))))))
def qam : AC:=(nS (nS (nF [mV 8 7,mV 9 0,oT 10 9,oN 11 .lss 8 10,mV 12 11,oE 13 12 7,oE 14 12 1,gF 15 12 (.len (.t 14)),gF 16 12 (nY .lss 13 15),oX 17 12 16,mV 18 17,oE 19 18 6,gF 20 18 (nX .gtr 19 0),oX 21 18 20]) (nC 21 .skip (.exit 0))) (nS (.block 1 (nS (nS (nF [mV 24 7,mV 25 0,oT 26 25,oN 27 .lss 24 26]) (nC 27 (nF [mV 28 6,mV 29 0,mV 30 7,oV 31 1 29 30,oJ 32 31,oN 33 .add 28 32,mV 6 33]) .skip)) (nS (nS (nF [mV 34 7,mV 35 1,oT 36 35,oN 37 .lss 34 36]) (nC 37 (nF [mV 38 6,
 mV 39 1,mV 40 7,oV 41 1 39 40,oJ 42 41,oN 43 .add 38 42,mV 6 43]) .skip)) (nS (nF [mV 44 5,mV 45 6,oO 46 .rem 45 32768,oP 47 (.bslice 1 1 (.int .i64 0) [(0,(.t 46))]),oP 48 (.append 1 8 (.t 44) (.t 47)),mV 5 48]) (nF [mV 49 6,oO 50 .quo 49 32768,mV 6 50]))))) (nF [mV 22 7,oO 23 .add 22 1,mV 7 23])))
@[simp] def qp3 : AFn:=⟨[(.tmp 4)],(nS (nF [oP 4 (.mv (.c .nil))]) (nS (nF [oP 5 (.mv (.c .nil))]) (nS (nF [oP 6 (nV 0)]) (nS (nS (nF [oP 7 (nV 0)]) (.block 0 (.loop qam))) (nR [mV 51 5,oA1 52 655 51,mV 4 52]))))),false,true⟩
def qa0 : AC:=(nS (nS (nF [mV 19 5,oO 20 .geq 19 0]) (nC 20 .skip (.exit 0))) (nS (.block 1 (nS (nT [mV 23 0,mV 24 5,oV 25 1 23 24,oJ 26 25,mV 27 1,mV 28 5,oV 29 1 27 28,oJ 30 29,oN 31 .neq 26 30]) (nC 31 (nS (nT [mV 32 0,mV 33 5,oV 34 1 32 33,oJ 35 34,mV 36 1,mV 37 5,oV 38 1 36 37,oJ 39 38,oN 40 .sub 35 39,mV 4 40]) .ret) .skip))) (nF [mV 21 5,oO 22 .sub 21 1,mV 5 22])))
@[simp] def qkw : AFn:=⟨[(.tmp 4)],(nS (nF [oP 4 (nV 0)]) (nS (nS (nF [mV 6 0,oT 7 6,mV 8 1,oT 9 8,oN 10 .neq 7 9]) (nC 10 (nR [mV 11 0,oT 12 11,mV 13 1,oT 14 13,oN 15 .sub 12 14,mV 4 15]) .skip)) (nS (nS (nF [mV 16 0,oT 17 16,oO 18 .sub 17 1,mV 5 18]) (.block 0 (.loop qa0))) (nR [oP 4 (nV 0)])))),false,true⟩
def qa4 : AC:=(nS (nF [oN 14 .lss 13 12]) (nS (nC 14 .skip (.exit 0)) (nS (.block 1 (nS (nF [mV 15 13,mV 7 15]) (nS (nF [mV 16 5,mV 17 7,oV 18 1 16 17,oJ 19 18,mV 20 6,oN 21 .sub 19 20,mV 8 21]) (nS (nS (nF [mV 22 7,mV 23 1,oT 24 23,oN 25 .lss 22 24]) (nC 25 (nF [mV 26 8,mV 27 1,mV 28 7,oV 29 1 27 28,oJ 30 29,oN 31 .sub 26 30,mV 8 31]) .skip)) (nS (nF [oP 6 (nV 0)]) (nS (nS (nF [mV 32 8,oO 33 .lss 32 0]) (nC 33 (nS (nF [mV 34 8,oO 35 .add 34 32768,
 mV 8 35]) (nF [oP 6 (nV 1)])) .skip)) (nF [mV 36 5,mV 37 7,mV 38 8,oV 39 1 36 37,oK 1 39 38 false]))))))) (nF [oO 40 .add 13 1,mV 13 40]))))
@[simp] def qnt : AFn:=⟨[(.tmp 4)],(nS (nF [oP 4 (.mv (.c .nil))]) (nS (nF [mV 9 0,oA1 10 666 9,mV 5 10]) (nS (nF [oP 6 (nV 0)]) (nS (nS (nF [mV 11 5,oT 12 11,oP 13 (nV 0)]) (.block 0 (.loop qa4))) (nR [mV 41 5,oA1 42 655 41,mV 4 42]))))),false,true⟩
@[simp] def qlw : AFn:=nG [(.tmp 2)] (nS (nF [oZ 2 false]) (nR [mV 3 0,oO 4 .neq 3 0,mV 2 4]))
def qko : AC:=(nS (nF [oN 26 .lss 25 24]) (nS (nC 26 .skip (.exit 0)) (nS (.block 1 (nS (nF [mV 27 25,mV 9 27]) (nF [mV 28 0,mV 29 9,oV 30 1 28 29,⟨none,.store 1 (.t 30) (.c (.int .i64 0)),none,false⟩]))) (nF [oO 31 .add 25 1,mV 25 31]))))
@[simp] def qmg : AFn:=⟨[(.tmp 6)],(nS (nF [oZ 6 false]) (nS (nF [mV 10 1,mV 11 2,oP 12 (.bslice 1 1 (.int .i64 0) [(0,(.t 11))]),oA1 13 655 12,oA2 14 667 10 13,mV 7 14]) (nS (nS (nF [mV 15 0,oA1 16 655 15,mV 17 7,oA2 18 662 16 17,oO 19 .lss 18 0]) (nC 19 (nR [oZ 6 false]) .skip)) (nS (nF [mV 20 0,mV 21 7,oA2 22 663 20 21,mV 8 22]) (nS (nS (nF [mV 23 0,oT 24 23,oP 25 (nV 0)]) (.block 0 (.loop qko))) (nS (nF [mV 32 0,mV 33 8,oP 34 (.copy 1 (.t 32) (.t 33))]) (nR [oZ 6 true]))))))),
  false,true⟩
@[simp] def qc0 : AFn:=⟨[(.tmp 2)],(nS (nF [oP 2 (.mv (.c .nil))]) (nS (nS (nF [mV 3 0,oP 4 (.bin .slice .eql (.t 3) (.c .nil))]) (nC 4 (nR [oP 2 (.mv (.c .nil))]) .skip)) (nR [oP 5 (.bslice 1 0 (.int .i64 0) []),mV 6 0,oP 7 (.append 1 8 (.t 5) (.t 6)),mV 2 7]))),true,true⟩
def qd0 : AC:=(nS (nF [oN 27 .lss 26 25]) (nS (nC 27 .skip (.exit 2)) (nS (.block 3 (nS (nF [mV 28 26,oV 29 1 24 26,oJ 30 29,mV 9 28,mV 10 30]) (nS (nF [mV 31 8,mV 32 5,mV 33 6,mV 34 9,oN 35 .add 33 34,oV 36 1 32 35,oJ 37 36,mV 38 7,mV 39 10,oN 40 .mul 38 39,oN 41 .add 37 40,oN 42 .add 31 41,mV 8 42]) (nS (nF [mV 43 5,mV 44 6,mV 45 9,oN 46 .add 44 45,mV 47 8,oO 48 .rem 47 32768,oV 49 1 43 46,oK 1 49 48 false]) (nF [mV 50 8,oO 51 .quo 50 32768,mV 8 51]))))) (nF [oO 52 .add 26 1,mV 26 52]))))
def qdz : AC:=(nS (nF [oN 20 .lss 19 18]) (nS (nC 20 .skip (.exit 0)) (nS (.block 1 (nS (nF [mV 21 19,oV 22 1 17 19,oJ 23 22,mV 6 21,mV 7 23]) (nS (nF [oP 8 (nV 0)]) (nS (nS (nF [mV 24 1,oT 25 24,oP 26 (nV 0)]) (.block 2 (.loop qd0))) (nF [mV 53 5,mV 54 6,mV 55 1,oT 56 55,oN 57 .add 54 56,oV 58 1 53 57,oJ 59 58,mV 60 8,oN 61 .add 59 60,oV 62 1 53 57,oK 1 62 61 false]))))) (nF [oO 63 .add 19 1,mV 19 63]))))
@[simp] def qnp : AFn:=⟨[(.tmp 4)],(nS (nF [oP 4 (.mv (.c .nil))]) (nS (nF [mV 11 0,oT 12 11,mV 13 1,oT 14 13,oN 15 .add 12 14,oP 16 (.mkslice 1 8 (.int .i64 0) (.t 15) (.t 15)),mV 5 16]) (nS (nS (nF [mV 17 0,oT 18 17,oP 19 (nV 0)]) (.block 0 (.loop qdz))) (nR [mV 64 5,oA1 65 655 64,mV 4 65])))),false,true⟩
@[simp] def qe0 : AFn:=nG [(.tmp 6)] (nS (nF [oU 3 7 0,oZ 6 false]) (nS (nS (nF [oA0 12 621,oW 13 12]) (nC 13 (nR [oZ 6 false]) .skip)) (nS (nS (nF [oI 14 7 3,oI 15 7 3,mV 16 2,oA3 17 622 14 15 16,mV 18 17,oE 19 18 2,gF 20 18 (nX .gtr 19 64),oX 21 18 20,mV 22 21,oG 23 22 true 7 3,oE 24 22 2,gF 25 22 (.call (.f 669) [(.t 23),(.t 24),(.c (.bool false))]),oX 26 22 25,mV 27 26,oG 28 27 true 7 3,gF 29 27 (.call (.f 670) [(.c (.int .i64 2)),(.t 28)]),gF 30 27 (nU 29),oX 31 27 30]) (nC 31 (nR [oZ 6 true]) .skip)) (nS (nF [oP 32 (.call (.f 463) [(.c (.int .i64 200))]),
 oP 33 (.call (.f 158) [(.t 32),(.c (.int .i64 (-1)))]),mV 34 1,oP 35 (.conv .i64 (.t 34)),oO 36 .rem 35 40,oA1 37 630 36,oA1 38 629 37,oP 39 (.call (.f 140) [(.t 33),(.t 38),(.c (.int .i64 200))]),oL 7,oK 7 7 39 false]) (nS (nS (nF [oI 40 7 7,oI 41 7 3,oA2 42 83 40 41,oW 43 42]) (nC 43 (nR [oZ 6 true]) .skip)) (nS (nT [oI 44 7 3,mV 45 2,oA2 46 671 44 45,oI 47 7 3,mV 48 2,oA2 49 672 47 48,oL 8,oL 9,oK 7 8 46 true,oK 7 9 49 true]) (nS (nF [oP 50 (.bslice 1 4 (.int .i64 0) [(0,(.c (.int .i64 0))),(1,(.c (.int .i64 1))),(2,(.c (.int .i64 0))),(3,(.c (.int .i64 (-1))))]),
 mV 10 50]) (nS (nF [mV 51 1,oP 52 (.conv .i64 (.t 51)),oO 53 .rem 52 40,oO 54 .rem 53 4,oO 55 .add 54 4,oO 56 .rem 55 4,mV 11 56]) (nS (nT [oI 57 7 8,mV 58 10,mV 59 11,oV 60 1 58 59,oJ 61 60,oA1 62 630 61,oB2 63 133 57 62,mV 64 63,oH 65 64 true 7 9,oF 66 64 10,oF 67 64 11,gT 68 64 (nX .add 67 1),gT 69 64 (nX .rem 68 4),gT 70 64 (.iaddr 1 (.t 66) (.t 69)),oH 71 64 false 1 70,oD1 72 64 630 71,⟨some 73,.call (.f 133) [(.t 65),(.t 72)],some (64,true),true⟩,oY 74 64 73,mV 6 74]) .ret)))))))))
@[simp] def qew : AFn:=nG [(.tmp 6)] (nS (nF [oU 3 7 0,oZ 6 false]) (nR [oI 7 7 3,oA1 8 70 7,oW 9 8,mV 10 9,gF 11 10 (nA 6 3),oG 12 10 false 1 11,oX 13 10 12,mV 14 13,oE 15 14 1,oC1 16 14 195 15,gF 17 14 (nU 16),oX 18 14 17,mV 19 18,oE 20 19 2,oE 21 19 20,oH 22 21 true 7 3,oD1 23 21 174 22,gT 24 21 (nX .leq 23 0),gF 25 19 (.pick (.t 21) (.t 24) (.c (.bool false))),oX 26 19 25,mV 6 26]))
@[simp] def qex : AFn:=nG [(.tmp 4)] (nS (nF [oU 3 7 1,oZ 4 false]) (nS (nS (nF [mV 5 0,oO 6 .eql 5 1]) (nC 6 (nR [oI 7 7 3,oP 8 (.call (.f 410) [(.t 7),(.c (.int .i64 (-64))),(.c (.int .i64 64))]),mV 4 8]) .skip)) (nR [oI 9 7 3,oP 10 (.call (.f 436) [(.t 9),(.c (.int .i64 (-64))),(.c (.int .i64 64))]),mV 4 10])))
@[simp] def qtg : AFn:=nG [(.cell 4 true 7)] (nS (nF [oU 2 7 0,oU 3 1 1,oL 4]) (nR [oJ 5 3,oP 6 (.mkfn 673 [(.t 3)]),oI 7 7 2,oP 8 (.bslice 7 1 (.agg nI) [(0,(.t 7))]),oA3 9 633 5 6 8,oK 7 4 9 false]))
@[simp] def qti : AFn:=nG [(.cell 4 true 7)] (nS (nF [oU 2 7 0,oU 3 1 1,oL 4]) (nR [oJ 5 3,oP 6 (.mkfn 676 [(.t 3)]),oI 7 7 2,oP 8 (.bslice 7 1 (.agg nI) [(0,(.t 7))]),oA3 9 633 5 6 8,oK 7 4 9 false]))
@[simp] def qnv : AFn:=nG [(.cell 3 true 7)] (nS (nF [oL 3]) (nS (nS (nF [mV 4 0,oP 5 (.iaddr 7 (.t 4) (.c (.int .i64 0))),oI 6 7 5,oA1 7 674 6]) (nC 7 (nR [mV 8 0,oP 9 (.iaddr 7 (.t 8) (.c (.int .i64 0))),oI 10 7 9,oK 7 3 10 false]) .skip)) (nS (nT [mV 11 0,oP 12 (.iaddr 7 (.t 11) (.c (.int .i64 0))),oI 13 7 12,oJ 14 1,oS 15 (.call (.f 675) [(.t 13),(.c (.int .i64 0)),(.t 14)]),oK 7 3 15 true]) .ret)))
@[simp] def qpy : AFn:=nG [(.tmp 2)] (nS (nF [oU 1 7 0,oZ 2 false]) (nR [oQ 3 0 1,oQ 4 1 3,oJ 5 4,oT 6 5,oQ 7 3 1,oQ 8 1 7,oJ 9 8,oT 10 9,oN 11 .add 6 10,oO 12 .eql 11 0,mV 2 12]))
def qbn : AC:=(nS (nS (nF [mV 79 15,mV 80 14,oN 81 .leq 79 80]) (nC 81 .skip (.exit 0))) (nS (.block 1 (nS (nS (nF [mV 84 15,mV 85 13,oN 86 .add 84 85,oO 87 .gtr 86 8]) (nC 87 (nR [oI 88 7 7,oK 7 6 88 false]) .skip)) (nS (nF [mV 89 15,mV 90 1,oN 91 .add 89 90,oO 92 .rem 91 4,oO 93 .add 92 4,oO 94 .rem 93 4]) (.block 2 (nS (nF [oO 96 .eql 94 1,mV 95 96]) (nC 95 (nF [oP 97 (.call (.f 637) [(.c (.int .i64 1))]),oQ 98 3 12,oK 3 98 97 false]) (nS (nF [oO 100 .eql 94 3,mV 99 100]) (nC 99 (nF [oP 101 (.call (.f 637) [(.c (.int .i64 (-1)))]),
 oQ 102 0 12,oK 3 102 101 false]) .skip)))))))) (nF [mV 82 15,oO 83 .add 82 1,mV 15 83])))
@[simp] def qlt : List AOper:=
 [oQ 103 0 12,oI 104 3 103,oQ 105 3 12,oI 106 3 105,mV 107 2,oP 108 (.call (.f 649) [(.t 104),(.c (.bool false)),(.t 106),(.c (.bool false)),(.t 107)]),oK 7 12 108 false]
@[simp] def qls : List AOper:=
 [oQ 109 0 12,oI 110 3 109,oQ 111 0 7,oI 112 3 111,oA2 113 640 110 112,oO 114 .lss 113 0]
@[simp] def qlr : List AOper:=
 [oQ 115 0 7,oI 116 3 115,oQ 117 0 12,oK 3 117 116 false]
@[simp] def qlq : List AOper:=
 [oQ 118 3 12,oI 119 3 118,oQ 120 3 7,oI 121 3 120,oA2 122 640 119 121,oO 123 .gtr 122 0]
@[simp] def qlp : List AOper:=
 [oQ 124 3 7,oI 125 3 124,oQ 126 3 12,oK 3 126 125 false]
@[simp] def qlo : List AOper:=
 [oI 127 7 12,oK 7 6 127 false]
@[simp] def qnm : AFn:=nG [(.cell 6 true 7)] (nS (nF [oU 3 7 0,oL 6]) (nS (nF [oP 16 (.call (.f 637) [(.c (.int .i64 (-1)))]),oP 17 (.call (.f 637) [(.c (.int .i64 1))]),oP 18 (.build nI [(0,3,(.t 16)),(3,3,(.t 17))]),oL 7,oK 7 7 18 false]) (nS (nS (nT [oQ 19 0 3,oI 20 3 19,oA1 21 677 20,oQ 22 3 3,oI 23 3 22,oB1 24 677 23,oP 25 (.max (.t 21) (.t 24)),oO 26 .gtr 25 30]) (nC 26 (nR [oI 27 7 7,oK 7 6 27 false]) .skip)) (nS (nF [oQ 29 0 3,
 oI 30 3 29,mV 31 1,mV 32 2,oA3 33 678 30 31 32,mV 28 33,oR 34 0 28,oR 35 1 28,oL 8,oL 9,oK 7 8 34 false,oK 7 9 35 false]) (nS (nF [oQ 37 3 3,oI 38 3 37,mV 39 1,mV 40 2,oA3 41 678 38 39 40,mV 36 41,oR 42 0 36,oR 43 1 36,oL 10,oL 11,oK 7 10 42 false,oK 7 11 43 false]) (nS (nS (nF [oQ 44 6 8,oJ 45 44,mV 46 45,gF 47 46 (nA 6 10),oG 48 46 false 1 47,oX 49 46 48]) (nC 49 (nR [oI 50 7 7,oK 7 6 50 false]) .skip)) (nS (nF [oI 51 7 8,oL 12,oK 7 12 51 false]) (nS (nS (nF [oQ 52 0 10,oI 53 3 52,oQ 54 0 12,oI 55 3 54,
 oA2 56 640 53 55,oO 57 .lss 56 0]) (nC 57 (nF [oQ 58 0 10,oI 59 3 58,oQ 60 0 12,oK 3 60 59 false]) .skip)) (nS (nS (nF [oQ 61 3 10,oI 62 3 61,oQ 63 3 12,oI 64 3 63,oA2 65 640 62 64,oO 66 .gtr 65 0]) (nC 66 (nF [oQ 67 3 10,oI 68 3 67,oQ 69 3 12,oK 3 69 68 false]) .skip)) (nS (nT [oQ 70 0 9,oI 71 3 70,oA1 72 653 71,oA1 73 679 72,oQ 74 3 11,oI 75 3 74,oB1 76 679 75,mV 13 73,mV 14 76]) (nS (nS (nF [mV 77 13,oP 78 (.un .neg (.t 77)),mV 15 78]) (.block 0 (.loop qbn))) (nS (.region false qlt) (nS (nS (.region false qls) (nC 114 (.region false qlr) .skip)) (nS (nS (.region false qlq) (nC 123 (.region false qlp) .skip)) (nS (.region false qlo) .ret)))))))))))))))
@[simp] def qnx : AFn:=nG [(.cell 3 true 7)] (nS (nF [oL 3]) (nS (nS (nF [mV 4 0,oP 5 (.iaddr 7 (.t 4) (.c (.int .i64 0))),oI 6 7 5,oA1 7 674 6]) (nC 7 (nR [oP 8 (.call (.f 637) [(.c (.int .i64 1))]),oA1 9 636 8,oK 7 3 9 false]) .skip)) (nS (nT [mV 10 0,oP 11 (.iaddr 7 (.t 10) (.c (.int .i64 0))),oI 12 7 11,oJ 13 1,oS 14 (.call (.f 675) [(.t 12),(.c (.int .i64 1)),(.t 13)]),oK 7 3 14 true]) .ret)))
@[simp] def qtb : AFn:=nG [(.tmp 2)] (nS (nF [oU 1 3 0,oP 2 (nV 0)]) (nS (nS (nF [oQ 3 1 1,oJ 4 3,oT 5 4,oO 6 .eql 5 0]) (nC 6 (nR [oP 2 (nV (-16384))]) .skip)) (nS (nT [oQ 7 1 1,oJ 8 7,oA1 9 657 8,oQ 10 2 1,oJ 11 10,oN 12 .add 9 11,mV 2 12]) .ret)))
@[simp] def qpz : AFn:=nG [(.cell 6 true 7),(.cell 7 true 7)] (nS (nF [oU 3 3 0,oL 6,oL 7]) (nS (nF [mV 14 2,oI 15 3 3,oA1 16 677 15,oP 17 (.max (.c (.int .i64 0)) (.t 16)),oN 18 .add 14 17,oO 19 .add 18 32,mV 8 19]) (nS (nF [oI 20 3 3,oA1 21 636 20,mV 22 8,oA1 23 680 22,mV 24 8,oA3 25 635 21 23 24,oL 9,oK 7 9 25 false]) (nS (nF [oQ 26 0 9,oI 27 3 26,oP 28 (.bslice 1 1 (.int .i64 0) [(0,(.c (.int .i64 1)))]),oP 29 (.build nD [(1,1,(.t 28)),(2,1,(.c (.int .i64 (-1))))]),oA2 30 652 27 29,oA1 31 679 30,mV 10 31]) (nS (nF [oI 32 3 3,
 oA1 33 636 32,mV 34 10,oA1 35 637 34,oA1 36 636 35,mV 37 8,oA1 38 680 37,mV 39 8,oA3 40 683 36 38 39,oA1 41 682 40,mV 42 8,oA3 43 681 33 41 42,oL 11,oK 7 11 43 false]) (nS (nF [mV 44 10,mV 45 1,oN 46 .add 44 45,oO 47 .rem 46 4,oO 48 .add 47 4,oO 49 .rem 48 4,mV 12 49]) (nS (nF [oI 50 7 11,mV 51 12,oO 52 .rem 51 2,oP 53 (.bin .num .sub (.c (.int .i64 1)) (.t 52)),mV 54 8,oA3 55 684 50 53 54,oL 13,oK 7 13 55 false]) (nS (nS (nF [mV 56 12,oO 57 .geq 56 2]) (nC 57 (nF [oI 58 7 13,oA1 59 682 58,oK 7 13 59 false]) .skip)) (nS (nT [oI 60 7 13,
 oP 61 (.sload true 7 9),⟨none,.storeN 7 (.t 6) (.t 60) [9],none,true⟩,oK 7 7 61 true]) .ret)))))))))
def qfs : AC:=(nS (nS (nF [mV 27 6,oO 28 .geq 27 0]) (nC 28 .skip (.exit 0))) (nS (.block 1 (nF [mV 31 5,oO 32 .mul 31 32768,mV 33 3,mV 34 6,oV 35 1 33 34,oJ 36 35,oN 37 .add 32 36,mV 5 37])) (nF [mV 29 6,oO 30 .sub 29 1,mV 6 30])))
@[simp] def qnu : AFn:=nG [(.tmp 2)] (nS (nF [oU 1 3 0,oP 2 (nV 0)]) (nS (nF [oQ 7 1 1,oJ 8 7,mV 3 8]) (nS (nF [oZ 4 false]) (nS (nS (nF [oQ 9 2 1,oJ 10 9,oO 11 .lss 10 0]) (nC 11 (nF [mV 13 3,oQ 14 2 1,oJ 15 14,oP 16 (.un .neg (.t 15)),oA2 17 656 13 16,mV 12 17,oR 18 0 12,oR 19 1 12,mV 3 18,mV 4 19]) (nF [mV 20 3,oQ 21 2 1,oJ 22 21,oA2 23 659 20 22,mV 3 23]))) (nS (nF [oP 5 (nV 0)]) (nS (nS (nF [mV 24 3,oT 25 24,oO 26 .sub 25 1,mV 6 26]) (.block 0 (.loop qfs))) (nS (nS (nF [oQ 38 0 1,
 oJ 39 38,oW 40 39]) (nC 40 (nR [mV 41 5,mV 2 41]) .skip)) (nS (nS (nF [mV 42 4]) (nC 42 (nF [mV 43 5,oO 44 .add 43 1,mV 5 44]) .skip)) (nR [mV 45 5,oP 46 (.un .neg (.t 45)),mV 2 46])))))))))
@[simp] def qp6 : AFn:=nG [(.cell 2 true 7)] (nS (nF [oL 2]) (nS (nF [mV 5 0,oP 6 (.call (.f 685) [(.c (.int .i64 5)),(.t 5)]),mV 7 0,oP 8 (.call (.f 685) [(.c (.int .i64 239)),(.t 7)]),oL 3,oL 4,oK 7 3 6 false,oK 7 4 8 false]) (nS (nT [oI 9 7 3,oP 10 (.call (.f 686) [(.t 9),(.c (.int .i64 3))]),oI 11 7 4,oS 12 (.call (.f 686) [(.t 11),(.c (.int .i64 1))]),oB1 13 682 12,mV 14 0,oB3 15 681 10 13 14,oK 7 2 15 true]) .ret)))
@[simp] def qtc : AFn:=nG [(.cell 6 true 7)] (nS (nF [oU 3 7 0,oU 4 7 1,oL 6]) (nS (nS (nF [oQ 7 6 3,oJ 8 7,mV 9 8,gF 10 9 (nA 6 4),oG 11 9 false 1 10,oX 12 9 11]) (nC 12 (.seq .stop .ret) .skip)) (nS (nT [oQ 14 0 3,oI 15 3 14,oQ 16 0 4,oI 17 3 16,oA2 18 652 15 17,oQ 19 3 3,oI 20 3 19,oQ 21 3 4,oI 22 3 21,oB2 23 652 20 22,mV 24 2,oS 25 (.call (.f 649) [(.t 18),(.c (.bool false)),(.t 23),(.c (.bool false)),(.t 24)]),oK 7 6 25 true]) .ret)))
@[simp] def qja : AFn:=nG [(.cell 2 true 7)] (nS (nF [oU 1 7 0,oL 2]) (nS (nT [oQ 3 3 1,oI 4 3 3,oA1 5 653 4,oQ 6 0 1,oI 7 3 6,oA1 8 653 7,oQ 9 6 1,oJ 10 9,oP 11 (.build nI [(0,3,(.t 5)),(3,3,(.t 8)),(6,1,(.t 10))]),oK 7 2 11 true]) .ret))
def qd5 : AC:=(nS (nF [oN 24 .lss 23 22]) (nS (nC 24 .skip (.exit 0)) (nS (.block 1 (nS (nF [mV 25 23,oV 26 6 21 23,oI 27 6 26,oP 10 (.new 6 (.agg [(.bool false),.nil,(.int .i64 0),(.bool false),.nil,(.int .i64 0)])),mV 9 25,oK 6 10 27 false]) (nS (nF [oP 28 (.aiaddr 2 3 (.t 10) (.c (.int .i64 0))),oI 29 3 28,oP 30 (.aiaddr 2 3 (.t 10) (.c (.int .i64 1))),oI 31 3 30,oA2 32 687 29 31,oM 11,oK 3 11 32 false]) (nS (nS (nF [mV 33 9,oO 34 .eql 33 0,mV 35 34,oG 36 35 true 3 11,oG 37 35 true 3 7,oC2 38 35 640 36 37,gF 39 35 (nX .lss 38 0),
 oX 40 35 39]) (nC 40 (nF [oI 41 3 11,oK 3 7 41 false]) .skip)) (nS (nF [mV 42 9,oO 43 .eql 42 0,mV 44 43,oG 45 44 true 3 11,oG 46 44 true 3 8,oC2 47 44 640 45 46,gF 48 44 (nX .gtr 47 0),oX 49 44 48]) (nC 49 (nF [oI 50 3 11,oK 3 8 50 false]) .skip)))))) (nF [oO 51 .add 23 1,mV 23 51]))))
@[simp] def qks : AFn:=nG [(.cell 6 true 7)] (nS (nF [oU 3 7 0,oU 4 7 1,oL 6]) (nS (nS (nF [oQ 12 6 3,oJ 13 12,mV 14 13,gF 15 14 (nA 6 4),oG 16 14 false 1 15,oX 17 14 16]) (nC 17 (.seq .stop .ret) .skip)) (nS (nF [oM 7,oM 8]) (nS (nS (nF [oI 19 7 3,oI 20 7 4,oA2 21 647 19 20,oT 22 21,oP 23 (nV 0)]) (.block 0 (.loop qd5))) (nR [oI 52 3 7,oI 53 3 8,mV 54 2,oP 55 (.call (.f 649) [(.t 52),(.c (.bool false)),(.t 53),(.c (.bool false)),(.t 54)]),oK 7 6 55 false])))))
def qda : AC:=(nS (nF [oN 27 .lss 26 25]) (nS (nC 27 .skip (.exit 0)) (nS (.block 1 (nS (nF [oI 28 7 9,oI 29 7 7,mV 30 2,oA3 31 681 28 29 30,oK 7 9 31 false]) (nS (nF [oI 32 7 7,oI 33 7 8,mV 34 2,oA3 35 683 32 33 34,mV 36 10,oO 37 .add 36 1,mV 38 10,oO 39 .add 38 2,oN 40 .mul 37 39,oA1 41 637 40,oA1 42 636 41,mV 43 2,oA3 44 635 35 42 43,oK 7 7 44 false]) (nF [mV 45 10,oO 46 .add 45 2,mV 10 46])))) (nF [oO 47 .add 26 1,mV 26 47]))))
@[simp] def qk1 : List AOper:=
 [oI 48 7 9,oI 49 7 7,oA1 50 688 49,mV 51 2,oB3 52 681 48 50 51,oK 7 6 52 true]
@[simp] def qlu : AFn:=nG [(.cell 6 true 7)] (nS (nF [oU 3 7 0,oL 6]) (nS (nF [oP 11 (.call (.f 637) [(.c (.int .i64 1))]),oA1 12 636 11,oL 7,oK 7 7 12 false]) (nS (nS (nF [mV 13 1,oO 14 .eql 13 1]) (nC 14 (nF [oI 15 7 3,oK 7 7 15 false]) .skip)) (nS (nF [oI 16 7 3,oI 17 7 3,mV 18 2,oA3 19 683 16 17 18,oA1 20 682 19,oL 8,oK 7 8 20 false]) (nS (nF [oP 21 (.build nI []),oL 9,oK 7 9 21 false]) (nS (nF [mV 22 1,mV 10 22]) (nS (nS (nF [mV 23 2,
 oO 24 .quo 23 2,oO 25 .add 24 8,oP 26 (nV 0)]) (.block 0 (.loop qda))) (nS (.region true qk1) .ret))))))))
def qe6 : AC:=(nS (nF [oN 24 .lss 23 22]) (nS (nC 24 .skip (.exit 0)) (nS (.block 1 (nS (nF [mV 25 23,mV 9 25]) (nS (nT [oI 26 7 7,oI 27 7 8,mV 28 9,oP 29 (.bin .num .mul (.c (.int .i64 2)) (.t 28)),oO 30 .add 29 1,oA1 31 637 30,oA1 32 636 31,mV 33 1,oA3 34 635 27 32 33,mV 35 1,oB3 36 681 26 34 35,oK 7 7 36 true]) (nF [oI 37 7 8,oI 38 7 6,mV 39 1,oA3 40 683 37 38 39,oK 7 8 40 false])))) (nF [oO 41 .add 23 1,mV 23 41]))))
@[simp] def ql1 : AFn:=nG [(.cell 4 true 7)] (nS (nF [oL 4]) (nS (nF [mV 10 0,mV 11 1,oA2 12 689 10 11,oL 5,oK 7 5 12 false]) (nS (nF [oI 13 7 5,oI 14 7 5,mV 15 1,oA3 16 683 13 14 15,oA1 17 682 16,oL 6,oK 7 6 17 false]) (nS (nT [oP 18 (.build nI []),oP 19 (.sload true 7 5),oL 7,oL 8,⟨none,.storeN 7 (.t 7) (.t 18) [5],none,true⟩,oK 7 8 19 true]) (nS (nS (nF [mV 20 1,oO 21 .quo 20 4,oO 22 .add 21 4,oP 23 (nV 0)]) (.block 0 (.loop qe6))) (nS (nT [oI 42 7 7,
 oI 43 7 8,oA1 44 688 43,mV 45 1,oB3 46 681 42 44 45,oK 7 4 46 true]) .ret))))))
@[simp] def qnq : AFn:=nG [(.cell 4 true 7)] (nS (nF [oU 2 7 0,oL 4]) (nR [oQ 5 0 2,oQ 6 0 5,oJ 7 6,oQ 8 0 2,oQ 9 1 8,oJ 10 9,oQ 11 0 2,oQ 12 2 11,oJ 13 12,mV 14 1,oN 15 .add 13 14,oP 16 (.build nD [(0,1,(.t 7)),(1,1,(.t 10)),(2,1,(.t 15))]),oQ 17 3 2,oQ 18 0 17,oJ 19 18,oQ 20 3 2,oQ 21 1 20,oJ 22 21,oQ 23 3 2,oQ 24 2 23,oJ 25 24,mV 26 1,oN 27 .add 25 26,oP 28 (.build nD [(0,1,(.t 19)),(1,1,(.t 22)),(2,1,(.t 27))]),oQ 29 6 2,oJ 30 29,oP 31 (.build nI [(0,3,(.t 16)),(3,3,(.t 28)),(6,1,(.t 30))]),
 oK 7 4 31 false]))
@[simp] def qtd : AFn:=nG [(.cell 4 true 3)] (nS (nF [oU 2 3 0,oU 3 3 1,oM 4]) (nS (nT [oQ 5 0 2,oJ 6 5,oQ 7 0 3,oJ 8 7,oP 9 (.bin .bool .neq (.t 6) (.t 8)),oQ 10 1 2,oJ 11 10,oQ 12 1 3,oJ 13 12,oA2 14 667 11 13,oQ 15 2 2,oJ 16 15,oQ 17 2 3,oJ 18 17,oN 19 .add 16 18,oP 20 (.build nD [(0,1,(.t 9)),(1,1,(.t 14)),(2,1,(.t 19))]),oK 3 4 20 true]) .ret))
@[simp] def ql0 : AFn:=nG [(.cell 2 true 7)] (nS (nF [oU 1 7 0,oL 2]) (nS (nS (nF [oQ 4 6 1,oJ 5 4]) (nC 5 (nR [oI 6 7 1,oK 7 2 6 false]) .skip)) (nS (nF [oQ 7 3 1,oI 8 3 7,oM 3,oK 3 3 8 false]) (nS (nS (nT [oQ 9 0 1,oI 10 3 9,oA1 11 653 10,oI 12 3 3,oB2 13 640 11 12,oO 14 .gtr 13 0]) (nC 14 (nF [oQ 15 0 1,oI 16 3 15,oA1 17 653 16,oK 3 3 17 false]) .skip)) (nS (nT [oI 18 3 3,oA1 19 653 18,oI 20 3 3,oP 21 (.build nI [(0,3,(.t 19)),(3,3,(.t 20))]),
 oK 7 2 21 true]) .ret)))))
@[simp] def qp4 : AFn:=nG [(.cell 4 true 7)] (nS (nF [oL 4]) (nR [oP 5 (.call (.f 637) [(.c (.int .i64 1))]),oA1 6 636 5,mV 7 0,oA1 8 637 7,oA1 9 636 8,mV 10 1,oA3 11 635 6 9 10,oK 7 4 11 false]))
abbrev qsi : Nat:=12
abbrev qon : Nat:=18
abbrev qsj : Nat:=23
abbrev qip : Nat:=49
abbrev quc : Nat:=51
abbrev qzb : Nat:=52
abbrev qua : Nat:=54
abbrev qwp : Nat:=55
abbrev qwq : Nat:=56
abbrev qwr : Nat:=57
abbrev qse : Nat:=60
abbrev qpp : Nat:=63
abbrev qsd : Nat:=70
abbrev qom : Nat:=74
abbrev qqz : Nat:=77
abbrev qq4 : Nat:=78
abbrev qwt : Nat:=79
abbrev qq5 : Nat:=80
abbrev qpo : Nat:=83
abbrev qt9 : Nat:=84
abbrev qy6 : Nat:=85
abbrev qt8 : Nat:=86
abbrev qsh : Nat:=87
abbrev qt6 : Nat:=91
abbrev qoj : Nat:=96
abbrev qws : Nat:=97
abbrev qy8 : Nat:=98
abbrev qoi : Nat:=99
abbrev qq3 : Nat:=100
abbrev qdv : Nat:=101
abbrev qsf : Nat:=102
abbrev qsg : Nat:=103
abbrev qqx : Nat:=106
abbrev qqy : Nat:=107
abbrev q9e : Nat:=108
abbrev qmt : Nat:=110
abbrev qms : Nat:=111
abbrev qoh : Nat:=112
abbrev qjm : Nat:=113
abbrev qt3 : Nat:=114
abbrev qio : Nat:=115
abbrev qwi : Nat:=116
abbrev qf2 : Nat:=117
abbrev qqu : Nat:=118
abbrev qmj : Nat:=119
abbrev qh4 : Nat:=120
abbrev qt5 : Nat:=133
abbrev qt4 : Nat:=140
abbrev qq0 : Nat:=158
abbrev qabn : Nat:=174
abbrev q9f : Nat:=182
abbrev q5v : Nat:=184
abbrev qmk : Nat:=186
abbrev qsb : Nat:=189
abbrev qsc : Nat:=190
abbrev qlb : Nat:=191
abbrev qog : Nat:=192
abbrev qt7 : Nat:=195
abbrev qy9 : Nat:=198
abbrev qy5 : Nat:=199
abbrev q5u : Nat:=200
abbrev qud : Nat:=204
abbrev qza : Nat:=210
abbrev q3x : Nat:=214
abbrev q1r : Nat:=217
abbrev qc8 : Nat:=221
abbrev qwe : Nat:=222
abbrev qpq : Nat:=223
abbrev qq6 : Nat:=224
abbrev qop : Nat:=225
abbrev qwf : Nat:=235
abbrev qt1 : Nat:=237
abbrev qwn : Nat:=238
abbrev qqw : Nat:=240
abbrev q1q : Nat:=241
abbrev q5t : Nat:=243
abbrev qq2 : Nat:=244
abbrev qy7 : Nat:=245
abbrev qwm : Nat:=246
abbrev qr8 : Nat:=254
abbrev qr7 : Nat:=255
abbrev q1p : Nat:=256
abbrev qwo : Nat:=257
abbrev qwl : Nat:=258
abbrev qwj : Nat:=259
abbrev qqv : Nat:=260
abbrev qha : Nat:=261
abbrev qwh : Nat:=262
abbrev qwk : Nat:=264
abbrev qwu : Nat:=265
abbrev qwg : Nat:=266
abbrev qr9 : Nat:=267
abbrev qh5 : Nat:=268
abbrev qsa : Nat:=269
abbrev qt2 : Nat:=270
abbrev qpn : Nat:=271
abbrev qpl : Nat:=272
abbrev qpm : Nat:=273
abbrev qlc : Nat:=274
abbrev q61 : Nat:=410
abbrev qq1 : Nat:=436
abbrev q1t : Nat:=463
abbrev qq7 : Nat:=480
abbrev qwv : Nat:=481
abbrev q1s : Nat:=482
abbrev qww : Nat:=493
abbrev qos : Nat:=494
abbrev qml : Nat:=495
abbrev qq8 : Nat:=496
abbrev qgq : Nat:=506
abbrev qpr : Nat:=507
abbrev qeq : Nat:=508
abbrev que : Nat:=511
abbrev qm6 : Nat:=514
abbrev qin : Nat:=600
abbrev qk2 : Nat:=605
abbrev qso : Nat:=621
abbrev qsl : Nat:=622
abbrev qsm : Nat:=623
abbrev q9l : Nat:=628
abbrev qsk : Nat:=629
abbrev qsn : Nat:=630
abbrev qub : Nat:=631
abbrev qic : Nat:=633
abbrev qmu : Nat:=635
abbrev q1z : Nat:=636
abbrev q1v : Nat:=637
abbrev q1x : Nat:=638
abbrev q53 : Nat:=639
abbrev q10 : Nat:=640
abbrev qd9 : Nat:=641
abbrev qwy : Nat:=642
abbrev qdo : Nat:=643
abbrev qcw : Nat:=644
abbrev q1u : Nat:=645
abbrev q5z : Nat:=646
abbrev qw0 : Nat:=647
abbrev qug : Nat:=648
abbrev qwx : Nat:=649
abbrev qze : Nat:=650
abbrev q50 : Nat:=651
abbrev q9j : Nat:=652
abbrev qwz : Nat:=653
abbrev qj0 : Nat:=654
abbrev qmb : Nat:=655
abbrev q55 : Nat:=656
abbrev qzh : Nat:=657
abbrev qzg : Nat:=658
abbrev q3y : Nat:=659
abbrev q9i : Nat:=660
abbrev q51 : Nat:=661
abbrev qor : Nat:=662
abbrev q11 : Nat:=663
abbrev qzf : Nat:=664
abbrev q5y : Nat:=665
abbrev qof : Nat:=666
abbrev qsp : Nat:=667
abbrev qoo : Nat:=668
abbrev qok : Nat:=669
abbrev qol : Nat:=670
abbrev q9k : Nat:=671
abbrev q9m : Nat:=672
abbrev qd8 : Nat:=673
abbrev q5w : Nat:=674
abbrev q1w : Nat:=675
abbrev qea : Nat:=676
abbrev q9g : Nat:=677
abbrev q5x : Nat:=678
abbrev q12 : Nat:=679
abbrev q54 : Nat:=680
abbrev qzc : Nat:=681
abbrev quf : Nat:=682
abbrev qoq : Nat:=683
abbrev qzd : Nat:=684
abbrev qzj : Nat:=685
abbrev q1y : Nat:=686
abbrev q9h : Nat:=687
abbrev qzi : Nat:=688
abbrev q52 : Nat:=689
def fnList : List (Nat × AFn):=
 [(12,qhs),
  (18,qki),
  (23,qhu),
  (49,qi1),
  (51,qi4),
  (52,qln),
  (54,qi2),
  (55,qke),
  (56,qkf),
  (57,qkg),
  (60,qho),
  (63,qfi),
  (70,qhn),
  (74,qkh),
  (77,qgc),
  (78,qgi),
  (79,qkk),
  (80,qgj),
  (83,qfg),
  (84,qi0),
  (85,qli),
  (86,qiz),
  (87,qhr),
  (91,qiv),
  (96,qev),
  (97,qkj),
  (98,qlk),
  (99,qgw),
  (100,qgh),
  (101,qiy),
  (102,qhp),
  (103,qhq),
  (106,qga),
  (107,qgb),
  (108,qhm),
  (110,qfr),
  (111,qdx),
  (112,qkb),
  (113,qdl),
  (114,qir),
  (115,qis),
  (116,qgv),
  (117,qbh),
  (118,qf7),
  (119,qdp),
  (120,qbx),
  (133,qiu),
  (140,qit),
  (158,qgd),
  (174,qiw),
  (182,qht),
  (184,qfk),
  (186,qdq),
  (189,qhk),
  (190,qhl),
  (191,qhf),
  (192,qj4),
  (195,qix),
  (198,qll),
  (199,qlh),
  (200,qpx),
  (204,qi5),
  (210,qlm),
  (214,qez),
  (217,qng),
  (221,qc9),
  (222,qj2),
  (223,qfl),
  (224,qgk),
  (225,qe1),
  (235,qj3),
  (237,qiq),
  (238,qkc),
  (240,qf9),
  (241,qnf),
  (243,qpw),
  (244,qgg),
  (245,qlj),
  (246,qka),
  (254,c_round_cut),
  (255,qhe),
  (256,qne),
  (257,qkd),
  (258,qj9),
  (259,qj7),
  (260,qf8),
  (261,qbt),
  (262,qj6),
  (264,qj8),
  (265,qkl),
  (266,qj5),
  (267,qhg),
  (268,qb0),
  (269,qhh),
  (270,qfq),
  (271,qff),
  (272,qfd),
  (273,qfe),
  (274,qhj),
  (410,qgf),
  (436,qge),
  (463,qnj),
  (480,qgl),
  (481,qkm),
  (482,qni),
  (493,qkn),
  (494,qe7),
  (495,qds),
  (496,qgm),
  (506,qdr),
  (507,qfm),
  (508,qe2),
  (511,qi6),
  (514,qeb),
  (600,qca),
  (605,qcz),
  (621,qhy),
  (622,qhw),
  (623,qhx),
  (628,qth),
  (629,qhv),
  (630,qnh),
  (631,qi3),
  (633,qly),
  (635,qi9),
  (636,qnr),
  (637,qnl),
  (638,qnn),
  (639,qp5),
  (640,qns),
  (641,qnw),
  (642,qkt),
  (643,qbz),
  (644,qjc),
  (645,qnk),
  (646,qp1),
  (647,qkv),
  (648,qjb),
  (649,qkp),
  (650,qlv),
  (651,qp2),
  (652,qtf),
  (653,qku),
  (654,qck),
  (655,qp0),
  (656,qp7),
  (657,qlz),
  (658,qlx),
  (659,qo5),
  (660,qte),
  (661,qp3),
  (662,qkw),
  (663,qnt),
  (664,qlw),
  (665,qmg),
  (666,qc0),
  (667,qnp),
  (668,qe0),
  (669,qew),
  (670,qex),
  (671,qtg),
  (672,qti),
  (673,qnv),
  (674,qpy),
  (675,qnm),
  (676,qnx),
  (677,qtb),
  (678,qpz),
  (679,qnu),
  (680,qp6),
  (681,qtc),
  (682,qja),
  (683,qks),
  (684,qlu),
  (685,ql1),
  (686,qnq),
  (687,qtd),
  (688,ql0),
  (689,qp4)]
section
variable {S : AProg}
def WC (S:AProg)(n0:Nat)(c:AC)(E:Env)(H:Heap)(Q:AX->Env->Heap->Prop):Prop:=
 ∃x E1 H1,Ev S (.code n0 c E H) (.cd x E1 H1)/\Q x E1 H1
def WO (S:AProg)(n0:Nat)(d:Bool)(l:List AOper)(E:Env)(H:Heap)(Q:Env->Heap->Prop):Prop:=
 ∃E1 H1,Ev S (.ops n0 d l E H) (.cd .normal E1 H1)/\Q E1 H1
def CT (S:AProg)(g:Nat)(args:List V)(H:Heap)(Q:V->Heap->Prop):Prop:=
 ∃v H1,Ev S (.call g args H) (.ret v H1)/\Q v H1
def CQ (S:AProg)(g:Nat)(args:List V)(v:V):Prop:=∀H,Ev S (.call g args H) (.ret v H)
variable {n0 : Nat} {E : Env} {H : Heap} {Q : AX → Env → Heap → Prop} {R : Env → Heap → Prop} {d : Bool}
theorem WC.mono {c:AC}{Q':AX->Env->Heap->Prop}(h:WC S n0 c E H Q)(hq:∀x E H,Q x E H->Q' x E H):WC S n0 c E H Q':=
 let ⟨x,E1,H1,e,q⟩:=h;⟨x,E1,H1,e,hq _ _ _ q⟩
theorem WO.mono {l:List AOper}{R':Env->Heap->Prop}(h:WO S n0 d l E H R)(hq:∀E H,R E H->R' E H):WO S n0 d l E H R':=
 let ⟨E1,H1,e,q⟩:=h;⟨E1,H1,e,hq _ _ q⟩
theorem CT.mono {g:Nat}{args:List V}{Q Q':V->Heap->Prop}(h:CT S g args H Q)(hq:∀v H,Q v H->Q' v H):CT S g args H Q':=
 let ⟨v,H1,e,q⟩:=h;⟨v,H1,e,hq _ _ q⟩
theorem qaif (h:Q .normal E H):WC S n0 .skip E H Q:=⟨_,_,_,.skip,h⟩
theorem qaih {id:Nat}(h:Q (.exit id) E H):WC S n0 (.exit id) E H Q:=⟨_,_,_,.exit,h⟩
theorem qalj (h:Q .ret E H):WC S n0 .ret E H Q:=⟨_,_,_,.ret,h⟩
def AX.thn (K:Env->Heap->Prop)(Q:AX->Env->Heap->Prop):AX->Env->Heap->Prop
 | .normal,E,H=>K E H
 |x,E,H=>Q x E H
theorem qvr {a b:AC}(h:WC S n0 a E H (AX.thn (fun E H=>WC S n0 b E H Q) Q)):WC S n0 (.seq a b) E H Q:=by
 obtain⟨x,E1,H1,e,q⟩:=h;cases x with
 |normal=>obtain⟨y,E2,H2,e2,q2⟩:=q;exact⟨y,E2,H2,.seqN e e2,q2⟩
 |exit id=>exact⟨_,_,_,.seqX e (by simp),q⟩
 |ret=>exact⟨_,_,_,.seqX e (by simp),q⟩
theorem qaa3 {c:X}{a b:AC}{t:Bool}(hc:getX E c=.bool t)(h1:t=true->WC S n0 a E H Q)(h2:t=false->WC S n0 b E H Q):WC S n0 (.cond c a b) E H Q:=by
 cases t with
 |true=>obtain⟨x,E1,H1,e,q⟩:=h1 rfl;exact⟨x,E1,H1,.cond hc (by simpa using e),q⟩
 |false=>obtain⟨x,E1,H1,e,q⟩:=h2 rfl;exact⟨x,E1,H1,.cond hc (by simpa using e),q⟩
theorem qaie {c:X}{a b:AC}(hc:getX E c=.bool true)(h:WC S n0 a E H Q):WC S n0 (.cond c a b) E H Q:=qaa3 hc (fun _=>h) (by simp)
theorem qad4 {c:X}{a b:AC}(hc:getX E c=.bool false)(h:WC S n0 b E H Q):WC S n0 (.cond c a b) E H Q:=qaa3 hc (by simp) (fun _=>h)
theorem qad5 {id:Nat}{c:AC}(h:WC S n0 c E H (fun x E H=>Q (x.outOf id) E H)):WC S n0 (.block id c) E H Q:=by
 obtain⟨x,E1,H1,e,q⟩:=h;exact⟨_,_,_,.block e,q⟩
theorem qad3 {c:AC}(h:WC S n0 c E H Q):WC S n0 (.scope c) E H Q:=by
 obtain⟨x,E1,H1,e,q⟩:=h;exact⟨_,_,_,.scope e,q⟩
theorem qaa2 {l:List AOper}(h:WO S n0 d l E H (fun E H=>Q .normal E H)):WC S n0 (.region d l) E H Q:=by
 obtain⟨E1,H1,e,q⟩:=h;exact⟨_,_,_,.region e,q⟩
theorem qaig {c:AC}(I:Nat->Env->Heap->Prop)(k:Nat)(h0:I k E H)
 (round:∀k E H,I k E H->WC S n0 c E H (AX.thn (fun E1 H1=>∃j,j<k/\I j E1 H1) Q)):WC S n0 (.loop c) E H Q:=by
 induction k using Nat.strongRecOn generalizing E H with
 |_ k ih=>
  obtain⟨x,E1,H1,e,q⟩:=round k E H h0;cases x with
  |normal=>
   obtain⟨j,hj,hI⟩:=q;obtain⟨y,E2,H2,e2,q2⟩:=ih j hj hI;exact⟨y,E2,H2,.loopN e e2,q2⟩
  |exit id=>exact⟨_,_,_,.loopX e (by simp),q⟩
  |ret=>exact⟨_,_,_,.loopX e (by simp),q⟩
theorem qald (h:R E H):WO S n0 d [] E H R:=⟨_,_,.opNil,h⟩
def qaay (S:AProg)(n0:Nat)(d:Bool)(dst:Option Nat)(x:X)(xs:List X)(gu:Option (Nat × Bool))(sy:Bool)(l:List AOper)(E:Env)(H:Heap)(R:Env->Heap->Prop):Prop:=
 WO S n0 d (⟨dst,.call x xs,gu,sy⟩ :: l) E H R
def stepP (S:AProg)(n0:Nat)(d:Bool)(dst:Option Nat)(op:AOp)(gu:Option (Nat × Bool))(sy:Bool)(l:List AOper)(E:Env)(H:Heap)(R:Env->Heap->Prop):Prop:=
 match gd ⟨dst,op,gu,sy⟩ E with
 |some false=>WO S n0 d l (put E dst .undef) H R
 |some true=>
  match op with
  | .call x xs=>qaay S n0 d dst x xs none sy l E H R
  |op=>
   match stp n0 op E H with
   |some (v,H1)=>((d&&!sy)=true->H <+: H1)/\WO S n0 d l (put E dst v) H1 R
   |none=>False
 |none=>False
theorem qah8 {dst:Option Nat}{op:AOp}{gu:Option (Nat × Bool)}{sy:Bool}{l:List AOper}(h:stepP S n0 d dst op gu sy l E H R):WO S n0 d (⟨dst,op,gu,sy⟩ :: l) E H R:=by
 unfold stepP at h;split at h
 ·rename_i hg;obtain⟨E1,H1,e,q⟩:=h;exact⟨_,_,.opSkip hg e,q⟩
 ·rename_i hg;split at h
  ·obtain⟨E1,H1,e,q⟩:=h;refine⟨E1,H1,?_,q⟩;cases e with
   |opSkip hg' _=>simp[gd]at hg'
   |opDo _ hs _ _=>cases hs
   |opCall _ ho hx hp e1 hpre e2=>exact .opCall hg ho hx hp e1 hpre e2
  ·split at h
   ·rename_i v H1 hs;obtain⟨hp,E1,H2,e,q⟩:=h;exact⟨_,_,.opDo hg hs (fun hd hsy=>hp (by simp[hd];simpa using hsy)) e,q⟩
   ·exact h.elim
 ·exact h.elim
theorem qale {dst:Option Nat}{op:AOp}{gu:Option (Nat × Bool)}{sy:Bool}{l:List AOper}:WO S n0 d (⟨dst,op,gu,sy⟩ :: l) E H R↔stepP S n0 d dst op gu sy l E H R:=by
 refine⟨fun h=>?_,qah8⟩;obtain⟨E1,H1,e,q⟩:=h;unfold stepP;cases e with
 |opSkip hg e1=>rw[hg];exact⟨_,_,e1,q⟩
 |opDo hg hs hp e1=>
  rw[hg];cases op<;>first
   | (cases hs;done)
   | (simp only[]at hs ⊢;rw[hs];exact⟨fun h=>by simp at h;exact hp h.1 h.2,_,_,e1,q⟩)
 |opCall hg ho hx hp e1 hpre e2=>
  simp only[]at ho;subst ho;rw[hg];exact⟨_,_,.opCall rfl rfl hx hp e1 hpre e2,q⟩
theorem q6p : WO S n0 d [] E H R↔R E H:=by
 refine⟨fun h=>?_,qald⟩;obtain⟨E1,H1,e,q⟩:=h;cases e;exact q
theorem qtx {dst:Option Nat}{sy:Bool}{l:List AOper}{x:X}{args caps vs:List V}{xs:List X}{g:Nat}{H1:Heap}(hx:getX E x=.fn g caps)
 (ha:xs.map (getX E)++caps=args) (hp:prep S g H args=some (vs,H1))
 (h:CT S g vs H1 (fun v H2=>((d&&!sy)=true->H <+: H2)/\WO S n0 d l (put E dst v) H2 R)):qaay S n0 d dst x xs none sy l E H R:=by
 obtain⟨v,H2,e,hpre,E1,H3,e1,q⟩:=h;subst ha;exact⟨_,_,.opCall rfl rfl hx hp e (fun hd hsy=>hpre (by simp[hd];simpa using hsy)) e1,q⟩
theorem CQ.ct {g:Nat}{args:List V}{v:V}{Q:V->Heap->Prop}(h:CQ S g args v)(hq:Q v H):CT S g args H Q:=⟨_,_,h H,hq⟩
theorem CQ_of {g:Nat}{f:AFn}{args:List V}{v:V}(hf:S.fn g=some f)
 (h:∀H,WC S H.length f.body (E0 args) H (fun x E1 H1=>(x=.normal\/x=.ret)/\∃v0,resV E1 H1 f.results=some v0/\fin f.own H.length H1 v0=some (v,H))):CQ S g args v:=by
 intro H;obtain⟨x,E1,H1,e,hx,v0,hr,hfin⟩:=h H;exact .call hf e hx hr hfin
theorem CT_of {g:Nat}{f:AFn}{args:List V}{Q:V->Heap->Prop}(hf:S.fn g=some f)
 (h:WC S H.length f.body (E0 args) H (fun x E1 H1=>(x=.normal\/x=.ret)/\∃v0 v H2,resV E1 H1 f.results=some v0/\fin f.own H.length H1 v0=some (v,H2)/\Q v H2)):CT S g args H Q:=by
 obtain⟨x,E1,H1,e,hx,v0,v,H2,hr,hfin,hq⟩:=h;exact⟨_,_,.call hf e hx hr hfin,hq⟩
theorem qalq {g:Nat}{pre post:List V}{v:V}(h1:CQ S g (pre++.nil :: post) v)(h2:CQ S g (pre++.emp :: post) v):CQ S g (pre++.sl [] :: post) v:=fun H=>.emp (h1 H) (h2 H)
end
theorem qxv (E:Env)(d:Nat)(v:V)(i:Nat):upd E d v i=if i=d then v else E i:=rfl
theorem wrap_i64 {n:Int}(h1:-9223372036854775808<=n)(h2:n<9223372036854775808):IntKind.wrap .i64 n=n:=by
 simp[IntKind.wrap,IntKind.bits,IntKind.signed];split<;>omega
theorem qabp {n:Int}(h1:0<=n)(h2:n<4294967296):IntKind.wrap .u32 n=n:=by
 simp only[IntKind.wrap,IntKind.bits,IntKind.signed];simp;omega
theorem qbd {n:Int}(h1:0<=n)(h2:n<18446744073709551616):IntKind.wrap .u64 n=n:=by
 simp only[IntKind.wrap,IntKind.bits,IntKind.signed];simp;omega
end Go.Abs
namespace Go.Abs
def prog : AProg:=⟨look fnList,fun _ _=>none⟩
def qbq (z bytes:Nat)(x y:V)(H:Heap):Option (V × Heap):=
 (elems H y).bind fun ys=>
  if qcc z ys=true then
   match x with
   | .nil=>
    if ys=[]then some (.nil,H)
    else if qaz ys.length bytes=true then some (.ref H.length z 0 ys.length,H++[some ⟨z,ys,true,true⟩])else none
   | .ref b z' off len=>
    match H[b]? with
    |some (some k)=>
     if k.arr=true/\k.wr=true/\k.z=z/\z'=z/\off+len<=k.el.length/\qaz (len+ys.length) bytes=true then
      if ys=[]then some (.ref b z' off len,H)
      else some (.ref H.length z 0 (len+ys.length),H.set b none++[some ⟨z,(k.el.drop off).take len++ys,true,true⟩])
     else none
    |_=>none
   |_=>none
  else none
theorem q5f {n0 z bytes:Nat}{x y:X}{E:Env}{H:Heap}:stp n0 (.append z bytes x y) E H=qbq z bytes (getX E x) (getX E y) H:=rfl
theorem qajd {n0:Nat}{E:Env}{H:Heap}{x:X}:stp n0 (.mv x) E H=(some (getX E x,H)):=rfl
theorem qab0 {n0:Nat}{E:Env}{H:Heap}{c a b:X}:stp n0 (.pick c a b) E H =
 match getX E c with
 | .bool t=>some (if t then getX E a else getX E b,H)
 |_=>none:=rfl
theorem qaf8 {n0:Nat}{E:Env}{H:Heap}{z:Nat}{x:X}:stp n0 (.box z x) E H =
 if(getX E x).cells.length=z/\(getX E x).isTup=false then some (.ptr H.length 0 0,H++[some ⟨z,[getX E x],false,true⟩])else none:=rfl
theorem qaf4 {n0:Nat}{E:Env}{H:Heap}{z:Nat}{v:V}:stp n0 (.new z v) E H=(if v.cells.length=z/\v.pure=true then some (.ptr H.length 0 0,H++[some ⟨z,[v],false,true⟩])else none):=rfl
theorem q7m {n0:Nat}{E:Env}{H:Heap}{zero:List V}{parts:List (Nat × Nat × X)}:stp n0 (.build zero parts) E H =
 if zero.all V.cellPure=true then(fillC zero (parts.map fun p=>(p.1,p.2.1,getX E p.2.2))).map fun cs=>(.agg cs,H)else none:=rfl
theorem q5e {n0:Nat}{E:Env}{H:Heap}{z len:Nat}{zero:V}{parts:List (Nat × X)}:stp n0 (.bslice z len zero parts) E H =
 if zero.cells.length=z/\zero.pure=true then
  (qce H (parts.map fun p=>getX E p.2)).bind fun(vs,H1)=>
   (fillE z (List.replicate len zero) ((parts.map (·.1)).zip vs)).map fun el=>(.ref H1.length z 0 len,H1++[some ⟨z,el,true,true⟩])
 else none:=rfl
theorem qabz {n0:Nat}{E:Env}{H:Heap}{z len:Nat}{zero:V}{parts:List (Nat × X)}:stp n0 (.plit z len zero parts) E H =
 if zero.cells.length=z/\zero.pure=true then
  (qce [] (parts.map fun p=>getX E p.2)).bind fun q=>
   (fillE z (List.replicate len zero) ((parts.map (·.1)).zip q.1)).bind fun el=>if 0+len<=el.length then some (.sl ((el.drop 0).take len),H)else none
 else none:=rfl
theorem qab3 {n0:Nat}{E:Env}{H:Heap}{ag:Bool}{z:Nat}{x:X}:stp n0 (.load ag z x) E H =
 match getX E x with
 | .eptr cs=>(wrapC ag z cs).map fun v=>(v,H)
 | .ptr b i off=>
  match H[b]? with
  |some (some k)=>
   match k.el[i]? with
   |some e=>(wrapC ag z (e.cells.drop off)).map fun v=>(v,H)
   |none=>none
  |_=>none
 |_=>none:=rfl
theorem q7f {n0:Nat}{E:Env}{H:Heap}{z:Nat}{a x:X}:stp n0 (.store z a x) E H=(qjq n0 z (getX E a) (getX E x) H):=rfl
theorem q7g {n0:Nat}{E:Env}{H:Heap}{ag:Bool}{z t:Nat}:stp n0 (.sload ag z t) E H =
 match E t with
 | .eptr cs=>(wrapC ag z cs).map fun v=>(v,H)
 | .ptr b i off=>
  match H[b]? with
  |some (some k)=>
   match k.el[i]? with
   |some e=>(wrapC ag z (e.cells.drop off)).bind fun v=>if v.cells.all (V.lowB H.length)=true/\v.isTup=false then some (v,H)else none
   |none=>none
  |_=>none
 |_=>none:=rfl
theorem q5c {n0:Nat}{E:Env}{H:Heap}{z:Nat}{a x:X}{av:List Nat}:stp n0 (.storeN z a x av) E H=(if(getX E x).pure=true/\(av.all fun t=>apart (E t) (getX E a))=true then qjq n0 z (getX E a) (getX E x) H else none):=rfl
theorem qaf9 {n0:Nat}{E:Env}{H:Heap}{bk:BK}{op:BinOp}{x y:X}:stp n0 (.bin bk op x y) E H=((binV bk op (getX E x) (getX E y)).map fun v=>(v,H)):=rfl
theorem qajc {n0:Nat}{E:Env}{H:Heap}{op:UnOp}{x:X}:stp n0 (.un op x) E H=((unV op (getX E x)).map fun v=>(v,H)):=rfl
theorem qab6 {n0:Nat}{E:Env}{H:Heap}{k:IntKind}{x:X}:stp n0 (.conv k x) E H =
 match getX E x with
 | .int _ n=>some (.int k (k.wrap n),H)
 |_=>none:=rfl
theorem qab1 {n0:Nat}{E:Env}{H:Heap}{g:Nat}{caps:List X}:stp n0 (.mkfn g caps) E H=(if(caps.map (getX E)).all V.isCell=true then some (.fn g (caps.map (getX E)),H)else none):=rfl
theorem q02 {n0:Nat}{E:Env}{H:Heap}{z bytes:Nat}{zero:V}{l c:X}:stp n0 (.mkslice z bytes zero l c) E H =
 match natOf (getX E l),natOf (getX E c)with
 |some l,some c=>
  if l<=c/\c*bytes<=281474976710656/\c<=9223372036854775807/\zero.cells.length=z/\zero.pure=true then
   some (.ref H.length z 0 l,H++[some ⟨z,List.replicate c zero,true,true⟩])
  else none
 |_,_=>none:=rfl
theorem q04 {n0 z bytes:Nat}{zero:V}{x n:X}{E:Env}{H:Heap}:stp n0 (.appendZ z bytes zero x n) E H =
 match getX E x,natOf (getX E n)with
 | .nil,some m=>
  if 0<m/\m*bytes<=140737488355328/\m<=9223372036854775807/\zero.cells.length=z/\zero.pure=true then some (.ref H.length z 0 m,H++[some ⟨z,List.replicate m zero,true,true⟩])else none
 |_,_=>none:=rfl
theorem q7h {n0:Nat}{E:Env}{H:Heap}{z:Nat}{x:X}{lo hi mx:Option X}:stp n0 (.slice z x lo hi mx) E H =
 match getX E x with
 | .nil=>
  match qbi E 0 lo,qbi E 0 hi,qbi E 0 mx with
  |some 0,some 0,some 0=>some (.nil,H)
  |_,_,_=>none
 | .sl l=>
  match qbi E 0 lo,qbi E l.length hi,qbi E l.length mx with
  |some lo,some hi,some mx=>
   if lo<=hi/\hi<=mx/\mx<=l.length/\(lo=0\/qcc z ((l.take hi).drop lo)=true)then some (.sl ((l.take hi).drop lo),H)else none
  |_,_,_=>none
 | .ref b z' off len=>
  match qbi E 0 lo,qbi E len hi,mx with
  |some lo,some hi,none=>if lo<=hi/\hi<=len/\z'=z then some (.ref b z' (off+lo) (hi-lo),H)else none
  |_,_,_=>none
 |_=>none:=rfl
theorem q7l {n0:Nat}{E:Env}{H:Heap}{off:Nat}{x:X}:stp n0 (.faddr off x) E H =
 match getX E x with
 | .ptr b i o=>some (.ptr b i (o+off),H)
 | .eptr cs=>some (.eptr (cs.drop off),H)
 |_=>none:=rfl
theorem q7k {n0:Nat}{E:Env}{H:Heap}{ag:Bool}{off z:Nat}{x:X}:stp n0 (.field ag off z x) E H =
 match getX E x with
 | .agg cs=>(wrapC ag z (cs.drop off)).map fun v=>(v,H)
 |_=>none:=rfl
theorem q7j {n0:Nat}{E:Env}{H:Heap}{z:Nat}{x i:X}:stp n0 (.iaddr z x i) E H =
 match getX E x,natOf (getX E i)with
 | .sl l,some i=>
  match l[i]? with
  |some e=>if e.cells.length=z then some (.eptr e.cells,H)else none
  |none=>none
 | .ref b z' off len,some i=>if i<len/\z'=z then some (.ptr b (off+i) 0,H)else none
 |_,_=>none:=rfl
theorem q5g {n0:Nat}{E:Env}{H:Heap}{n z:Nat}{x i:X}:stp n0 (.aiaddr n z x i) E H =
 match getX E x,natOf (getX E i)with
 | .ptr b j off,some i=>if i<n then some (.ptr b j (off+i*z),H)else none
 | .eptr cs,some i=>if i<n then some (.eptr (cs.drop (i*z)),H)else none
 |_,_=>none:=rfl
theorem q7i {n0:Nat}{E:Env}{H:Heap}{ag:Bool}{n z:Nat}{x i:X}:stp n0 (.index ag n z x i) E H =
 match getX E x,natOf (getX E i)with
 | .agg cs,some i=>if i<n then(wrapC ag z (cs.drop (i*z))).map fun v=>(v,H)else none
 |_,_=>none:=rfl
theorem q5d {n0:Nat}{E:Env}{H:Heap}{x i:X}:stp n0 (.sindex x i) E H =
 match getX E x,natOf (getX E i)with
 | .str s,some i=>
  match s[i]? with
  |some b=>some (.int .u8 b.toNat,H)
  |none=>none
 |_,_=>none:=rfl
theorem q03 {n0:Nat}{E:Env}{H:Heap}{i:Nat}{x:X}:stp n0 (.extract i x) E H =
 match getX E x with
 | .tup vs=>(vs[i]?).map fun v=>(v,H)
 |_=>none:=rfl
theorem qaf7 {n0:Nat}{E:Env}{H:Heap}{x:X}:stp n0 (.len x) E H =
 match getX E x with
 | .sl l=>some (.int .i64 l.length,H)
 | .nil=>some (.int .i64 0,H)
 | .emp=>some (.int .i64 0,H)
 | .ref _ _ _ len=>some (.int .i64 len,H)
 |_=>none:=rfl
theorem qab4 {n0:Nat}{E:Env}{H:Heap}{n:Nat}{x:X}:stp n0 (.lenc n x) E H=(some (.int .i64 n,H)):=rfl
theorem qab7 {n0:Nat}{E:Env}{H:Heap}{x:X}:stp n0 (.capn x) E H =
 match getX E x with
 | .nil=>some (.int .i64 0,H)
 |_=>none:=rfl
theorem qab5 {n0:Nat}{E:Env}{H:Heap}{z:Nat}{x y:X}:stp n0 (.copy z x y) E H =
 match getX E x with
 | .ref b z' off len=>
  (elems H (getX E y)).bind fun ys=>
   match H[b]? with
   |some (some k)=>
    if k.arr=true/\k.wr=true/\k.z=z/\z'=z/\qcc z ys=true/\off+len<=k.el.length then
     some (.int .i64 (Nat.min ys.length len),H.set b (some { k with el:=qcq k.el off (ys.take len) }))
    else none
   |_=>none
 |_=>none:=rfl
theorem qaf5 {n0:Nat}{E:Env}{H:Heap}{x y:X}:stp n0 (.min x y) E H =
 match getX E x,getX E y with
 | .int k a,.int k' b=>if k=k' then some (.int k (if b<a then b else a),H)else none
 |_,_=>none:=rfl
theorem qaf6 {n0:Nat}{E:Env}{H:Heap}{x y:X}:stp n0 (.max x y) E H =
 match getX E x,getX E y with
 | .int k a,.int k' b=>if k=k' then some (.int k (if a<b then b else a),H)else none
 |_,_=>none:=rfl
theorem qab2 {n0:Nat}{E:Env}{H:Heap}{x y z:X}:stp n0 (.max3 x y z) E H =
 match getX E x,getX E y,getX E z with
 | .int k a,.int k' b,.int k'' c=>if k=k'/\k=k'' then some (.int k (if(if a<b then b else a)<c then c else if a<b then b else a),H)else none
 |_,_,_=>none:=rfl
attribute [simp] qab2 q5f qajd qab0 qaf8 qaf4 q7m q5e qabz qab3 q7f q7g q5c qaf9 qajc qab6 qab1 q02 q04 q7h q7l q7k q7j q5g q7i q5d q03 qaf7 qab4 qab7 qab5 qaf5 qaf6
inductive Fr where
 |seq (b:AC)
 |blk (id:Nat)
section
variable {S : AProg} {n0 : Nat} {Q : AX → Env → Heap → Prop}
def WP (S:AProg)(n0:Nat)(Q:AX->Env->Heap->Prop):List Fr->AX->Env->Heap->Prop
 | [],x,E,H=>Q x E H
 | .seq b :: K,.normal,E,H=>WC S n0 b E H (fun x E H=>WP S n0 Q K x E H)
 | .seq _ :: K,x,E,H=>WP S n0 Q K x E H
 | .blk id :: K,x,E,H=>WP S n0 Q K (x.outOf id) E H
def WK (S:AProg)(n0:Nat)(c:AC)(K:List Fr)(E:Env)(H:Heap)(Q:AX->Env->Heap->Prop):Prop:=WC S n0 c E H (fun x E H=>WP S n0 Q K x E H)
def WL (S:AProg)(n0:Nat)(d:Bool)(l:List AOper)(K:List Fr)(E:Env)(H:Heap)(Q:AX->Env->Heap->Prop):Prop:=WO S n0 d l E H (fun E H=>WP S n0 Q K .normal E H)
theorem qkz {c:AC}{E:Env}{H:Heap}(h:WK S n0 c [] E H Q):WC S n0 c E H Q:=h
theorem qalc {x:AX}{E:Env}{H:Heap}:WP S n0 Q [] x E H↔Q x E H:=Iff.rfl
theorem qalb {b:AC}{K:List Fr}{E:Env}{H:Heap}:WP S n0 Q (.seq b :: K) .normal E H↔WK S n0 b K E H Q:=Iff.rfl
theorem q2o {b:AC}{K:List Fr}{id:Nat}{E:Env}{H:Heap}:WP S n0 Q (.seq b :: K) (.exit id) E H↔WP S n0 Q K (.exit id) E H:=Iff.rfl
theorem q6o {b:AC}{K:List Fr}{E:Env}{H:Heap}:WP S n0 Q (.seq b :: K) .ret E H↔WP S n0 Q K .ret E H:=Iff.rfl
theorem WP_blk {id:Nat}{K:List Fr}{x:AX}{E:Env}{H:Heap}:WP S n0 Q (.blk id :: K) x E H↔WP S n0 Q K (x.outOf id) E H:=by cases x<;>exact Iff.rfl
theorem qjd {c:AC}{E:Env}{H:Heap}{Q':AX->Env->Heap->Prop}(h:WC S n0 c E H Q)(hq:∀x E H,Q x E H->Q' x E H):WC S n0 c E H Q':=by
 obtain⟨x,E1,H1,e,q⟩:=h;exact⟨x,E1,H1,e,hq _ _ _ q⟩
theorem q6r {a b:AC}{K:List Fr}{E:Env}{H:Heap}:WK S n0 (.seq a b) K E H Q↔WK S n0 a (.seq b :: K) E H Q:=by
 constructor
 ·rintro⟨x,E1,H1,e,q⟩;cases e with
  |seqN e1 e2=>exact⟨.normal,_,_,e1,_,_,_,e2,q⟩
  |seqX e1 hx=>
   refine⟨x,E1,H1,e1,?_⟩;cases x with
   |normal=>exact absurd rfl hx
   |exit id=>exact q
   |ret=>exact q
 ·intro h;refine qvr (qjd h fun x E1 H1 q=>?_);cases x with
  |normal=>exact q
  |exit id=>exact q
  |ret=>exact q
theorem qky {x:X}{a b:AC}{K:List Fr}{E:Env}{H:Heap}:WK S n0 (.cond x a b) K E H Q↔match getX E x with| .bool true=>WK S n0 a K E H Q| .bool false=>WK S n0 b K E H Q|_=>False:=by
 constructor
 ·rintro⟨y,E1,H1,e,q⟩;cases e with
  | @cond _ _ _ _ _ _ t _ hc e1=>
   rw[hc];cases t with
   |true=>exact⟨_,_,_,by simpa using e1,q⟩
   |false=>exact⟨_,_,_,by simpa using e1,q⟩
 ·intro h;split at h
  ·rename_i hc;exact qaie hc h
  ·rename_i hc;exact qad4 hc h
  ·exact h.elim
theorem q0q {id:Nat}{c:AC}{K:List Fr}{E:Env}{H:Heap}:WK S n0 (.block id c) K E H Q↔WK S n0 c (.blk id :: K) E H Q:=by
 constructor
 ·rintro⟨y,E1,H1,e,q⟩;cases e with
  |block e1=>exact⟨_,_,_,e1,WP_blk.2 q⟩
 ·intro h;exact qad5 (qjd h fun x E1 H1 q=>WP_blk.1 q)
theorem q0p {c:AC}{K:List Fr}{E:Env}{H:Heap}:WK S n0 (.scope c) K E H Q↔WK S n0 c K E H Q:=by
 constructor
 ·rintro⟨y,E1,H1,e,q⟩;cases e with
  |scope e1=>exact⟨_,_,_,e1,q⟩
 ·intro h;exact qad3 h
theorem qxi {d:Bool}{l:List AOper}{K:List Fr}{E:Env}{H:Heap}:WK S n0 (.region d l) K E H Q↔WL S n0 d l K E H Q:=by
 constructor
 ·rintro⟨y,E1,H1,e,q⟩;cases e with
  |region e1=>exact⟨_,_,e1,q⟩
 ·intro h;exact qaa2 h
theorem q2p {K:List Fr}{E:Env}{H:Heap}:WK S n0 .skip K E H Q↔WP S n0 Q K .normal E H:=⟨by rintro⟨y,E1,H1,e,q⟩;cases e;exact q,qaif⟩
theorem q2q {id:Nat}{K:List Fr}{E:Env}{H:Heap}:WK S n0 (.exit id) K E H Q↔WP S n0 Q K (.exit id) E H:=⟨by rintro⟨y,E1,H1,e,q⟩;cases e;exact q,qaih⟩
theorem q6s {K:List Fr}{E:Env}{H:Heap}:WK S n0 .ret K E H Q↔WP S n0 Q K .ret E H:=⟨by rintro⟨y,E1,H1,e,q⟩;cases e;exact q,qalj⟩
theorem q6q {d:Bool}{K:List Fr}{E:Env}{H:Heap}:WL S n0 d [] K E H Q↔WP S n0 Q K .normal E H:=q6p
def qty (S:AProg)(n0:Nat)(d:Bool)(dst:Option Nat)(x:X)(xs:List X)(sy:Bool)(l:List AOper)(K:List Fr)(E:Env)(H:Heap)(Q:AX->Env->Heap->Prop):Prop:=
 qaay S n0 d dst x xs none sy l E H (fun E H=>WP S n0 Q K .normal E H)
def stepL (S:AProg)(n0:Nat)(d:Bool)(dst:Option Nat)(op:AOp)(gu:Option (Nat × Bool))(sy:Bool)(l:List AOper)(K:List Fr)(E:Env)(H:Heap)(Q:AX->Env->Heap->Prop):Prop:=
 match gd ⟨dst,op,gu,sy⟩ E with
 |some false=>WL S n0 d l K (put E dst .undef) H Q
 |some true=>
  match op with
  | .call x xs=>qty S n0 d dst x xs sy l K E H Q
  |op=>
   match stp n0 op E H with
   |some (v,H1)=>((d&&!sy)=true->H <+: H1)/\WL S n0 d l K (put E dst v) H1 Q
   |none=>False
 |none=>False
theorem qh3 {d:Bool}{dst:Option Nat}{op:AOp}{gu:Option (Nat × Bool)}{sy:Bool}{l:List AOper}{K:List Fr}{E:Env}{H:Heap}:WL S n0 d (⟨dst,op,gu,sy⟩ :: l) K E H Q↔stepL S n0 d dst op gu sy l K E H Q:=qale
theorem qab {d:Bool}{dst:Option Nat}{sy:Bool}{l:List AOper}{K:List Fr}{E:Env}{H:Heap}{x:X}{args caps vs:List V}{xs:List X}{g:Nat}{v:V}(hx:getX E x=.fn g caps)
 (ha:xs.map (getX E)++caps=args) (hp:prep S g H args=some (vs,H)) (h:CQ S g vs v) (k:WL S n0 d l K (put E dst v) H Q):qty S n0 d dst x xs sy l K E H Q:=
 qtx hx ha hp (h.ct ⟨fun _=>List.prefix_refl H,k⟩)
theorem zq {d:Bool}{dst:Option Nat}{sy:Bool}{l:List AOper}{K:List Fr}{E:Env}{H:Heap}{x:X}{args caps vs:List V}{xs:List X}{g:Nat}{v:V}(h:CQ S g vs v) (k:WL S n0 d l K (put E dst v) H Q)(hx:getX E x=.fn g caps:=by exact rfl)(ha:xs.map (getX E)++caps=args:=by exact rfl)(hp:prep S g H args=some (vs,H):=by exact rfl):qty S n0 d dst x xs sy l K E H Q:=qab hx ha hp h k
theorem qb6 {d:Bool}{dst:Option Nat}{sy:Bool}{l:List AOper}{K:List Fr}{E:Env}{H H1:Heap}{x:X}{args caps vs:List V}{xs:List X}{g:Nat}(hx:getX E x=.fn g caps)
 (ha:xs.map (getX E)++caps=args) (hp:prep S g H args=some (vs,H1)) (h:CT S g vs H1 (fun v H2=>((d&&!sy)=true->H <+: H2)/\WL S n0 d l K (put E dst v) H2 Q)):qty S n0 d dst x xs sy l K E H Q:=
 qtx hx ha hp h
theorem qbu {c:AC}{K:List Fr}{E:Env}{H:Heap}(I:Nat->Env->Heap->Prop)(k:Nat)(h0:I k E H)
 (round:∀k E H,I k E H->WC S n0 c E H (AX.thn (fun E1 H1=>∃j,j<k/\I j E1 H1) (fun x E H=>WP S n0 Q K x E H))):WK S n0 (.loop c) K E H Q:=qaig I k h0 round
theorem qa1 {c:AC}{E:Env}{H:Heap}{J:Env->Heap->Prop}{R:AX->Env->Heap->Prop}(h:WK S n0 c [] E H (AX.thn J R)):WC S n0 c E H (AX.thn J R):=h
theorem q5a {J:Env->Heap->Prop}{R:AX->Env->Heap->Prop}{E:Env}{H:Heap}:AX.thn J R .normal E H↔J E H:=Iff.rfl
theorem qaby {J:Env->Heap->Prop}{R:AX->Env->Heap->Prop}{id:Nat}{E:Env}{H:Heap}:AX.thn J R (.exit id) E H↔R (.exit id) E H:=Iff.rfl
theorem qafz {J:Env->Heap->Prop}{R:AX->Env->Heap->Prop}{E:Env}{H:Heap}:AX.thn J R .ret E H↔R .ret E H:=Iff.rfl
theorem qaf {g:Nat}{f:AFn}{args:List V}{v:V}(hf:S.fn g=some f)
 (h:∀H,WK S H.length f.body [] (E0 args) H (fun x E1 H1=>(x=.normal\/x=.ret)/\∃v0,resV E1 H1 f.results=some v0/\fin f.own H.length H1 v0=some (v,H))):CQ S g args v:=CQ_of hf h
end
theorem qakk {n:Nat}{H:Heap}{l:List V}:fin false n H (.sl l)=some (.sl l,H.take n):=rfl
theorem qahh {n:Nat}{H:Heap}{k:IntKind}{i:Int}:fin false n H (.int k i)=some (.int k i,H.take n):=rfl
theorem qac6 {n:Nat}{H:Heap}{b:Bool}:fin false n H (.bool b)=some (.bool b,H.take n):=rfl
@[simp] theorem qait {cs:List V}:(V.agg cs).cells=cs:=rfl
@[simp] theorem qaft {b:Bool}:(V.bool b).cells=[.bool b]:=rfl
@[simp] theorem qais {k:IntKind}{n:Int}:(V.int k n).cells=[.int k n]:=rfl
@[simp] theorem qai5 {l:List V}:(V.sl l).cells=[.sl l]:=rfl
@[simp] theorem qair : V.nil.cells=[.nil]:=rfl
@[simp] theorem qaip {b z off len:Nat}:(V.ref b z off len).cells=[.ref b z off len]:=rfl
@[simp] theorem qaiq {b i off:Nat}:(V.ptr b i off).cells=[.ptr b i off]:=rfl
@[simp] theorem qai6 {g:Nat}{cs:List V}:(V.fn g cs).cells=[.fn g cs]:=rfl
@[simp] theorem qalw {cs:List V}:(V.agg cs).isTup=false:=rfl
@[simp] theorem qai4 {b:Bool}:(V.bool b).isTup=false:=rfl
@[simp] theorem qalv {k:IntKind}{n:Int}:(V.int k n).isTup=false:=rfl
@[simp] theorem qama {l:List V}:(V.sl l).isTup=false:=rfl
@[simp] theorem qalu : V.nil.isTup=false:=rfl
@[simp] theorem qals {b z off len:Nat}:(V.ref b z off len).isTup=false:=rfl
@[simp] theorem qalt {b i off:Nat}:(V.ptr b i off).isTup=false:=rfl
@[simp] theorem qamb {g:Nat}{cs:List V}:(V.fn g cs).isTup=false:=rfl
attribute [simp] qakk qahh qac6 qalc qalb q2o q6o WP_blk q6r q0q q0p qxi q2p q2q q6s q6q q5a qaby qafz
attribute [simp] getX put qxv E0 AX.outOf binV sameI binI unV natOf qbi qjq wrapC V.isNil resV resVs resV1
end Go.Abs
namespace Go.Abs
section
variable {S : AProg} {n0 : Nat} {Q : AX → Env → Heap → Prop}
def WKc (S:AProg)(n0:Nat)(v:V)(a b:AC)(K:List Fr)(E:Env)(H:Heap)(Q:AX->Env->Heap->Prop):Prop:=
 match v with
 | .bool true=>WK S n0 a K E H Q
 | .bool false=>WK S n0 b K E H Q
 |_=>False
theorem qad2 {t:Bool}{a b:AC}{K:List Fr}{E:Env}{H:Heap}:WKc S n0 (.bool t) a b K E H Q↔(t=true->WK S n0 a K E H Q)/\(t=false->WK S n0 b K E H Q):=by cases t<;>simp[WKc]
theorem qad1 {a b:AC}{K:List Fr}{E:Env}{H:Heap}:WKc S n0 (.bool true) a b K E H Q↔WK S n0 a K E H Q:=Iff.rfl
theorem qaa0 {a b:AC}{K:List Fr}{E:Env}{H:Heap}:WKc S n0 (.bool false) a b K E H Q↔WK S n0 b K E H Q:=Iff.rfl
theorem qaa1 {x:X}{a b:AC}{K:List Fr}{E:Env}{H:Heap}:WK S n0 (.cond x a b) K E H Q↔WKc S n0 (getX E x) a b K E H Q:=by
 rw[qky];unfold WKc;split<;>simp_all
def stepN (S:AProg)(n0:Nat)(d:Bool)(dst:Option Nat)(op:AOp)(sy:Bool)(l:List AOper)(K:List Fr)(E:Env)(H:Heap)(Q:AX->Env->Heap->Prop):Prop:=
 match op with
 | .call x xs=>qty S n0 d dst x xs sy l K E H Q
 |op=>
  match stp n0 op E H with
  |some (v,H1)=>((d&&!sy)=true->H <+: H1)/\WL S n0 d l K (put E dst v) H1 Q
  |none=>False
theorem qaib {d:Bool}{dst:Option Nat}{op:AOp}{sy:Bool}{l:List AOper}{K:List Fr}{E:Env}{H:Heap} :
 WL S n0 d (⟨dst,op,none,sy⟩ :: l) K E H Q↔stepN S n0 d dst op sy l K E H Q:=qh3
theorem qabu {E:Env}{t:Nat}{v:V}(h:E t=v):upd E t v=E:=by
 funext i;unfold upd;split
 ·rename_i e;rw[e,h]
 ·rfl
def WLg (S:AProg)(n0:Nat)(v:V)(t:Nat)(want d:Bool)(dst:Option Nat)(op:AOp)(sy:Bool)(l:List AOper)(K:List Fr)(E:Env)(H:Heap)(Q:AX->Env->Heap->Prop):Prop:=
 match v with
 | .bool b=>if b=want then stepN S n0 d dst op sy l K (upd E t (.bool b)) H Q else WL S n0 d l K (put (upd E t (.bool b)) dst .undef) H Q
 | .tup _=>WL S n0 d l K (put E dst .undef) H Q
 |_=>False
theorem qaia {d:Bool}{dst:Option Nat}{op:AOp}{sy:Bool}{l:List AOper}{K:List Fr}{E:Env}{H:Heap}{t:Nat}{want:Bool} :
 WL S n0 d (⟨dst,op,some (t,want),sy⟩ :: l) K E H Q↔WLg S n0 (E t) t want d dst op sy l K E H Q:=by
 rw[qh3];unfold stepL WLg gd;simp only;cases hv:E t with
 |bool b=>cases b<;>cases want<;>(simp only[qabu hv];exact Iff.rfl)
 |tup vs=>exact Iff.rfl
 |_=>exact Iff.rfl
variable {t : Nat} {d : Bool} {dst : Option Nat} {op : AOp} {sy : Bool} {l : List AOper} {K : List Fr} {E : Env} {H : Heap}
theorem WLg_t {b:Bool}:WLg S n0 (.bool b) t true d dst op sy l K E H Q↔(b=true->stepN S n0 d dst op sy l K (upd E t (.bool true)) H Q)/\(b=false->WL S n0 d l K (put (upd E t (.bool false)) dst .undef) H Q):=by
 cases b<;>simp[WLg]
theorem WLg_f {b:Bool}:WLg S n0 (.bool b) t false d dst op sy l K E H Q↔(b=true->WL S n0 d l K (put (upd E t (.bool true)) dst .undef) H Q)/\(b=false->stepN S n0 d dst op sy l K (upd E t (.bool false)) H Q):=by
 cases b<;>simp[WLg]
theorem qalf : WLg S n0 (.bool true) t true d dst op sy l K E H Q↔stepN S n0 d dst op sy l K (upd E t (.bool true)) H Q:=Iff.rfl
theorem qalh : WLg S n0 (.bool false) t true d dst op sy l K E H Q↔WL S n0 d l K (put (upd E t (.bool false)) dst .undef) H Q:=Iff.rfl
theorem qalg : WLg S n0 (.bool true) t false d dst op sy l K E H Q↔WL S n0 d l K (put (upd E t (.bool true)) dst .undef) H Q:=Iff.rfl
theorem qali : WLg S n0 (.bool false) t false d dst op sy l K E H Q↔stepN S n0 d dst op sy l K (upd E t (.bool false)) H Q:=Iff.rfl
theorem qah9 {want:Bool}{vs:List V}:WLg S n0 (.tup vs) t want d dst op sy l K E H Q↔WL S n0 d l K (put E dst .undef) H Q:=Iff.rfl
theorem qaaz {want:Bool}:WLg S n0 .undef t want d dst op sy l K E H Q↔WL S n0 d l K (put E dst .undef) H Q:=Iff.rfl
end
theorem WK_up {S:AProg}{n0:Nat}{Q:AX->Env->Heap->Prop}{c:AC}{K:List Fr}{E:Env}{H:Heap}(I:Nat->Env->Heap->Prop)(n:Nat)(h0:I 0 E H)
 (round:∀i E H,i<=n->I i E H->WK S n0 c [] E H (AX.thn (fun E1 H1=>i<n/\I (i+1) E1 H1) (fun x E H=>WP S n0 Q K x E H))):WK S n0 (.loop c) K E H Q:=by
 refine qbu (fun k E H=>∃i,i+k=n/\I i E H) n ⟨0,by omega,h0⟩ ?_;rintro k E H ⟨i,hi,h⟩;refine qjd (round i E H (by omega) h) ?_;intro x E1 H1 hx;cases x with
 |normal=>exact⟨k-1,by have:=hx.1;omega,i+1,by have:=hx.1;omega,hx.2⟩
 |exit id=>exact hx
 |ret=>exact hx
theorem q3w {α:Type}(H l:List α)(k:Nat):(H++l)[H.length+k]?=l[k]?:=by
 rw[List.getElem?_append_right (by omega)];congr 1;omega
theorem q9a {α:Type}(H l:List α):(H++l)[H.length]?=l[0]?:=q3w H l 0
theorem q7w {α:Type}(H l:List α)(k:Nat)(v:α):(H++l).set (H.length+k) v=H++l.set k v:=by
 rw[List.set_append_right _ _ (by omega)];congr 2;omega
theorem qacb {α:Type}(H l:List α)(v:α):(H++l).set H.length v=H++l.set 0 v:=q7w H l 0 v
attribute [simp low] qad2 WLg_t WLg_f
attribute [simp] qaa1 qad1 qaa0 stepN qaib qaia qalf qalh qalg qali qah9 qaaz q3w q9a q7w qacb
end Go.Abs
