import Derived.Test.YtblicjipogbhmaaGreatDoorFa
import Derived.Test.YtblicjipogbhmaaGreatDoorF0
namespace Go.Abs
@[simp] def ID : AFn:=nG [.cell 4 true 7] (nS (nF [oU 2 7 0,oL 4]) (nS (nS (nF [oI 9 7 2,oP 10 (.bslice 7 1 (.agg nI) [(0,.t 9)]),aq 11 106 10,oW 12 11,mV 13 12,oE 14 13 1,dN 15 13 186 14,gF 16 13 (nU 15),oX 17 13 16]) (nC 17 (nR [dn 18 107,oK 7 4 18 false]) .skip)) (nS (nF [oQ 20 0 2,oI 21 3 20,mV 22 1,aG 23 199 21 22,mV 19 23,oR 24 0 19,oR 25 1 19,oM 5,oK 3 5 24 false,mV 6 25]) (nS (nF [oQ 27 3 2,oI 28 3 27,mV 29 1,
 aG 30 200 28 29,mV 26 30,oR 31 0 26,oR 32 1 26,oM 7,oK 3 7 31 false,mV 8 32]) (nR [oI 33 3 5,mV 34 6,oI 35 3 7,mV 36 8,kt 37 189 33 34 35 36,oK 7 4 37 false])))))
@[simp] def IC : AFn:=nG [.cell 2 true 7] (nS (nF [oU 1 3 0,oL 2]) (nS (nS (nF [oI 3 3 1,aq 4 51 3,oW 5 4]) (nC 5 (nR [dn 6 107,oK 7 2 6 false]) .skip)) (nR [oI 7 3 1,oI 8 3 1,oP 9 (.build nI [(0,3,.t 7),(3,3,.t 8)]),oK 7 2 9 false])))
@[simp] def Hq : AFn:=nG [.cell 2 true 7] (nS (nF [oU 1 3 0,oL 2]) (nR [oI 3 3 1,oI 4 3 1,oP 5 (.build nI [(0,3,.t 3),(3,3,.t 4)]),oK 7 2 5 false]))
def vc : AC:=(nS (nS (nF [mV 31 9,oO 32 .lss 31 4]) (nC 32 .skip (.exit 0))) (nS (.block 1 (nS (nT [mV 36 7,mV 37 9,oV 38 6 36 37,oP 39 (.aiaddr 2 3 (.t 38) (.c (.int .i64 0))),oI 40 3 39,mV 41 7,mV 42 9,oV 43 6 41 42,oP 44 (.aiaddr 2 3 (.t 43) (.c (.int .i64 1))),oI 45 3 44,mV 46 2,oP 47 (.call (.f 203) [.t 40,.t 45,.t 46,.c (.bool false)]),mV 35 47,oR 48 0 35,oR 49 1 35,oM 10,oK 3 10 48 true,mV 11 49]) (nS (nT [mV 51 7,mV 52 9,oV 53 6 51 52,oP 54 (.aiaddr 2 3 (.t 53) (.c (.int .i64 0))),oI 55 3 54,mV 56 7,mV 57 9,oV 58 6 56 57,oP 59 (.aiaddr 2 3 (.t 58) (.c (.int .i64 1))),
 oI 60 3 59,mV 61 2,oP 62 (.call (.f 203) [.t 55,.t 60,.t 61,.c (.bool true)]),mV 50 62,oR 63 0 50,oR 64 1 50,oM 12,oK 3 12 63 true,mV 13 64]) (nS (nS (nF [mV 65 11,oO 66 .neq 65 0,mV 67 66,oE 68 67 13,gF 69 67 (nX .neq 68 0),oX 70 67 69]) (nC 70 (nR [dn 71 109,oK 7 6 71 false]) .skip)) (nS (nS (nF [mV 72 9,oO 73 .eql 72 0]) (nC 73 (nF [oI 74 3 10,oI 75 3 12,oP 76 (.build nI [(0,3,.t 74),(3,3,.t 75)]),
 oK 7 8 76 false]) .skip)) (nT [oQ 77 0 8,oI 78 3 77,oI 79 3 10,aG 80 93 78 79,oQ 81 3 8,oI 82 3 81,oI 83 3 12,eO 84 92 82 83,oP 85 (.build nI [(0,3,.t 80),(3,3,.t 84)]),oK 7 8 85 true])))))) (nF [mV 33 9,oO 34 .add 33 1,mV 9 34])))
@[simp] def E6 : AFn:=nG [.cell 6 true 7] (nS (nF [oU 3 7 0,oU 4 7 1,oL 6]) (nS (nS (nF [mV 14 2,aq 15 195 14,oW 16 15,mV 17 16,oG 18 17 true 7 3,dN 19 17 108 18,gF 20 17 (nU 19),oX 21 17 20,mV 22 21,oG 23 22 true 7 4,dN 24 22 108 23,gF 25 22 (nU 24),oX 26 22 25]) (nC 26 (nR [dn 27 109,oK 7 6 27 false]) .skip)) (nS (nF [oI 28 7 3,oI 29 7 4,aG 30 202 28 29,mV 7 30]) (nS (nF [oL 8]) (nS (nS (nF [oP 9 (nV 0)]) (.block 0 (.loop vc))) (nR [oI 86 7 8,
 oK 7 6 86 false]))))))
@[simp] def H5 : AFn:=nG [.cell 4 true 7] (nS (nF [oU 2 7 0,oL 4]) (nS (nF [oI 6 7 2,aq 7 157 6,oL 5,oK 7 5 7 false]) (nR [oI 8 7 5,oI 9 7 5,mV 10 1,bu 11 154 8 9 10,oK 7 4 11 false])))
@[simp] def GA : AFn:=nG [.cell 2 true 7] (nS (nF [oU 1 7 0,oL 2]) (nS (nS (nF [oI 7 7 1,oP 8 (.bslice 7 1 (.agg nI) [(0,.t 7)]),aq 9 106 8,oW 10 9]) (nC 10 (nR [dn 11 107,oK 7 2 11 false]) .skip)) (nS (nF [oI 13 7 1,aq 14 165 13,mV 12 14,oR 15 0 12,oR 16 1 12,oM 3,oK 3 3 15 false,mV 4 16]) (nS (nF [oI 18 7 1,aq 19 164 18,mV 17 19,oR 20 0 17,oR 21 1 17,oM 5,oK 3 5 20 false,mV 6 21]) (nR [oI 22 3 3,oI 23 3 5,oP 24 (.build nI [(0,3,.t 22),(3,3,.t 23)]),
 oK 7 2 24 false])))))
@[simp] def FC : AFn:=nG [.cell 2 true 7] (nS (nF [oU 1 7 0,oL 2]) (nS (nS (nF [oI 3 7 1,aq 4 108 3,oW 5 4]) (nC 5 (nR [dn 6 109,oK 7 2 6 false]) .skip)) (nS (nT [oI 7 7 1,aq 8 167 7,oI 9 7 1,ij 10 166 9,oP 11 (.build nI [(0,3,.t 8),(3,3,.t 10)]),oK 7 2 11 true]) .ret)))
@[simp] def IE : AFn:=nG [.cell 4 true 7] (nS (nF [oU 2 7 0,oL 4]) (nS (nS (nF [oI 9 7 2,oP 10 (.bslice 7 1 (.agg nI) [(0,.t 9)]),aq 11 106 10,oW 12 11]) (nC 12 (nR [dn 13 107,oK 7 4 13 false]) .skip)) (nS (nF [oQ 15 0 2,oI 16 3 15,mV 17 1,aG 18 204 16 17,mV 14 18,oR 19 0 14,oR 20 1 14,oM 5,oK 3 5 19 false,mV 6 20]) (nS (nF [oQ 22 3 2,oI 23 3 22,mV 24 1,aG 25 204 23 24,mV 21 25,oR 26 0 21,oR 27 1 21,oM 7,oK 3 7 26 false,mV 8 27]) (nR [oI 28 3 5,
 mV 29 6,oI 30 3 7,mV 31 8,kt 32 189 28 29 30 31,oK 7 4 32 false])))))
@[simp] def Hr : AFn:=nG [.cell 4 true 7] (nS (nF [oU 2 7 0,oL 4]) (nS (nS (nF [oI 9 7 2,aq 10 108 9,oW 11 10,mV 12 11,oE 13 12 1,gF 14 12 (nX .lss 13 (-32768)),oX 15 12 14,mV 16 15,oE 17 16 1,gF 18 16 (nX .gtr 17 32768),oX 19 16 18]) (nC 19 (nR [dn 20 109,oK 7 4 20 false]) .skip)) (nS (nF [oQ 22 0 2,oI 23 3 22,mV 24 1,aG 25 182 23 24,mV 21 25,oR 26 0 21,oR 27 1 21,oM 5,oK 3 5 26 false,mV 6 27]) (nS (nF [oQ 29 3 2,oI 30 3 29,mV 31 1,aG 32 182 30 31,
 mV 28 32,oR 33 0 28,oR 34 1 28,oM 7,oK 3 7 33 false,mV 8 34]) (nR [oI 35 3 5,mV 36 6,oI 37 3 7,mV 38 8,kt 39 197 35 36 37 38,oK 7 4 39 false])))))
@[simp] def Ii : AFn:=nG [.cell 4 true 3,.tmp 5] (nS (nF [oU 2 7 0,oM 4,oZ 5 false]) (nS (nS (nF [oI 8 7 2,oP 9 (.bslice 7 1 (.agg nI) [(0,.t 8)]),aq 10 106 9,oW 11 10,mV 12 11,oE 13 12 1,dN 14 12 186 13,gF 15 12 (nU 14),oX 16 12 15]) (nC 16 (nR [oP 17 (.build nD []),oK 3 4 17 false,oZ 5 false]) .skip)) (nS (nT [oQ 19 3 2,oI 20 3 19,oQ 21 0 2,oI 22 3 21,aq 23 198 22,mV 24 1,bu 25 188 20 23 24,mV 18 25,
 oR 26 0 18,oR 27 1 18,oM 6,oK 3 6 26 true,mV 7 27]) (nR [oI 28 3 6,mV 29 7,oO 30 .eql 29 0,oK 3 4 28 false,mV 5 30]))))
@[simp] def Hv : AFn:=nG [.cell 4 true 3,.tmp 5] (nS (nF [oU 2 7 0,oM 4,oZ 5 false]) (nS (nS (nF [mV 8 1,aq 9 195 8,oW 10 9,mV 11 10,oG 12 11 true 7 2,dN 13 11 108 12,gF 14 11 (nU 13),oX 15 11 14]) (nC 15 (nR [oP 16 (.build nD []),oK 3 4 16 false,oZ 5 false]) .skip)) (nS (nT [oQ 18 3 2,oI 19 3 18,oQ 20 0 2,oI 21 3 20,aq 22 57 21,mV 23 1,oP 24 (.call (.f 196) [.t 19,.t 22,.t 23,.c (.bool true)]),mV 17 24,oR 25 0 17,oR 26 1 17,oM 6,oK 3 6 25 true,mV 7 26]) (nS (nS (nF [mV 27 7,
 oO 28 .neq 27 0]) (nC 28 (nR [oP 29 (.build nD []),oK 3 4 29 false,oZ 5 false]) .skip)) (nR [oI 30 3 6,oK 3 4 30 false,oZ 5 true])))))
@[simp] def E4 : AFn:=nG [.cell 4 true 3] (nS (nF [oU 2 7 0,oM 4]) (nS (nS (nF [mV 9 1,aq 10 195 9,oW 11 10,mV 12 11,oG 13 12 true 7 2,dN 14 12 108 13,gF 15 12 (nU 14),oX 16 12 15]) (nC 16 (nR [oP 17 (.build nD []),oK 3 4 17 false]) .skip)) (nS (nF [oQ 19 0 2,oI 20 3 19,oQ 21 3 2,oI 22 3 21,mV 23 1,oP 24 (.call (.f 196) [.t 20,.t 22,.t 23,.c (.bool false)]),mV 18 24,oR 25 0 18,oR 26 1 18,oM 5,oK 3 5 25 false,mV 6 26]) (nS (nF [oI 28 3 5,oP 29 (.call (.f 182) [.t 28,.c (.int .i64 (-1))]),
 mV 27 29,oR 30 0 27,oR 31 1 27,oM 7,oK 3 7 30 false,mV 8 31]) (nS (nS (nF [mV 32 6,oO 33 .neq 32 0,mV 34 33,oE 35 34 8,gF 36 34 (nX .neq 35 0),oX 37 34 36,mV 38 37,oG 39 38 true 7 2,oG 40 38 true 3 7,BG 41 38 169 39 40,gF 42 38 (nU 41),oX 43 38 42]) (nC 43 (nR [oQ 44 0 2,oI 45 3 44,oK 3 4 45 false]) .skip)) (nR [oI 46 3 7,oK 3 4 46 false]))))))
@[simp] def GD : AFn:=nG [.cell 2 true 3,.tmp 3] (nS (nF [oU 1 7 0,oM 2,oZ 3 false]) (nS (nS (nF [oI 4 7 1,oP 5 (.bslice 7 1 (.agg nI) [(0,.t 4)]),aq 6 106 5,oW 7 6]) (nC 7 (nR [oP 8 (.build nD []),oK 3 2 8 false,oZ 3 false]) .skip)) (nS (nT [oQ 9 0 1,oI 10 3 9,aq 11 205 10,oQ 12 3 1,oI 13 3 12,ij 14 205 13,eO 15 104 11 14,oK 3 2 15 true,oZ 3 true]) .ret)))
@[simp] def GE : AFn:=nG [.cell 2 true 3,.tmp 3] (nS (nF [oU 1 7 0,oM 2,oZ 3 false]) (nS (nS (nF [oI 4 7 1,oP 5 (.bslice 7 1 (.agg nI) [(0,.t 4)]),aq 6 106 5,oW 7 6]) (nC 7 (nR [oP 8 (.build nD []),oK 3 2 8 false,oZ 3 false]) .skip)) (nS (nS (nF [oI 9 7 1,aq 10 173 9,oO 11 .eql 10 0]) (nC 11 (nR [oP 12 (.build nD []),oK 3 2 12 false,oZ 3 true]) .skip)) (nS (nT [oQ 13 0 1,
 oI 14 3 13,aq 15 205 14,oQ 16 3 1,oI 17 3 16,ij 18 205 17,eO 19 105 15 18,oK 3 2 19 true,oZ 3 true]) .ret))))
@[simp] def FG : AFn:=nG [.cell 2 true 3] (nS (nF [oU 1 7 0,oM 2]) (nS (nT [oQ 3 0 1,oI 4 3 3,aq 5 57 4,oQ 6 3 1,oI 7 3 6,eO 8 92 5 7,oK 3 2 8 true]) .ret))
@[simp] def E5 : AFn:=nG [.cell 2 true 3] (nS (nF [oU 1 7 0,oM 2]) (nS (nS (nF [oI 3 7 1,aq 4 174 3,oO 5 .eql 4 0]) (nC 5 (nR [oP 6 (.build nD []),oK 3 2 6 false]) .skip)) (nS (nT [oQ 7 0 1,oI 8 3 7,oQ 9 3 1,oI 10 3 9,aq 11 57 10,eO 12 92 8 11,oK 3 2 12 true]) .ret)))
@[simp] def FF : AFn:=nG [.tmp 4] (nS (nF [oU 2 7 0,oU 3 3 1,oZ 4 false]) (nS (nS (nF [oI 5 7 2,aq 6 70 5,oW 7 6,mV 8 7,oG 9 8 true 3 3,dN 10 8 12 9,gF 11 8 (nU 10),oX 12 8 11]) (nC 12 (nR [oZ 4 false]) .skip)) (nR [oQ 13 6 2,oJ 14 13,mV 15 14,gF 16 15 (nA 0 2),oG 17 15 true 3 16,oG 18 15 true 3 3,BG 19 15 18 17 18,gF 20 15 (nX .leq 19 0),oE 21 15 20,oH 22 21 true 3 3,gT 23 21 (nA 3 2),oH 24 21 true 3 23,p6 25 21 18 22 24,gT 26 21 (nX .leq 25 0),
 gF 27 15 (.pick (.t 21) (.t 26) (.c (.bool false))),oX 28 15 27,mV 4 28])))
@[simp] def Hb : AFn:=nG [.tmp 2] (nS (nF [oU 1 7 0,oP 2 (nV 0)]) (nS (.block 0 (nS (nF [oI 4 7 1,oP 5 (.bslice 7 1 (.agg nI) [(0,.t 4)]),aq 6 106 5,oW 7 6,mV 3 7]) (nC 3 (nR [oP 2 (nV 0)]) (nS (nF [oQ 9 0 1,oI 10 3 9,aq 11 79 10,oO 12 .gtr 11 0,mV 8 12]) (nC 8 (nR [oP 2 (nV 1)]) (nS (nF [oQ 14 3 1,oI 15 3 14,aq 16 79 15,oO 17 .lss 16 0,mV 13 17]) (nC 13 (nR [oP 2 (nV (-1))]) .skip))))))) (nR [oP 2 (nV 0)])))
@[simp] def F9 : AFn:=nG [.tmp 2] (nS (nF [oU 1 7 0,oP 2 (nV 0)]) (nS (nS (nF [oI 3 7 1,aq 4 108 3,oW 5 4]) (nC 5 (nR [oP 2 (nV 0)]) .skip)) (nS (nS (nF [oQ 6 0 1,oI 7 3 6,aq 8 54 7,oO 9 .gtr 8 0]) (nC 9 (nR [oP 2 (nV 1)]) .skip)) (nS (nS (nF [oQ 10 3 1,oI 11 3 10,aq 12 54 11,oO 13 .lss 12 0]) (nC 13 (nR [oP 2 (nV (-1))]) .skip)) (nR [oP 2 (nV 0)])))))
def vb : AC:=(nS (nS (nF [mV 36 9,oO 37 .lss 36 4]) (nC 37 .skip (.exit 0))) (nS (.block 1 (nS (nT [mV 41 7,mV 42 9,oV 43 6 41 42,oP 44 (.aiaddr 2 3 (.t 43) (.c (.int .i64 0))),oI 45 3 44,mV 46 7,mV 47 9,oV 48 6 46 47,oP 49 (.aiaddr 2 3 (.t 48) (.c (.int .i64 1))),oI 50 3 49,mV 51 2,oP 52 (.call (.f 206) [.t 45,.t 50,.t 51,.c (.bool false)]),mV 40 52,oR 53 0 40,oR 54 1 40,oM 10,oK 3 10 53 true,mV 11 54]) (nS (nT [mV 56 7,mV 57 9,oV 58 6 56 57,oP 59 (.aiaddr 2 3 (.t 58) (.c (.int .i64 0))),oI 60 3 59,mV 61 7,mV 62 9,oV 63 6 61 62,oP 64 (.aiaddr 2 3 (.t 63) (.c (.int .i64 1))),
 oI 65 3 64,mV 66 2,oP 67 (.call (.f 206) [.t 60,.t 65,.t 66,.c (.bool true)]),mV 55 67,oR 68 0 55,oR 69 1 55,oM 12,oK 3 12 68 true,mV 13 69]) (nS (nS (nF [mV 70 11,oO 71 .neq 70 0,mV 72 71,oE 73 72 13,gF 74 72 (nX .neq 73 0),oX 75 72 74]) (nC 75 (nR [dn 76 109,oK 7 6 76 false]) .skip)) (nS (nS (nF [mV 77 9,oO 78 .eql 77 0]) (nC 78 (nF [oI 79 3 10,oI 80 3 12,oP 81 (.build nI [(0,3,.t 79),(3,3,.t 80)]),
 oK 7 8 81 false]) .skip)) (nT [oQ 82 0 8,oI 83 3 82,oI 84 3 10,aG 85 93 83 84,oQ 86 3 8,oI 87 3 86,oI 88 3 12,eO 89 92 87 88,oP 90 (.build nI [(0,3,.t 85),(3,3,.t 89)]),oK 7 8 90 true])))))) (nF [mV 38 9,oO 39 .add 38 1,mV 9 39])))
@[simp] def FE : AFn:=nG [.cell 6 true 7] (nS (nF [oU 3 7 0,oU 4 7 1,oL 6]) (nS (nS (nF [mV 14 2,aq 15 195 14,oW 16 15,mV 17 16,oG 18 17 true 7 3,dN 19 17 108 18,gF 20 17 (nU 19),oX 21 17 20,mV 22 21,oG 23 22 true 7 4,dN 24 22 108 23,gF 25 22 (nU 24),oX 26 22 25,mV 27 26,oG 28 27 true 7 4,dN 29 27 174 28,gF 30 27 (nX .eql 29 0),oX 31 27 30]) (nC 31 (nR [dn 32 109,oK 7 6 32 false]) .skip)) (nS (nF [oI 33 7 3,oI 34 7 4,aG 35 202 33 34,mV 7 35]) (nS (nF [oL 8]) (nS (nS (nF [oP 9 (nV 0)]) (.block 0 (.loop vb))) (nR [oI 91 7 8,
 oK 7 6 91 false]))))))
@[simp] def Hd : AFn:=nG [.cell 4 true 7] (nS (nF [oU 2 7 0,oL 4]) (nS (nS (nF [oI 9 7 2,oP 10 (.bslice 7 1 (.agg nI) [(0,.t 9)]),aq 11 106 10,oW 12 11,mV 13 12,oE 14 13 1,dN 15 13 186 14,gF 16 13 (nU 15),oX 17 13 16,mV 18 17,gF 19 18 (nA 0 2),oG 20 18 true 3 19,dN 21 18 79 20,gF 22 18 (nX .leq 21 0),oX 23 18 22]) (nC 23 (nR [dn 24 107,oK 7 4 24 false]) .skip)) (nS (nF [oQ 26 0 2,oI 27 3 26,
 mV 28 1,aG 29 207 27 28,mV 25 29,oR 30 0 25,oR 31 1 25,oM 5,oK 3 5 30 false,mV 6 31]) (nS (nF [oQ 33 3 2,oI 34 3 33,mV 35 1,aG 36 208 34 35,mV 32 36,oR 37 0 32,oR 38 1 32,oM 7,oK 3 7 37 false,mV 8 38]) (nR [oI 39 3 5,mV 40 6,oI 41 3 7,mV 42 8,kt 43 189 39 40 41 42,oK 7 4 43 false])))))
@[simp] def GN : AFn:=nG [.cell 4 true 3,.tmp 5] (nS (nF [oU 2 3 0,oM 4,oP 5 (nV 0)]) (nS (nS (nF [oI 6 3 2,aq 7 12 6,oW 8 7,mV 9 8,oE 10 9 1,dN 11 9 214 10,gF 12 9 (nU 11),oX 13 9 12]) (nC 13 (nR [oP 14 (.build nD []),oK 3 4 14 false,oP 5 (nV 1)]) .skip)) (nR [oQ 15 0 2,oJ 16 15,oQ 17 1 2,oJ 18 17,oQ 19 2 2,oJ 20 19,mV 21 1,oN 22 .add 20 21,bu 23 85 16 18 22,aq 24 184 23,oR 25 0 24,oR 26 1 24,oK 3 4 25 false,mV 5 26])))
@[simp] def IY : AFn:=nG [.cell 2 true 3,.tmp 3] (nS (nF [oU 1 3 0,oM 2,oP 3 (nV 0)]) (nS (nS (nF [oI 4 3 1,aq 5 12 4,oW 6 5]) (nC 6 (nR [oP 7 (.build nD []),oK 3 2 7 false,oP 3 (nV 9)]) .skip)) (nR [oI 8 3 1,oK 3 2 8 false,oP 3 (nV 0)])))
@[simp] def IZ : AFn:=nG [.cell 4 true 3] (nS (nF [oU 2 3 0,oU 3 3 1,oM 4]) (nS (nT [oQ 5 0 2,oJ 6 5,oQ 7 0 3,oJ 8 7,oP 9 (.bin .bool .neq (.t 6) (.t 8)),oQ 10 1 2,oJ 11 10,oQ 12 1 3,oJ 13 12,aG 14 215 11 13,oQ 15 2 2,oJ 16 15,oQ 17 2 3,oJ 18 17,oN 19 .add 16 18,dO 20 85 9 14 19,oK 3 4 20 true]) .ret))
@[simp] def Ju : AFn:=nG [.tmp 2] (nS (nF [oZ 2 false]) (nR [mV 3 0,oO 4 .geq 3 8,mV 5 4,oF 6 5 0,gT 7 5 (nX .leq 6 512),oY 8 5 7,mV 2 8]))
@[simp] def HF : AFn:=nG [.cell 6 true 3,.tmp 7] (nS (nF [oU 3 3 0,oU 4 3 1,oM 6,oP 7 (nV 0)]) (nR [oI 8 3 3,oI 9 3 4,mV 10 2,oP 11 (.call (.f 216) [.t 8,.t 9,.t 10,.c (.bool false)]),oR 12 0 11,oR 13 1 11,oK 3 6 12 false,mV 7 13]))
@[simp] def FJ : AFn:=nG [.cell 6 true 3,.tmp 7] (nS (nF [oU 3 3 0,oU 4 3 1,oM 6,oP 7 (nV 0)]) (nR [oI 8 3 3,oI 9 3 4,mV 10 2,oP 11 (.call (.f 216) [.t 8,.t 9,.t 10,.c (.bool true)]),oR 12 0 11,oR 13 1 11,oK 3 6 12 false,mV 7 13]))
@[simp] def Hj : AFn:=nG [.cell 8 true 7] (nS (nF [oU 4 3 0,oU 6 3 2,oL 8]) (nS (nS (nF [mV 9 1,oO 10 .neq 9 0,mV 11 10,oE 12 11 3,gF 13 11 (nX .neq 12 0),oX 14 11 13]) (nC 14 (nR [dn 15 107,oK 7 8 15 false]) .skip)) (nR [oI 16 3 4,oI 17 3 6,oP 18 (.build nI [(0,3,.t 16),(3,3,.t 17)]),oK 7 8 18 false])))
def C9 : AC:=(nS (nF [oO 42 .lss 41 4]) (nS (nC 42 .skip (.exit 0)) (nS (.block 1 (nS (nF [mV 43 41,oP 44 (.index true 4 6 (.t 40) (.t 41)),oP 14 (.new 6 (.agg [.bool false,.nil,.int .i64 0,.bool false,.nil,.int .i64 0])),mV 13 43,oK 6 14 44 false]) (nS (nF [mV 46 3,oP 47 (.aiaddr 2 3 (.t 14) (.c (.int .i64 0))),oI 48 3 47,oP 49 (.aiaddr 2 3 (.t 14) (.c (.int .i64 1))),oI 50 3 49,mV 51 2,oP 52 (.call (.t 46) [.t 48,.t 50,.t 51]),mV 45 52,oR 53 0 45,oR 54 1 45,oM 15,oK 3 15 53 false,mV 16 54]) (nS (nF [mV 56 4,oP 57 (.aiaddr 2 3 (.t 14) (.c (.int .i64 0))),
 oI 58 3 57,oP 59 (.aiaddr 2 3 (.t 14) (.c (.int .i64 1))),oI 60 3 59,mV 61 2,oP 62 (.call (.t 56) [.t 58,.t 60,.t 61]),mV 55 62,oR 63 0 55,oR 64 1 55,oM 17,oK 3 17 63 false,mV 18 64]) (nS (nS (nF [mV 65 16,oO 66 .neq 65 0,mV 67 66,oE 68 67 18,gF 69 67 (nX .neq 68 0),oX 70 67 69]) (nC 70 (nR [dn 71 107,oK 7 10 71 false]) .skip)) (nS (nS (nF [mV 72 13,oO 73 .eql 72 0,mV 74 73,oG 75 74 true 3 15,gF 76 74 (nA 0 12),oG 77 74 true 3 76,BG 78 74 52 75 77,gF 79 74 (nX .lss 78 0),
 oX 80 74 79]) (nC 80 (nF [oI 81 3 15,oQ 82 0 12,oK 3 82 81 false]) .skip)) (nS (nF [mV 83 13,oO 84 .eql 83 0,mV 85 84,oG 86 85 true 3 17,gF 87 85 (nA 3 12),oG 88 85 true 3 87,BG 89 85 52 86 88,gF 90 85 (nX .gtr 89 0),oX 91 85 90]) (nC 91 (nF [oI 92 3 17,oQ 93 3 12,oK 3 93 92 false]) .skip)))))))) (nF [oO 94 .add 41 1,mV 41 94]))))
@[simp] def Hg : AFn:=nG [.cell 10 true 7] (nS (nF [oU 5 7 0,oU 6 7 1,oL 10]) (nS (nF [oQ 19 0 5,oI 20 3 19,oQ 21 0 6,oI 22 3 21,oP 23 (.build [.bool false,.nil,.int .i64 0,.bool false,.nil,.int .i64 0] [(0,3,.t 20),(3,3,.t 22)]),oQ 24 0 5,oI 25 3 24,oQ 26 3 6,oI 27 3 26,oP 28 (.build [.bool false,.nil,.int .i64 0,.bool false,.nil,.int .i64 0] [(0,3,.t 25),(3,3,.t 27)]),oQ 29 3 5,oI 30 3 29,oQ 31 0 6,oI 32 3 31,oP 33 (.build [.bool false,.nil,.int .i64 0,.bool false,.nil,.int .i64 0] [(0,3,.t 30),(3,3,.t 32)]),oQ 34 3 5,oI 35 3 34,
 oQ 36 3 6,oI 37 3 36,oP 38 (.build [.bool false,.nil,.int .i64 0,.bool false,.nil,.int .i64 0] [(0,3,.t 35),(3,3,.t 37)]),oP 39 (.build [.bool false,.nil,.int .i64 0,.bool false,.nil,.int .i64 0,.bool false,.nil,.int .i64 0,.bool false,.nil,.int .i64 0,.bool false,.nil,.int .i64 0,.bool false,.nil,.int .i64 0,.bool false,.nil,.int .i64 0,.bool false,.nil,.int .i64 0] [(0,6,.t 23),(6,6,.t 28),(12,6,.t 33),(18,6,.t 38)]),oP 11 (.new 24 (.agg [.bool false,.nil,.int .i64 0,.bool false,.nil,.int .i64 0,.bool false,.nil,.int .i64 0,.bool false,.nil,.int .i64 0,.bool false,.nil,.int .i64 0,.bool false,.nil,.int .i64 0,.bool false,.nil,.int .i64 0,.bool false,.nil,.int .i64 0])),
 oK 24 11 39 false]) (nS (nF [oL 12]) (nS (nS (nF [oI 40 24 11,oP 41 (nV 0)]) (.block 0 (.loop C9))) (nR [oI 95 7 12,oK 7 10 95 false])))))
@[simp] def HH : AFn:=nG [.cell 6 true 3,.tmp 7] (nS (nF [oU 3 3 0,oU 4 3 1,oM 6,oP 7 (nV 0)]) (nR [oI 8 3 3,oI 9 3 4,mV 10 2,oP 11 (.call (.f 217) [.t 8,.t 9,.t 10,.c (.bool false)]),oR 12 0 11,oR 13 1 11,oK 3 6 12 false,mV 7 13]))
@[simp] def FL : AFn:=nG [.cell 6 true 3,.tmp 7] (nS (nF [oU 3 3 0,oU 4 3 1,oM 6,oP 7 (nV 0)]) (nR [oI 8 3 3,oI 9 3 4,mV 10 2,oP 11 (.call (.f 217) [.t 8,.t 9,.t 10,.c (.bool true)]),oR 12 0 11,oR 13 1 11,oK 3 6 12 false,mV 7 13]))
@[simp] def HG : AFn:=nG [.cell 6 true 3,.tmp 7] (nS (nF [oU 3 3 0,oU 4 3 1,oM 6,oP 7 (nV 0)]) (nR [oI 8 3 3,oI 9 3 4,mV 10 2,oP 11 (.call (.f 218) [.t 8,.t 9,.t 10,.c (.bool false)]),oR 12 0 11,oR 13 1 11,oK 3 6 12 false,mV 7 13]))
@[simp] def FK : AFn:=nG [.cell 6 true 3,.tmp 7] (nS (nF [oU 3 3 0,oU 4 3 1,oM 6,oP 7 (nV 0)]) (nR [oI 8 3 3,oI 9 3 4,mV 10 2,oP 11 (.call (.f 218) [.t 8,.t 9,.t 10,.c (.bool true)]),oR 12 0 11,oR 13 1 11,oK 3 6 12 false,mV 7 13]))
@[simp] def F8 : AFn:=nG [.tmp 2] (nS (nF [oZ 2 false]) (nR [mV 3 0,oO 4 .geq 3 8,mV 5 4,oF 6 5 0,gT 7 5 (nX .leq 6 512),oY 8 5 7,mV 2 8]))
@[simp] def Fz : AFn:=nG [.cell 8 true 3,.tmp 9] (nS (nF [oU 4 3 0,oU 5 3 1,oM 8,oP 9 (nV 0)]) (nS (nF [oI 11 3 4,oI 12 3 5,mV 13 2,bu 14 219 11 12 13,mV 10 14]) (nS (nS (nF [mV 15 10,oO 16 .neq 15 0]) (nC 16 (nR [oP 17 (.build nD []),mV 18 10,oK 3 8 17 false,mV 9 18]) .skip)) (nR [oI 19 3 4,oI 20 3 5,aG 21 56 19 20,mV 22 2,mV 23 3,bu 24 220 21 22 23,oR 25 0 24,oR 26 1 24,oK 3 8 25 false,mV 9 26]))))
@[simp] def Gb : AFn:=nG [.cell 8 true 7] (nS (nF [oU 4 3 0,oU 6 3 2,oL 8]) (nS (nS (nF [mV 9 1,oO 10 .neq 9 0,mV 11 10,oE 12 11 3,gF 13 11 (nX .neq 12 0),oX 14 11 13]) (nC 14 (nR [dn 15 109,oK 7 8 15 false]) .skip)) (nR [oI 16 3 4,oI 17 3 6,oP 18 (.build nI [(0,3,.t 16),(3,3,.t 17)]),oK 7 8 18 false])))
@[simp] def Er : AFn:=nG [.cell 2 true 3] (nS (nF [oU 1 3 0,oM 2]) (nS (nS (nF [oI 3 3 1,aq 4 51 3,oW 5 4,mV 6 5,gF 7 6 (nA 1 1),oG 8 6 false 1 7,gF 9 6 (.len (.t 8)),gF 10 6 (nX .eql 9 0),oX 11 6 10]) (nC 11 (nR [oP 12 (.build nD []),oK 3 2 12 false]) .skip)) (nS (nT [oQ 13 0 1,oJ 14 13,oW 15 14,oQ 16 1 1,oJ 17 16,aq 18 221 17,oQ 19 2 1,oJ 20 19,oP 21 (.build nD [(0,1,.t 15),(1,1,.t 18),(2,1,.t 20)]),oK 3 2 21 true]) .ret)))
@[simp] def EE : AFn:=nG [.cell 4 true 3,.tmp 5] (nS (nF [oU 2 3 0,oM 4,oP 5 (nV 0)]) (nR [oI 6 3 2,mV 7 1,oP 8 (.call (.f 222) [.t 6,.t 7,.c (.bool false)]),oR 9 0 8,oR 10 1 8,oK 3 4 9 false,mV 5 10]))
@[simp] def D4 : AFn:=nG [.cell 4 true 3,.tmp 5] (nS (nF [oU 2 3 0,oM 4,oP 5 (nV 0)]) (nR [oI 6 3 2,mV 7 1,oP 8 (.call (.f 222) [.t 6,.t 7,.c (.bool true)]),oR 9 0 8,oR 10 1 8,oK 3 4 9 false,mV 5 10]))
@[simp] def Ga : AFn:=nG [.tmp 4] (nS (nF [oU 2 7 0,oU 3 7 1,oP 4 (.mv (.c .nil))]) (nR [oQ 5 0 2,oI 6 3 5,oQ 7 0 3,oI 8 3 7,oP 9 (.build [.bool false,.nil,.int .i64 0,.bool false,.nil,.int .i64 0] [(0,3,.t 6),(3,3,.t 8)]),oQ 10 0 2,oI 11 3 10,oQ 12 3 3,oI 13 3 12,oP 14 (.build [.bool false,.nil,.int .i64 0,.bool false,.nil,.int .i64 0] [(0,3,.t 11),(3,3,.t 13)]),oQ 15 3 2,oI 16 3 15,oQ 17 0 3,oI 18 3 17,oP 19 (.build [.bool false,.nil,.int .i64 0,.bool false,.nil,.int .i64 0] [(0,3,.t 16),(3,3,.t 18)]),oQ 20 3 2,oI 21 3 20,oQ 22 3 3,
 oI 23 3 22,oP 24 (.build [.bool false,.nil,.int .i64 0,.bool false,.nil,.int .i64 0] [(0,3,.t 21),(3,3,.t 23)]),oP 25 (.bslice 6 4 (.agg [.bool false,.nil,.int .i64 0,.bool false,.nil,.int .i64 0]) [(0,.t 9),(1,.t 14),(2,.t 19),(3,.t 24)]),mV 4 25]))
@[simp] def FB : AFn:=nG [.cell 8 true 3,.tmp 9] (nS (nF [oU 4 3 0,oU 5 3 1,oM 8,oP 9 (nV 0)]) (nS (nF [oI 11 3 4,oI 12 3 5,mV 13 2,bu 14 219 11 12 13,mV 10 14]) (nS (nS (nF [mV 15 10,oO 16 .neq 15 0]) (nC 16 (nR [oP 17 (.build nD []),mV 18 10,oK 3 8 17 false,mV 9 18]) .skip)) (nR [oI 19 3 4,oI 20 3 5,aG 21 185 19 20,mV 22 2,mV 23 3,bu 24 220 21 22 23,oR 25 0 24,oR 26 1 24,oK 3 8 25 false,mV 9 26]))))
@[simp] def FT : AFn:=nG [.cell 4 true 3,.tmp 5] (nS (nF [oU 2 3 0,oM 4,oP 5 (nV 0)]) (nS (nS (nF [oI 6 3 2,aq 7 51 6,oW 8 7,mV 9 8,oE 10 9 1,dN 11 9 223 10,gF 12 9 (nU 11),oX 13 9 12]) (nC 13 (nR [oP 14 (.build nD []),oK 3 4 14 false,oP 5 (nV 1)]) .skip)) (nR [oQ 15 0 2,oJ 16 15,oQ 17 1 2,oJ 18 17,oQ 19 2 2,oJ 20 19,mV 21 1,oN 22 .add 20 21,bu 23 225 16 18 22,aq 24 224 23,oR 25 0 24,oR 26 1 24,oK 3 4 25 false,mV 5 26])))
@[simp] def En : AFn:=nG [.cell 2 true 3] (nS (nF [oU 1 3 0,oM 2]) (nS (nS (nF [oI 3 3 1,aq 4 51 3,oW 5 4,mV 6 5,gF 7 6 (nA 1 1),oG 8 6 false 1 7,gF 9 6 (.len (.t 8)),gF 10 6 (nX .eql 9 0),oX 11 6 10]) (nC 11 (nR [oP 12 (.build nD []),oK 3 2 12 false]) .skip)) (nS (nT [oQ 13 1 1,oJ 14 13,aq 15 221 14,oQ 16 2 1,oJ 17 16,oP 18 (.build nD [(1,1,.t 15),(2,1,.t 17)]),oK 3 2 18 true]) .ret)))
@[simp] def FA : AFn:=nG [.cell 8 true 3,.tmp 9] (nS (nF [oU 4 3 0,oU 5 3 1,oM 8,oP 9 (nV 0)]) (nS (nF [oI 14 3 4,oI 15 3 5,mV 16 2,bu 17 219 14 15 16,mV 10 17]) (nS (nS (nF [mV 18 10,oO 19 .neq 18 0]) (nC 19 (nR [oP 20 (.build nD []),mV 21 10,oK 3 8 20 false,mV 9 21]) .skip)) (nS (nS (nF [oQ 22 1 5,oJ 23 22,oT 24 23,oO 25 .eql 24 0]) (nC 25 (nR [oP 26 (.build nD []),oK 3 8 26 false,oP 9 (nV 10)]) .skip)) (nS (nS (nF [oQ 27 1 4,
 oJ 28 27,oT 29 28,oO 30 .eql 29 0]) (nC 30 (nR [oP 31 (.build nD []),oK 3 8 31 false,oP 9 (nV 0)]) .skip)) (nS (nT [mV 32 2,oO 33 .add 32 2,oQ 34 1 5,oJ 35 34,aq 36 226 35,oN 37 .add 33 36,oQ 38 1 4,oJ 39 38,ij 40 226 39,oN 41 .sub 37 40,oP 42 (.max (.c (.int .i64 0)) (.t 41)),mV 11 42]) (nS (nT [oQ 44 1 4,oJ 45 44,mV 46 11,aG 47 228 45 46,oQ 48 1 5,oJ 49 48,eO 50 227 47 49,mV 43 50,oR 51 0 43,oR 52 1 43,mV 12 51,mV 13 52]) (nS (nT [oQ 53 0 4,oJ 54 53,oQ 55 0 5,oJ 56 55,oP 57 (.bin .bool .neq (.t 54) (.t 56)),
 mV 58 12,oQ 59 2 4,oJ 60 59,oQ 61 2 5,oJ 62 61,oN 63 .sub 60 62,mV 64 11,oN 65 .sub 63 64,mV 66 13,aq 67 226 66,oO 68 .gtr 67 0,mV 69 2,mV 70 3,oB6 71 229 57 58 65 68 69 70,oR 72 0 71,oR 73 1 71,oK 3 8 72 true,mV 9 73]) .ret))))))))
@[simp] def Iq : AFn:=nG [.cell 4 true 3,.tmp 5] (nS (nF [oU 2 3 0,oM 4,oP 5 (nV 0)]) (nR [oI 6 3 2,mV 7 1,oP 8 (.call (.f 230) [.t 6,.t 7,.c (.bool false)]),oR 9 0 8,oR 10 1 8,oK 3 4 9 false,mV 5 10]))
@[simp] def Gn : AFn:=nG [.cell 4 true 3,.tmp 5] (nS (nF [oU 2 3 0,oM 4,oP 5 (nV 0)]) (nR [oI 6 3 2,mV 7 1,oP 8 (.call (.f 230) [.t 6,.t 7,.c (.bool true)]),oR 9 0 8,oR 10 1 8,oK 3 4 9 false,mV 5 10]))
@[simp] def Ep : AFn:=nG [.cell 2 true 3] (nS (nF [oM 2]) (nS (nF [mV 4 0,oP 5 (.conv .u64 (.t 4)),mV 3 5]) (nS (nS (nF [mV 6 0,oO 7 .lss 6 0]) (nC 7 (nF [mV 8 3,oP 9 (.un .neg (.t 8)),mV 3 9]) .skip)) (nR [mV 10 0,oO 11 .lss 10 0,mV 12 3,oP 13 (.conv .u32 (.t 12)),mV 14 3,oP 15 (.bin .num .shr (.t 14) (.c (.int .u64 32))),oP 16 (.conv .u32 (.t 15)),oP 17 (.bslice 1 2 (.int .u32 0) [(0,.t 13),(1,.t 16)]),oP 18 (.call (.f 225) [.t 11,.t 17,.c (.int .i64 0)]),oK 3 2 18 false]))))
@[simp] def Jg : AFn:=nG [.tmp 2] (nS (nF [oZ 2 false]) (nR [mV 3 0,oP 4 (nX .geq 3 (-32768)),mV 5 4,oF 6 5 0,gT 7 5 (nX .leq 6 32768),oY 8 5 7,mV 2 8]))
def Jh : AC:=(nS (nS (nF [mV 25 8,mV 26 1,oT 27 26,oN 28 .lss 25 27]) (nC 28 .skip (.exit 2))) (nS (.block 3 (nS (nT [mV 31 0,mV 32 6,oV 33 1 31 32,oJ 34 33,oP 35 (.conv .u64 (.t 34)),mV 36 1,mV 37 8,oV 38 1 36 37,oJ 39 38,oP 40 (.conv .u64 (.t 39)),oN 41 .mul 35 40,mV 42 5,mV 43 6,mV 44 8,oN 45 .add 43 44,oV 46 1 42 45,oJ 47 46,oP 48 (.conv .u64 (.t 47)),oN 49 .add 41 48,mV 50 7,oN 51 .add 49 50,mV 9 51]) (nS (nF [mV 52 5,mV 53 6,mV 54 8,oN 55 .add 53 54,mV 56 9,oP 57 (.bin .num .and (.t 56) (.c (.int .u64 4294967295))),oP 58 (.conv .u32 (.t 57)),
 oV 59 1 52 55,oK 1 59 58 false]) (nF [mV 60 9,oP 61 (.bin .num .shr (.t 60) (.c (.int .u64 32))),mV 7 61])))) (nF [mV 29 8,oO 30 .add 29 1,mV 8 30])))
def Ji : AC:=(nS (nS (nF [mV 66 7,oP 67 (.bin .num .gtr (.t 66) (.c (.int .u64 0)))]) (nC 67 .skip (.exit 4))) (nS (.block 5 (nS (nF [mV 70 5,mV 71 10,oV 72 1 70 71,oJ 73 72,oP 74 (.conv .u64 (.t 73)),mV 75 7,oN 76 .add 74 75,mV 11 76]) (nS (nF [mV 77 5,mV 78 10,mV 79 11,oP 80 (.bin .num .and (.t 79) (.c (.int .u64 4294967295))),oP 81 (.conv .u32 (.t 80)),oV 82 1 77 78,oK 1 82 81 false]) (nF [mV 83 11,oP 84 (.bin .num .shr (.t 83) (.c (.int .u64 32))),mV 7 84])))) (nF [mV 68 10,oO 69 .add 68 1,mV 10 69])))
def Jj : AC:=(nS (nS (nF [mV 19 6,mV 20 0,oT 21 20,oN 22 .lss 19 21]) (nC 22 .skip (.exit 0))) (nS (.block 1 (nS (nF [oP 7 (.mv (.c (.int .u64 0)))]) (nS (nS (nF [oP 8 (nV 0)]) (.block 2 (.loop Jh))) (nS (nF [mV 62 6,mV 63 1,oT 64 63,oN 65 .add 62 64,mV 10 65]) (.block 4 (.loop Ji)))))) (nF [mV 23 6,oO 24 .add 23 1,mV 6 24])))
@[simp] def GR : AFn:=nG [.tmp 4] (nS (nF [oP 4 (.mv (.c .nil))]) (nS (nF [mV 12 0,oT 13 12,mV 14 1,oT 15 14,oN 16 .add 13 15,oO 17 .add 16 1,oP 18 (.mkslice 1 4 (.int .u32 0) (.t 17) (.t 17)),mV 5 18]) (nS (nS (nF [oP 6 (nV 0)]) (.block 0 (.loop Jj))) (nR [mV 85 5,aq 86 101 85,mV 4 86]))))
@[simp] def c_round_add : AFn:=nG [.cell 8 true 3,.tmp 9] (nS (nF [oU 4 3 0,oU 5 3 1,oM 8,oP 9 (nV 0)]) (nS (nS (nF [mV 13 2,oI 14 3 4,oI 15 3 5,oP 16 (.bslice 3 2 (.agg nD) [(0,.t 14),(1,.t 15)]),aG 17 235 13 16,mV 10 17]) (nS (nF [mV 18 10,oO 19 .neq 18 0]) (nC 19 (nR [oP 20 (.build nD []),mV 21 10,oK 3 8 20 false,mV 9 21]) .skip))) (nS (.block 0 (nS (nF [oQ 23 1 4,oJ 24 23,oT 25 24,oO 26 .eql 25 0,mV 22 26]) (nC 22 (nR [oI 27 3 5,
 mV 28 2,mV 29 3,bu 30 222 27 28 29,oR 31 0 30,oR 32 1 30,oK 3 8 31 false,mV 9 32]) (nS (nF [oQ 34 1 5,oJ 35 34,oT 36 35,oO 37 .eql 36 0,mV 33 37]) (nC 33 (nR [oI 38 3 4,mV 39 2,mV 40 3,bu 41 222 38 39 40,oR 42 0 41,oR 43 1 41,oK 3 8 42 false,mV 9 43]) .skip))))) (nS (nS (nT [oI 44 3 4,aq 45 98 44,oI 46 3 5,ij 47 98 46,oN 48 .lss 45 47]) (nC 48 (nF [oI 49 3 5,oI 50 3 4,oK 3 4 49 false,oK 3 5 50 false]) .skip)) (nS (nF [oI 52 3 4,oI 53 3 5,mV 54 2,bu 55 236 52 53 54,mV 51 55,oR 56 0 51,oR 57 1 51,
 oP 11 (.new 3 (.agg [.nil,.int .i64 0,.bool false])),oK 3 11 56 false,mV 12 57]) (nS (nS (nF [oQ 58 0 11,oJ 59 58,oT 60 59,oO 61 .eql 60 0,mV 62 61,gT 63 62 (nA 2 11),oH 64 62 false 1 63,gT 65 62 (nU 64),oY 66 62 65]) (nC 66 (nR [oP 67 (.build nD []),oK 3 8 67 false,oP 9 (nV 0)]) .skip)) (nR [oQ 68 0 4,oJ 69 68,mV 70 12,oP 71 (.bin .bool .neq (.t 69) (.t 70)),oI 72 3 11,mV 73 2,mV 74 3,kt 75 237 71 72 73 74,oR 76 0 75,oR 77 1 75,oK 3 8 76 false,mV 9 77])))))))
@[simp] def D9 : AFn:=nG [.cell 8 true 3,.tmp 9] (nS (nF [oU 4 3 0,oU 5 3 1,oM 8,oP 9 (nV 0)]) (nS (nS (nF [mV 13 2,oI 14 3 4,oI 15 3 5,oP 16 (.bslice 3 2 (.agg nD) [(0,.t 14),(1,.t 15)]),aG 17 235 13 16,mV 10 17]) (nS (nF [mV 18 10,oO 19 .neq 18 0]) (nC 19 (nR [oP 20 (.build nD []),mV 21 10,oK 3 8 20 false,mV 9 21]) .skip))) (nS (nS (nF [oQ 22 1 4,oJ 23 22,oT 24 23,oO 25 .eql 24 0,mV 26 25,gF 27 26 (nA 1 5),oG 28 26 false 1 27,
 gF 29 26 (.len (.t 28)),gF 30 26 (nX .eql 29 0),oX 31 26 30]) (nC 31 (nR [oP 32 (.build nD []),oK 3 8 32 false,oP 9 (nV 0)]) .skip)) (nS (nF [oQ 34 1 4,oJ 35 34,oQ 36 1 5,oJ 37 36,aG 38 238 35 37,mV 33 38,oR 39 0 33,oR 40 1 33,mV 11 39,mV 12 40]) (nR [oQ 41 0 4,oJ 42 41,oQ 43 0 5,oJ 44 43,oP 45 (.bin .bool .neq (.t 42) (.t 44)),mV 46 11,oQ 47 2 4,oJ 48 47,oQ 49 2 5,oJ 50 49,oN 51 .add 48 50,oP 52 (.build [.nil,.int .i64 0,.bool false] [(0,1,.t 46),(1,1,.t 51)]),
 mV 53 2,mV 54 3,kt 55 237 45 52 53 54,oR 56 0 55,oR 57 1 55,oK 3 8 56 false,mV 9 57])))))
@[simp] def D8 : AFn:=nG [.cell 8 true 3,.tmp 9] (nS (nF [oU 4 3 0,oU 5 3 1,oM 8,oP 9 (nV 0)]) (nS (nS (nF [mV 15 2,oI 16 3 4,oI 17 3 5,oP 18 (.bslice 3 2 (.agg nD) [(0,.t 16),(1,.t 17)]),aG 19 235 15 18,mV 10 19]) (nS (nF [mV 20 10,oO 21 .neq 20 0]) (nC 21 (nR [oP 22 (.build nD []),mV 23 10,oK 3 8 22 false,mV 9 23]) .skip))) (nS (.block 0 (nS (nF [oQ 25 1 5,oJ 26 25,oT 27 26,oO 28 .eql 27 0,mV 24 28]) (nC 24 (nR [oP 29 (.build nD []),
 oK 3 8 29 false,oP 9 (nV 10)]) (nS (nF [oQ 31 1 4,oJ 32 31,oT 33 32,oO 34 .eql 33 0,mV 30 34]) (nC 30 (nR [oP 35 (.build nD []),oK 3 8 35 false,oP 9 (nV 0)]) .skip))))) (nS (nT [mV 36 2,oO 37 .add 36 3,oI 38 3 5,aq 39 239 38,oN 40 .add 37 39,oI 41 3 4,ij 42 239 41,oN 43 .sub 40 42,oP 44 (.max (.c (.int .i64 0)) (.t 43)),mV 11 44]) (nS (nT [oQ 46 1 4,oJ 47 46,mV 48 11,aG 49 241 47 48,oQ 50 1 5,oJ 51 50,eO 52 240 49 51,mV 45 52,oR 53 0 45,oR 54 1 45,oR 55 2 45,
 mV 12 53,mV 13 54,mV 14 55]) (nS (nT [oQ 56 0 4,oJ 57 56,oQ 58 0 5,oJ 59 58,oP 60 (.bin .bool .neq (.t 57) (.t 59)),mV 61 12,oQ 62 2 4,oJ 63 62,mV 64 11,oN 65 .sub 63 64,oQ 66 2 5,oJ 67 66,oN 68 .sub 65 67,mV 69 13,aq 70 110 69,oO 71 .gtr 70 0,oP 72 (.build [.nil,.int .i64 0,.bool false] [(0,1,.t 61),(1,1,.t 68),(2,1,.t 71)]),mV 73 2,mV 74 3,oB4 75 237 60 72 73 74,oR 76 0 75,oR 77 1 75,oK 3 8 76 true,mV 9 77]) .ret))))))
@[simp] def Hn : AFn:=nG [.tmp 6] (nS (nF [oU 3 3 0,oU 4 3 1,oP 6 (nV 0)]) (nS (nS (nF [oI 7 3 3,aq 8 12 7,oW 9 8,mV 10 9,oG 11 10 true 3 4,dN 12 10 12 11,gF 13 10 (nU 12),oX 14 10 13]) (nC 14 (nR [oP 6 (nV 1)]) .skip)) (nS (nS (nF [mV 15 2,aq 16 242 15,oW 17 16]) (nC 17 (nR [oP 6 (nV 2)]) .skip)) (nR [oP 6 (nV 0)]))))
@[simp] def Hm : AFn:=nG [.cell 6 true 3,.tmp 7] (nS (nF [oU 3 3 0,oM 6,oP 7 (nV 0)]) (nR [oQ 8 0 3,oJ 9 8,oQ 10 1 3,oJ 11 10,oQ 12 2 3,oJ 13 12,mV 14 1,mV 15 2,oP 16 (.call (.f 229) [.t 9,.t 11,.t 13,.c (.bool false),.t 14,.t 15]),oR 17 0 16,oR 18 1 16,oK 3 6 17 false,mV 7 18]))
@[simp] def JE : AFn:=nG [.tmp 2] (nS (nF [oP 2 (.mv (.c .nil))]) (nS (nS (nF [mV 3 0,oP 4 (.bin .slice .eql (.t 3) (.c .nil))]) (nC 4 (nR [oP 2 (.mv (.c .nil))]) .skip)) (nR [oP 5 (.bslice 1 0 (.int .u32 0) []),mV 6 0,oP 7 (.append 1 4 (.t 5) (.t 6)),mV 2 7])))
@[simp] def FN : AFn:=nG [.cell 6 true 3,.tmp 7] (nS (nF [oU 3 3 0,oM 6,oP 7 (nV 0)]) (nS (nS (nF [mV 9 1,oI 10 3 3,oP 11 (.bslice 3 1 (.agg nD) [(0,.t 10)]),aG 12 235 9 11,mV 8 12]) (nS (nF [mV 13 8,oO 14 .neq 13 0]) (nC 14 (nR [oP 15 (.build nD []),mV 16 8,oK 3 6 15 false,mV 7 16]) .skip))) (nS (nT [oQ 17 0 3,oJ 18 17,oI 19 3 3,aq 20 243 19,mV 21 1,mV 22 2,oB4 23 237 18 20 21 22,oR 24 0 23,oR 25 1 23,oK 3 6 24 true,mV 7 25]) .ret)))
@[simp] def IU : AFn:=nG [.tmp 2] (nS (nF [oZ 2 false]) (nR [mV 3 0,oP 4 (nX .geq 3 (-32768)),mV 5 4,oF 6 5 0,gT 7 5 (nX .leq 6 32768),oY 8 5 7,mV 2 8]))
@[simp] def HP : AFn:=nG [.cell 2 true 3,.tmp 3] (nS (nF [oU 1 3 0,oM 2,oP 3 (nV 0)]) (nS (nS (nF [oI 4 3 1,aq 5 78 4,oW 6 5]) (nC 6 (nR [oP 7 (.build nD []),oK 3 2 7 false,oP 3 (nV 9)]) .skip)) (nR [oI 8 3 1,oK 3 2 8 false,oP 3 (nV 0)])))
@[simp] def Jf : AFn:=nG [.cell 6 true 3] (nS (nF [oM 6]) (nS (nF [mV 10 1,aq 11 244 10,mV 1 11]) (nS (nS (nF [mV 12 1,oT 13 12,oO 14 .eql 13 0]) (nC 14 (nR [oP 15 (.build nD []),oK 3 6 15 false]) .skip)) (nS (nF [mV 16 1,aq 17 245 16,mV 7 17]) (nS (nF [mV 19 1,mV 20 7,aG 21 246 19 20,mV 18 21,oR 22 0 18,oR 23 1 18,mV 8 22,mV 9 23]) (nR [mV 24 0,mV 25 8,aq 26 221 25,aq 27 119 26,mV 28 2,mV 29 7,oN 30 .add 28 29,oP 31 (.build nD [(0,1,.t 24),(1,1,.t 27),(2,1,.t 30)]),
 oK 3 6 31 false]))))))
def IX : AC:=(nS (nS (nF [mV 24 5,oP 25 (.bin .num .gtr (.t 24) (.c (.int .u32 0)))]) (nC 25 .skip (.exit 2))) (nS (.block 3 (nF [mV 28 4,oO 29 .add 28 1,mV 4 29])) (nF [mV 26 5,oP 27 (.bin .num .shr (.t 26) (.c (.int .u64 1))),mV 5 27])))
def Db : AC:=(nS (nS (nF [mV 9 3,oO 10 .geq 9 0]) (nC 10 .skip (.exit 0))) (nS (.block 1 (nS (nF [mV 13 0,mV 14 3,oV 15 1 13 14,oJ 16 15,oP 17 (.bin .num .neq (.t 16) (.c (.int .u32 0)))]) (nC 17 (nS (nF [mV 18 3,oP 19 (.bin .num .mul (.c (.int .i64 32)) (.t 18)),mV 4 19]) (nS (nS (nF [mV 20 0,mV 21 3,oV 22 1 20 21,oJ 23 22,mV 5 23]) (.block 2 (.loop IX))) (nR [mV 30 4,mV 2 30]))) .skip))) (nF [mV 11 3,oO 12 .sub 11 1,mV 3 12])))
@[simp] def FY : AFn:=nG [.tmp 2] (nS (nF [oP 2 (nV 0)]) (nS (nS (nF [mV 6 0,oT 7 6,oO 8 .sub 7 1,mV 3 8]) (.block 0 (.loop Db))) (nR [oP 2 (nV 0)])))
def Di : AC:=(nS (nS (nF [mV 40 10,mV 41 7,oT 42 41,oN 43 .lss 40 42]) (nC 43 .skip (.exit 2))) (nS (.block 3 (nS (nF [mV 46 7,mV 47 10,oV 48 1 46 47,oJ 49 48,mV 11 49]) (nS (nF [mV 50 7,mV 51 10,mV 52 11,oP 53 (.bin .num .shl (.t 52) (.c (.int .u64 1))),mV 54 9,oN 55 .or 53 54,oV 56 1 50 51,oK 1 56 55 false]) (nF [mV 57 11,oP 58 (.bin .num .shr (.t 57) (.c (.int .u64 31))),mV 9 58])))) (nF [mV 44 10,oO 45 .add 44 1,mV 10 45])))
def Dj : AC:=(nS (nS (nF [mV 62 13,mV 63 7,oT 64 63,oN 65 .lss 62 64]) (nC 65 .skip (.exit 4))) (nS (.block 5 (nS (nT [mV 68 7,mV 69 13,oV 70 1 68 69,oJ 71 70,oP 72 (.conv .u64 (.t 71)),oP 73 (.bin .num .add (.t 72) (.c (.int .u64 4294967296))),mV 74 1,mV 75 13,aG 76 249 74 75,oN 77 .sub 73 76,mV 78 12,oN 79 .sub 77 78,mV 14 79]) (nS (nF [mV 80 7,mV 81 13,mV 82 14,oP 83 (.bin .num .and (.t 82) (.c (.int .u64 4294967295))),oP 84 (.conv .u32 (.t 83)),oV 85 1 80 81,oK 1 85 84 false]) (nF [mV 86 14,oP 87 (.bin .num .shr (.t 86) (.c (.int .u64 32))),
 oP 88 (.bin .num .sub (.c (.int .u64 1)) (.t 87)),mV 12 88])))) (nF [mV 66 13,oO 67 .add 66 1,mV 13 67])))
def Jk : AC:=(nS (nS (nF [mV 27 8,oO 28 .geq 27 0]) (nC 28 .skip (.exit 0))) (nS (.block 1 (nS (nF [mV 31 0,mV 32 8,oO 33 .quo 32 32,oV 34 1 31 33,oJ 35 34,mV 36 8,oO 37 .rem 36 32,oN 38 .shr 35 37,oP 39 (.bin .num .and (.t 38) (.c (.int .u32 1))),mV 9 39]) (nS (nS (nF [oP 10 (nV 0)]) (.block 2 (.loop Di))) (nS (nS (nF [mV 59 7,mV 60 1,aG 61 248 59 60]) (nC 61 (.exit 1) .skip)) (nS (nF [oP 12 (.mv (.c (.int .u64 0)))]) (nS (nS (nF [oP 13 (nV 0)]) (.block 4 (.loop Dj))) (nT [mV 89 6,
 mV 90 8,oO 91 .quo 90 32,mV 92 6,mV 93 8,oO 94 .quo 93 32,oV 95 1 92 94,oJ 96 95,mV 97 8,oO 98 .rem 97 32,oP 99 (.bin .num .shl (.c (.int .u32 1)) (.t 98)),oN 100 .or 96 99,oV 101 1 89 91,oK 1 101 100 true]))))))) (nF [mV 29 8,oO 30 .sub 29 1,mV 8 30])))
@[simp] def HX : AFn:=nG [.tmp 4,.tmp 5] (nS (nF [oP 4 (.mv (.c .nil)),oP 5 (.mv (.c .nil))]) (nS (nF [mV 15 1,aq 16 247 15,mV 1 16]) (nS (nF [mV 17 0,oT 18 17,oP 19 (.mkslice 1 4 (.int .u32 0) (.t 18) (.t 18)),mV 6 19]) (nS (nF [mV 20 1,oT 21 20,oO 22 .add 21 1,oP 23 (.mkslice 1 4 (.int .u32 0) (.t 22) (.t 22)),mV 7 23]) (nS (nS (nF [mV 24 0,aq 25 226 24,oO 26 .sub 25 1,mV 8 26]) (.block 0 (.loop Jk))) (nR [mV 102 6,aq 103 247 102,mV 104 7,aq 105 247 104,mV 4 103,mV 5 105]))))))
def HY : AC:=(nS (nS (nF [mV 17 6,mV 18 0,oT 19 18,oN 20 .lss 17 19]) (nC 20 .skip (.exit 0))) (nS (.block 1 (nS (nF [mV 23 0,mV 24 6,oV 25 1 23 24,oJ 26 25,oP 27 (.conv .u64 (.t 26)),mV 28 1,oO 29 .rem 28 32,oN 30 .shl 27 29,mV 7 30]) (nS (nF [mV 31 5,mV 32 6,mV 33 1,oO 34 .quo 33 32,oN 35 .add 32 34,mV 36 5,mV 37 6,mV 38 1,oO 39 .quo 38 32,oN 40 .add 37 39,oV 41 1 36 40,oJ 42 41,mV 43 7,oP 44 (.bin .num .and (.t 43) (.c (.int .u64 4294967295))),oP 45 (.conv .u32 (.t 44)),oN 46 .or 42 45,oV 47 1 31 35,oK 1 47 46 false]) (nF [mV 48 5,
 mV 49 6,mV 50 1,oO 51 .quo 50 32,oN 52 .add 49 51,oO 53 .add 52 1,mV 54 7,oP 55 (.bin .num .shr (.t 54) (.c (.int .u64 32))),oP 56 (.conv .u32 (.t 55)),oV 57 1 48 53,oK 1 57 56 false])))) (nF [mV 21 6,oO 22 .add 21 1,mV 6 22])))
@[simp] def EU : AFn:=nG [.tmp 4] (nS (nF [oP 4 (.mv (.c .nil))]) (nS (nF [mV 8 0,aq 9 247 8,mV 0 9]) (nS (nF [mV 10 1,oO 11 .quo 10 32,mV 12 0,oT 13 12,oN 14 .add 11 13,oO 15 .add 14 1,oP 16 (.mkslice 1 4 (.int .u32 0) (.t 15) (.t 15)),mV 5 16]) (nS (nS (nF [oP 6 (nV 0)]) (.block 0 (.loop HY))) (nR [mV 58 5,aq 59 247 58,mV 4 59])))))
@[simp] def c_fpref03_Cut : AFn:=nG [.cell 12 true 3,.tmp 13] (nS (nF [oM 12,oP 13 (nV 0)]) (nS (nF [mV 18 1,aq 19 247 18,mV 1 19]) (nS (nF [mV 20 1,aq 21 226 20,mV 14 21]) (nS (nF [mV 22 14,mV 23 4,oN 24 .sub 22 23,mV 25 2,oP 26 (.bin .num .sub (.c (.int .i64 (-16384))) (.t 25)),oP 27 (.max3 (.t 24) (.t 26) (.c (.int .i64 0))),mV 15 27]) (nS (nF [mV 28 1,mV 29 15,aG 30 250 28 29,mV 16 30]) (nS (nS (nF [mV 31 15,oO 32 .gtr 31 0,mV 33 32,oF 34 33 16,oF 35 33 15,p6 36 33 228 34 35,oF 37 33 1,p6 38 33 232 36 37,
 gT 39 33 (nX .neq 38 0),oY 40 33 39]) (nC 40 (nF [oZ 3 true]) .skip)) (nS (nF [mV 41 0,mV 42 5,oP 43 (.bin .bool .neq (.t 41) (.t 42)),mV 17 43]) (nS (nS (nF [mV 44 3,mV 45 44,oF 46 45 17,oY 47 45 46]) (nC 47 (nF [mV 48 16,oP 49 (.bslice 1 1 (.int .u32 0) [(0,.c (.int .u32 1))]),aG 50 251 48 49,mV 16 50]) .skip)) (nS (nS (nF [mV 51 16,aq 52 226 51,oO 53 .gtr 52 0,mV 54 53,oF 55 54 16,kN 56 54 226 55,oF 57 54 2,gT 58 54 (nY .add 56 57),oF 59 54 15,gT 60 54 (nY .add 58 59),
 gT 61 54 (nX .gtr 60 16384),oY 62 54 61]) (nC 62 (nS (nS (nF [mV 63 17]) (nC 63 (nR [oP 64 (.build nD []),oK 3 12 64 false,oP 13 (nV 9)]) .skip)) (nR [mV 65 0,mV 66 4,aG 67 252 65 66,oK 3 12 67 false,oP 13 (nV 0)])) .skip)) (nR [mV 68 0,mV 69 16,mV 70 2,mV 71 15,oN 72 .add 70 71,bu 73 85 68 69 72,oK 3 12 73 false,oP 13 (nV 0)]))))))))))
@[simp] def EF : AFn:=nG [.cell 6 true 3,.tmp 7] (nS (nF [oU 3 3 0,oM 6,oP 7 (nV 0)]) (nS (nF [mV 15 1,oI 16 3 3,oP 17 (.bslice 3 1 (.agg nD) [(0,.t 16)]),aG 18 235 15 17,mV 8 18]) (nS (nS (nF [mV 19 8,oO 20 .eql 19 0,mV 21 20,gT 22 21 (nA 0 3),oH 23 21 false 1 22,oY 24 21 23]) (nC 24 (nF [oP 8 (nV 2)]) .skip)) (nS (nS (nF [mV 25 8,oO 26 .neq 25 0,mV 27 26,gF 28 27 (nA 1 3),oG 29 27 false 1 28,gF 30 27 (.len (.t 29)),gF 31 27 (nX .eql 30 0),
 oX 32 27 31]) (nC 32 (nR [oP 33 (.build nD []),mV 34 8,oK 3 6 33 false,mV 7 34]) .skip)) (nS (nF [mV 35 1,oP 36 (.bin .num .mul (.c (.int .i64 2)) (.t 35)),oO 37 .add 36 4,oI 38 3 3,aq 39 239 38,oN 40 .sub 37 39,oP 41 (.max (.c (.int .i64 0)) (.t 40)),mV 9 41]) (nS (nS (nF [oQ 42 2 3,oJ 43 42,mV 44 9,oN 45 .sub 43 44,oO 46 .rem 45 2,oO 47 .neq 46 0]) (nC 47 (nF [mV 48 9,oO 49 .add 48 1,mV 9 49]) .skip)) (nS (nF [oQ 50 1 3,oJ 51 50,mV 52 9,aG 53 241 51 52,mV 10 53]) (nS (nF [mV 55 10,
 aq 56 253 55,mV 54 56,oR 57 0 54,oR 58 1 54,mV 11 57,mV 12 58]) (nS (nF [mV 60 11,mV 61 11,aG 62 238 60 61,mV 59 62,oR 63 0 59,oR 64 1 59,mV 13 63,mV 14 64]) (nS (nT [mV 65 11,oQ 66 2 3,oJ 67 66,mV 68 9,oN 69 .sub 67 68,oO 70 .quo 69 2,mV 71 13,mV 72 10,aG 73 99 71 72,oO 74 .neq 73 0,oP 75 (.build [.nil,.int .i64 0,.bool false] [(0,1,.t 65),(1,1,.t 70),(2,1,.t 74)]),mV 76 1,mV 77 2,dO 78 254 75 76 77,oR 79 0 78,oR 80 1 78,oK 3 6 79 true,mV 7 80]) .ret))))))))))
def C2 : AC:=(nS (nS (nF [mV 12 5,oO 13 .geq 12 0]) (nC 13 .skip (.exit 0))) (nS (.block 1 (nS (nS (nF [mV 16 0,mV 17 5,aG 18 249 16 17,mV 19 1,mV 20 5,aG 21 249 19 20,oN 22 .lss 18 21]) (nC 22 (nR [oP 4 (nV (-1))]) .skip)) (nS (nF [mV 23 0,mV 24 5,aG 25 249 23 24,mV 26 1,mV 27 5,aG 28 249 26 27,oN 29 .gtr 25 28]) (nC 29 (nR [oP 4 (nV 1)]) .skip)))) (nF [mV 14 5,oO 15 .sub 14 1,mV 5 15])))
@[simp] def ET : AFn:=⟨[.tmp 4],nS (nF [oP 4 (nV 0)]) (nS (nS (nF [mV 6 0,oT 7 6,mV 8 1,oT 9 8,oP 10 (.max (.t 7) (.t 9)),oO 11 .sub 10 1,mV 5 11]) (.block 0 (.loop C2))) (nR [oP 4 (nV 0)])),false,true⟩
def Ir : AC:=(nS (nF [oN 10 .lss 9 8]) (nS (nC 10 .skip (.exit 0)) (nS (.block 1 (nS (nF [oV 11 3 7 9,oI 12 3 11,oM 6,oK 3 6 12 false]) (nS (nF [oI 13 3 6,aq 14 51 13,oW 15 14]) (nC 15 (nR [oP 4 (nV 1)]) .skip)))) (nF [oO 16 .add 9 1,mV 9 16]))))
@[simp] def FM : AFn:=nG [.tmp 4] (nS (nF [oP 4 (nV 0)]) (nS (nS (nF [mV 7 1,oT 8 7,oP 9 (nV 0)]) (.block 0 (.loop Ir))) (nS (nS (nF [mV 17 0,aq 18 255 17,oW 19 18]) (nC 19 (nR [oP 4 (nV 2)]) .skip)) (nR [oP 4 (nV 0)]))))
@[simp] def c_round_sum : AFn:=nG [.cell 6 true 3,.tmp 7] (nS (nF [oU 3 3 0,oU 4 3 1,oP 6 (.new 3 (.agg [.nil,.int .i64 0,.bool false])),oZ 7 false]) (nS (nT [oQ 18 2 3,oJ 19 18,oI 20 3 3,aq 21 98 20,mV 22 2,oN 23 .sub 21 22,oO 24 .sub 23 8,oP 25 (.min (.t 19) (.t 24)),mV 8 25]) (nS (nS (nT [oI 26 3 3,aq 27 98 26,oI 28 3 4,ij 29 98 28,oN 30 .sub 27 29,oO 31 .leq 30 2]) (nC 31 (nF [mV 32 8,oQ 33 2 4,oJ 34 33,oP 35 (.min (.t 32) (.t 34)),mV 8 35]) .skip)) (nS (nF [oQ 36 1 3,oJ 37 36,oQ 38 2 3,oJ 39 38,mV 40 8,oN 41 .sub 39 40,
 aG 42 241 37 41,mV 9 42]) (nS (nF [oP 10 (.mv (.c .nil))]) (nS (nF [oZ 11 false]) (nS (nS (nF [oQ 43 2 4,oJ 44 43,mV 45 8,oN 46 .geq 44 45]) (nC 46 (nF [oQ 47 1 4,oJ 48 47,oQ 49 2 4,oJ 50 49,mV 51 8,oN 52 .sub 50 51,aG 53 241 48 52,mV 10 53]) (nF [oQ 55 1 4,oJ 56 55,mV 57 8,oQ 58 2 4,oJ 59 58,oN 60 .sub 57 59,aG 61 256 56 60,mV 54 61,oR 62 0 54,oR 63 1 54,mV 10 62,mV 11 63]))) (nS (nS (nF [oQ 64 0 3,oJ 65 64,oQ 66 0 4,oJ 67 66,oP 68 (.bin .bool .eql (.t 65) (.t 67))]) (nC 68 (nS (nF [mV 70 9,
 mV 71 10,aG 72 257 70 71,mV 69 72,oR 73 0 69,oR 74 1 69,mV 12 73,mV 13 74]) (nR [mV 75 12,mV 76 8,mV 77 11,oP 78 (.build [.nil,.int .i64 0,.bool false] [(0,1,.t 75),(1,1,.t 76),(2,1,.t 77)]),oK 3 6 78 false,oZ 7 false])) .skip)) (nS (nS (nF [mV 79 11]) (nC 79 (nF [mV 81 10,oP 82 (.bslice 1 1 (.int .u32 0) [(0,.c (.int .u32 1))]),aG 83 257 81 82,mV 80 83,oR 84 0 80,oR 85 1 80,mV 10 84]) .skip)) (nS (nS (nF [mV 86 9,mV 87 10,aG 88 99 86 87,oO 89 .lss 88 0]) (nC 89 (nS (nF [mV 91 10,mV 92 9,
 aG 93 258 91 92,mV 90 93,oR 94 0 90,oR 95 1 90,mV 14 94,mV 15 95]) (nR [mV 96 14,mV 97 8,oP 98 (.build [.nil,.int .i64 0,.bool false] [(0,1,.t 96),(1,1,.t 97),(2,1,.c (.bool false))]),oK 3 6 98 false,oZ 7 true])) .skip)) (nS (nF [mV 100 9,mV 101 10,aG 102 258 100 101,mV 99 102,oR 103 0 99,oR 104 1 99,mV 16 103,mV 17 104]) (nR [mV 105 16,mV 106 8,mV 107 11,oP 108 (.build [.nil,.int .i64 0,.bool false] [(0,1,.t 105),(1,1,.t 106),(2,1,.t 107)]),oK 3 6 108 false,oZ 7 false]))))))))))))
@[simp] def Gp : AFn:=nG [.cell 8 true 3,.tmp 9] (nS (nF [oU 5 3 1,oM 8,oP 9 (nV 0)]) (nS (nF [oI 13 3 5,mV 14 2,mV 15 3,mV 16 0,oP 17 (.bin .bool .neq (.t 15) (.t 16)),bu 18 254 13 14 17,mV 12 18,oR 19 0 12,oR 20 1 12,oM 10,oK 3 10 19 false,mV 11 20]) (nS (nS (nF [mV 21 11,oO 22 .eql 21 0,mV 23 22,oF 24 23 0,oY 25 23 24]) (nC 25 (nF [oI 26 3 10,aq 27 198 26,oK 3 10 27 false]) .skip)) (nR [oI 28 3 10,mV 29 11,oK 3 8 28 false,mV 9 29]))))
@[simp] def Fm : AFn:=nG [.tmp 4,.tmp 5] (nS (nF [oP 4 (.mv (.c .nil)),oP 5 (nV 0)]) (nS (nS (nF [mV 6 0,mV 7 1,oP 8 (.bslice 1 2 .nil [(0,.t 6),(1,.t 7)]),aq 9 114 8]) (nC 9 (nR [oP 4 (.mv (.c .nil)),oP 5 (nV 9)]) .skip)) (nR [mV 10 0,aq 11 111 10,mV 12 1,aq 13 111 12,aG 14 259 11 13,aq 15 115 14,oR 16 0 15,oR 17 1 15,mV 4 16,mV 5 17])))
@[simp] def EO : AFn:=nG [.tmp 2] (nS (nF [oU 1 3 0,oP 2 (nV 0)]) (nS (nS (nF [oI 3 3 1,aq 4 51 3,oW 5 4]) (nC 5 (nR [oP 2 (nV 0)]) .skip)) (nR [oQ 6 1 1,oJ 7 6,aq 8 97 7,mV 2 8])))
@[simp] def Ik : AFn:=nG [.tmp 4,.tmp 5,.tmp 6] (nS (nF [oP 4 (.mv (.c .nil)),oP 5 (.mv (.c .nil)),oP 6 (nV 0)]) (nS (.block 0 (nS (nF [mV 10 0,mV 11 1,oP 12 (.bslice 1 2 .nil [(0,.t 10),(1,.t 11)]),aq 13 114 12,mV 9 13]) (nC 9 (nR [oP 4 (.mv (.c .nil)),oP 5 (.mv (.c .nil)),oP 6 (nV 9)]) (nS (nF [mV 15 1,aq 16 111 15,oT 17 16,oO 18 .eql 17 0,mV 14 18]) (nC 14 (nR [oP 4 (.mv (.c .nil)),oP 5 (.mv (.c .nil)),oP 6 (nV 10)]) .skip))))) (nS (nF [mV 20 0,
 mV 21 1,aG 22 260 20 21,mV 19 22,oR 23 0 19,oR 24 1 19,mV 7 23,mV 8 24]) (nR [mV 25 7,aq 26 111 25,aq 27 119 26,mV 28 8,aq 29 111 28,aq 30 119 29,mV 4 27,mV 5 30,oP 6 (nV 0)]))))
@[simp] def Ea : AFn:=nG [.tmp 4] (nS (nF [oP 4 (.mv (.c .nil))]) (nS (nF [mV 8 0,mV 9 1,aG 10 112 8 9,mV 7 10,oR 11 0 7,oR 12 1 7,mV 5 11,mV 6 12]) (nR [mV 13 5,mV 4 13])))
@[simp] def F7 : AFn:=nG [.tmp 2] (nS (nF [oZ 2 false]) (nR [mV 3 0,oO 4 .geq 3 8,mV 5 4,oF 6 5 0,gT 7 5 (nX .leq 6 512),oY 8 5 7,mV 2 8]))
@[simp] def D5 : AFn:=nG [.cell 2 true 3] (nS (nF [oU 1 3 0,oP 2 (.new 3 (.agg [.nil,.int .i64 0,.bool false]))]) (nR [oQ 3 1 1,oJ 4 3,oQ 5 2 1,oJ 6 5,oP 7 (.build [.nil,.int .i64 0,.bool false] [(0,1,.t 4),(1,1,.t 6)]),oK 3 2 7 false]))
def Dh : AC:=(nS (nS (nF [mV 6 3,oO 7 .gtr 6 0,mV 8 7,oF 9 8 0,oF 10 8 3,gT 11 8 (nX .sub 10 1),gT 12 8 (.iaddr 1 (.t 9) (.t 11)),oH 13 8 false 1 12,gT 14 8 (.bin .num .eql (.t 13) (.c (.int .u32 0))),oY 15 8 14]) (nC 15 .skip (.exit 0))) (.block 1 (nF [mV 16 3,oO 17 .sub 16 1,mV 3 17])))
@[simp] def HT : AFn:=nG [.tmp 2] (nS (nF [oP 2 (.mv (.c .nil))]) (nS (nF [mV 4 0,oT 5 4,mV 3 5]) (nS (.block 0 (.loop Dh)) (nR [mV 18 0,mV 19 3,oP 20 (.slice 1 (.t 18) none (some (.t 19)) none),mV 2 20]))))
def GG : AC:=(nS (nF [oN 9 .lss 8 7]) (nS (nC 9 .skip (.exit 0)) (nS (.block 1 (nS (nF [oV 10 1 6 8,oJ 11 10,mV 5 11]) (nS (nS (nF [mV 12 5,oP 13 (.bin .num .neq (.t 12) (.c (.int .u32 0)))]) (nC 13 (nR [mV 14 3,mV 15 5,aq 16 261 15,oN 17 .add 14 16,mV 2 17]) .skip)) (nF [mV 18 3,oO 19 .add 18 32,mV 3 19])))) (nF [oO 20 .add 8 1,mV 8 20]))))
@[simp] def Eu : AFn:=nG [.tmp 2] (nS (nF [oP 2 (nV 0)]) (nS (nF [oP 3 (nV 0)]) (nS (nS (nF [mV 6 0,oT 7 6,oP 8 (nV 0)]) (.block 0 (.loop GG))) (nR [mV 21 3,mV 2 21]))))
@[simp] def Fp : AFn:=nG [.tmp 4,.tmp 5] (nS (nF [oP 4 (.mv (.c .nil)),oP 5 (nV 0)]) (nS (.block 0 (nS (nF [mV 7 0,oP 8 (.bslice 1 1 .nil [(0,.t 7)]),aq 9 114 8,mV 6 9]) (nC 6 (nR [oP 4 (.mv (.c .nil)),oP 5 (nV 9)]) (nS (nF [mV 11 1,oO 12 .lss 11 0,mV 13 12,oE 14 13 1,gF 15 13 (nX .gtr 14 65536),oX 16 13 15,mV 10 16]) (nC 10 (nR [oP 4 (.mv (.c .nil)),oP 5 (nV 2)]) .skip))))) (nR [mV 17 0,
 mV 18 1,aG 19 262 17 18,aq 20 115 19,oR 21 0 20,oR 22 1 20,mV 4 21,mV 5 22])))
def Dc : AC:=(nS (nS (nF [mV 6 3,oO 7 .gtr 6 0,mV 8 7,oF 9 8 0,oF 10 8 3,gT 11 8 (nX .sub 10 1),gT 12 8 (.iaddr 1 (.t 9) (.t 11)),oH 13 8 false 1 12,gT 14 8 (.bin .num .eql (.t 13) (.c (.int .u32 0))),oY 15 8 14]) (nC 15 .skip (.exit 0))) (.block 1 (nF [mV 16 3,oO 17 .sub 16 1,mV 3 17])))
@[simp] def FZ : AFn:=nG [.tmp 2] (nS (nF [oP 2 (.mv (.c .nil))]) (nS (nF [mV 4 0,oT 5 4,mV 3 5]) (nS (.block 0 (.loop Dc)) (nR [oP 18 (.bslice 1 0 (.int .u32 0) []),mV 19 0,mV 20 3,oP 21 (.slice 1 (.t 19) none (some (.t 20)) none),oP 22 (.append 1 4 (.t 18) (.t 21)),mV 2 22]))))
@[simp] def F0 : AFn:=⟨[.tmp 4],nS (nF [oZ 4 false]) (nR [mV 5 0,mV 6 1,aG 7 232 5 6,oO 8 .lss 7 0,mV 4 8]),false,true⟩
@[simp] def EB : AFn:=⟨[.tmp 4],nS (nF [oP 4 (.mv (.c (.int .u64 0)))]) (nS (nS (nF [mV 5 1,mV 6 0,oT 7 6,oN 8 .lss 5 7]) (nC 8 (nR [mV 9 0,mV 10 1,oV 11 1 9 10,oJ 12 11,oP 13 (.conv .u64 (.t 12)),mV 4 13]) .skip)) (nR [oP 4 (.mv (.c (.int .u64 0)))])),false,true⟩
def HZ : AC:=(nS (nS (nF [mV 10 6,mV 11 0,oT 12 11,oN 13 .lss 10 12]) (nC 13 .skip (.exit 0))) (nS (.block 1 (nS (nF [mV 16 0,mV 17 6,aG 18 249 16 17,mV 19 0,mV 20 6,oO 21 .add 20 1,aG 22 249 19 21,oP 23 (.bin .num .shl (.t 22) (.c (.int .u64 32))),oN 24 .add 18 23,mV 7 24]) (nF [mV 25 5,mV 26 7,mV 27 1,oO 28 .rem 27 32,oN 29 .shr 26 28,oP 30 (.bin .num .and (.t 29) (.c (.int .u64 4294967295))),oP 31 (.conv .u32 (.t 30)),oP 32 (.bslice 1 1 (.int .u32 0) [(0,.t 31)]),oP 33 (.append 1 4 (.t 25) (.t 32)),mV 5 33]))) (nF [mV 14 6,oO 15 .add 14 1,
 mV 6 15])))
@[simp] def EV : AFn:=nG [.tmp 4] (nS (nF [oP 4 (.mv (.c .nil))]) (nS (nF [oP 5 (.mv (.c .nil))]) (nS (nS (nF [mV 8 1,oO 9 .quo 8 32,mV 6 9]) (.block 0 (.loop HZ))) (nR [mV 34 5,aq 35 247 34,mV 4 35]))))
def C0 : AC:=(nS (nS (nF [mV 9 7,mV 10 0,oT 11 10,mV 12 1,oT 13 12,oP 14 (.max (.t 11) (.t 13)),oN 15 .lss 9 14,mV 16 15,oE 17 16 6,gF 18 16 (.bin .num .gtr (.t 17) (.c (.int .u64 0))),oX 19 16 18]) (nC 19 .skip (.exit 0))) (nS (.block 1 (nS (nF [mV 22 0,mV 23 7,aG 24 249 22 23,mV 25 1,mV 26 7,aG 27 249 25 26,oN 28 .add 24 27,mV 29 6,oN 30 .add 28 29,mV 8 30]) (nS (nF [mV 31 5,mV 32 8,oP 33 (.bin .num .and (.t 32) (.c (.int .u64 4294967295))),oP 34 (.conv .u32 (.t 33)),oP 35 (.bslice 1 1 (.int .u32 0) [(0,.t 34)]),oP 36 (.append 1 4 (.t 31) (.t 35)),
 mV 5 36]) (nF [mV 37 8,oP 38 (.bin .num .shr (.t 37) (.c (.int .u64 32))),mV 6 38])))) (nF [mV 20 7,oO 21 .add 20 1,mV 7 21])))
@[simp] def ES : AFn:=nG [.tmp 4] (nS (nF [oP 4 (.mv (.c .nil))]) (nS (nF [oP 5 (.mv (.c .nil))]) (nS (nF [oP 6 (.mv (.c (.int .u64 0)))]) (nS (nS (nF [oP 7 (nV 0)]) (.block 0 (.loop C0))) (nR [mV 39 5,aq 40 247 39,mV 4 40])))))
@[simp] def I3 : AFn:=nG [.cell 4 true 3] (nS (nF [oM 4]) (nS (nF [oP 6 (.bslice 1 1 (.int .u32 0) [(0,.c (.int .u32 1))]),mV 7 1,aG 8 228 6 7,oP 9 (.bslice 1 1 (.int .u32 0) [(0,.c (.int .u32 1))]),aG 10 263 8 9,mV 5 10]) (nR [mV 11 0,mV 12 5,mV 13 1,oP 14 (.bin .num .sub (.c (.int .i64 16384)) (.t 13)),bu 15 85 11 12 14,oK 3 4 15 false])))
def Zq : AC:=(.block 1 (nS (nF [mV 23 0,mV 24 5,aG 25 260 23 24,mV 22 25,oR 26 0 22,oR 27 1 22,mV 6 26,mV 7 27]) (nS (nF [mV 28 5,mV 29 6,aq 30 111 29,aG 31 264 28 30,oP 32 (.call (.f 262) [.t 31,.c (.int .i64 1)]),aq 33 111 32,mV 8 33]) (nS (nS (nF [mV 34 8,mV 35 5,aG 36 99 34 35,oO 37 .geq 36 0]) (nC 37 (nR [mV 38 5,aq 39 115 38,oR 40 0 39,oR 41 1 39,mV 2 40,mV 3 41]) .skip)) (nF [mV 42 8,mV 5 42])))))
@[simp] def Gk : AFn:=nG [.tmp 2,.tmp 3] (nS (nF [oP 2 (.mv (.c .nil)),oP 3 (nV 0)]) (nS (nS (nF [mV 9 0,oP 10 (.bslice 1 1 .nil [(0,.t 9)]),aq 11 114 10]) (nC 11 (nR [oP 2 (.mv (.c .nil)),oP 3 (nV 9)]) .skip)) (nS (nF [mV 12 0,aq 13 110 12,mV 4 13]) (nS (nS (nF [mV 14 4,oO 15 .eql 14 0]) (nC 15 (nR [oP 2 (.mv (.c .nil)),oP 3 (nV 0)]) .skip)) (nS (nF [oP 16 (.bslice 1 1 (.int .u32 0) [(0,.c (.int .u32 1))]),
 mV 17 4,oO 18 .add 17 1,oO 19 .quo 18 2,aG 20 116 16 19,aq 21 111 20,mV 5 21]) (.block 0 (.loop Zq)))))))
@[simp] def c_round_cut : AFn:=nG [.cell 6 true 3,.tmp 7] (nS (nF [oU 3 3 0,oM 6,oP 7 (nV 0)]) (nS (nT [oQ 13 1 3,oJ 14 13,oQ 15 0 3,oJ 16 15,aq 17 110 16,oN 18 .add 14 17,mV 19 1,oN 20 .sub 18 19,oP 21 (.max (.t 20) (.c (.int .i64 (-16384)))),mV 8 21]) (nS (nT [oQ 22 0 3,oJ 23 22,oQ 24 2 3,oJ 25 24,mV 9 23,mV 10 25]) (nS (nS (nF [oQ 26 1 3,oJ 27 26,mV 28 8,oN 29 .geq 27 28]) (nC 29 (nF [oQ 30 0 3,oJ 31 30,oQ 32 1 3,oJ 33 32,mV 34 8,oN 35 .sub 33 34,aG 36 241 31 35,mV 9 36]) (nS (nF [oQ 38 0 3,
 oJ 39 38,mV 40 8,oQ 41 1 3,oJ 42 41,oN 43 .sub 40 42,aG 44 256 39 43,mV 37 44,oR 45 0 37,oR 46 1 37,mV 11 45,mV 12 46]) (nF [mV 47 11,mV 48 10,mV 49 48,oE 50 49 12,oX 51 49 50,mV 9 47,mV 10 51])))) (nS (nS (nF [mV 52 2,mV 53 52,oF 54 53 10,oY 55 53 54]) (nC 55 (nF [mV 57 9,oP 58 (.bslice 1 1 (.int .u32 0) [(0,.c (.int .u32 1))]),aG 59 257 57 58,mV 56 59,oR 60 0 56,oR 61 1 56,mV 9 60]) .skip)) (nS (nS (nF [mV 62 9,aq 63 110 62,mV 64 8,oN 65 .add 63 64,oO 66 .gtr 65 16384]) (nC 66 (nS (nS (nF [mV 67 2]) (nC 67 (nR [oP 68 (.build nD []),
 oK 3 6 68 false,oP 7 (nV 9)]) .skip)) (nS (nF [oP 70 (.bslice 1 1 (.int .u32 0) [(0,.c (.int .u32 1))]),mV 71 1,aG 72 241 70 71,oP 73 (.bslice 1 1 (.int .u32 0) [(0,.c (.int .u32 1))]),aG 74 258 72 73,mV 69 74,oR 75 0 69,oR 76 1 69,mV 9 75]) (nF [mV 77 1,oP 78 (.bin .num .sub (.c (.int .i64 16384)) (.t 77)),mV 8 78]))) .skip)) (nR [mV 79 9,mV 80 8,oP 81 (.call (.f 265) [.c (.bool false),.t 79,.t 80]),oR 82 0 81,oR 83 1 81,oK 3 6 82 false,mV 7 83])))))))
@[simp] def HI : AFn:=nG [.tmp 2] (nS (nF [oZ 2 false]) (nR [mV 3 0,oO 4 .geq 3 8,mV 5 4,oF 6 5 0,gT 7 5 (nX .leq 6 512),oY 8 5 7,mV 2 8]))
@[simp] def Ed : AFn:=nG [.tmp 4,.tmp 5] (nS (nF [oP 4 (.mv (.c .nil)),oZ 5 false]) (nS (nS (nF [mV 8 1,mV 9 0,aq 10 110 9,oN 11 .gtr 8 10]) (nC 11 (nF [mV 12 0,aq 13 110 12,mV 1 13]) .skip)) (nS (nF [mV 15 0,mV 16 1,aG 17 246 15 16,mV 14 17,oR 18 0 14,oR 19 1 14,mV 6 18,mV 7 19]) (nR [mV 20 6,mV 21 6,mV 22 1,aG 23 241 21 22,mV 24 0,aG 25 99 23 24,oO 26 .neq 25 0,mV 4 20,mV 5 26]))))
@[simp] def Fl : AFn:=nG [.tmp 4,.tmp 5] (nS (nF [oP 4 (.mv (.c .nil)),oP 5 (nV 0)]) (nS (nS (nF [mV 6 0,mV 7 1,oP 8 (.bslice 1 2 .nil [(0,.t 6),(1,.t 7)]),aq 9 114 8]) (nC 9 (nR [oP 4 (.mv (.c .nil)),oP 5 (nV 9)]) .skip)) (nR [mV 10 0,mV 11 1,aG 12 264 10 11,aq 13 115 12,oR 14 0 13,oR 15 1 13,mV 4 14,mV 5 15])))
@[simp] def Fq : AFn:=nG [.tmp 4,.tmp 5] (nS (nF [oP 4 (.mv (.c .nil)),oP 5 (nV 0)]) (nS (.block 0 (nS (nF [mV 7 0,mV 8 1,oP 9 (.bslice 1 2 .nil [(0,.t 7),(1,.t 8)]),aq 10 114 9,mV 6 10]) (nC 6 (nR [oP 4 (.mv (.c .nil)),oP 5 (nV 9)]) (nS (nF [mV 12 0,mV 13 1,aG 14 99 12 13,oO 15 .lss 14 0,mV 11 15]) (nC 11 (nR [oP 4 (.mv (.c .nil)),oP 5 (nV 2)]) .skip))))) (nR [mV 16 0,mV 17 1,aG 18 266 16 17,aq 19 115 18,oR 20 0 19,
 oR 21 1 19,mV 4 20,mV 5 21])))
def C3 : AC:=(nS (nF [oN 28 .lss 27 26]) (nS (nC 28 .skip (.exit 2)) (nS (.block 3 (nS (nF [mV 29 27,oV 30 1 25 27,oJ 31 30,mV 9 29,mV 10 31]) (nS (nF [mV 32 7,oP 33 (.conv .u64 (.t 32)),mV 34 10,oP 35 (.conv .u64 (.t 34)),oN 36 .mul 33 35,mV 37 5,mV 38 6,mV 39 9,oN 40 .add 38 39,oV 41 1 37 40,oJ 42 41,oP 43 (.conv .u64 (.t 42)),oN 44 .add 36 43,mV 45 8,oN 46 .add 44 45,mV 11 46]) (nF [mV 47 5,mV 48 6,mV 49 9,oN 50 .add 48 49,mV 51 11,oP 52 (.conv .u32 (.t 51)),mV 53 11,oP 54 (.bin .num .shr (.t 53) (.c (.int .u64 32))),oV 55 1 47 50,
 oK 1 55 52 false,mV 8 54])))) (nF [oO 56 .add 27 1,mV 27 56]))))
def Io : AC:=(nS (nF [oN 21 .lss 20 19]) (nS (nC 21 .skip (.exit 0)) (nS (.block 1 (nS (nF [mV 22 20,oV 23 1 18 20,oJ 24 23,mV 6 22,mV 7 24]) (nS (nF [oP 8 (.mv (.c (.int .u64 0)))]) (nS (nS (nF [mV 25 1,oT 26 25,oP 27 (nV 0)]) (.block 2 (.loop C3))) (nF [mV 57 5,mV 58 6,mV 59 1,oT 60 59,oN 61 .add 58 60,mV 62 8,oP 63 (.conv .u32 (.t 62)),oV 64 1 57 61,oK 1 64 63 false]))))) (nF [oO 65 .add 20 1,mV 20 65]))))
@[simp] def Ft : AFn:=nG [.tmp 4] (nS (nF [oP 4 (.mv (.c .nil))]) (nS (nF [mV 12 0,oT 13 12,mV 14 1,oT 15 14,oN 16 .add 13 15,oP 17 (.mkslice 1 4 (.int .u32 0) (.t 16) (.t 16)),mV 5 17]) (nS (nS (nF [mV 18 0,oT 19 18,oP 20 (nV 0)]) (.block 0 (.loop Io))) (nR [mV 66 5,mV 4 66]))))
def ZA : AC:=(nS (nS (nF [mV 56 9,oT 57 56,mV 58 0,oT 59 58,oN 60 .leq 57 59]) (nC 60 .skip (.exit 0))) (.block 1 (nF [mV 61 9,oP 62 (.bslice 1 1 (.int .u32 0) [(0,.c (.int .u32 0))]),oP 63 (.append 1 4 (.t 61) (.t 62)),mV 9 63])))
def Dl : AC:=(nS (nF [oN 126 .lss 125 124]) (nS (nC 126 .skip (.exit 4)) (nS (.block 5 (nS (nF [mV 127 125,oV 128 1 123 125,oJ 129 128,mV 16 127,mV 17 129]) (nF [mV 131 9,mV 132 13,mV 133 16,oN 134 .add 132 133,mV 135 9,mV 136 13,mV 137 16,oN 138 .add 136 137,oV 139 1 135 138,oJ 140 139,mV 141 17,mV 142 15,bu 143 271 140 141 142,mV 130 143,oR 144 0 130,oR 145 1 130,oV 146 1 131 134,oK 1 146 144 false,mV 15 145]))) (nF [oO 147 .add 125 1,mV 125 147]))))
def Dm : AC:=(nS (nS (nF [mV 76 13,oO 77 .geq 76 0]) (nC 77 .skip (.exit 2))) (nS (.block 3 (nS (nT [mV 80 9,mV 81 13,mV 82 11,oN 83 .add 81 82,oV 84 1 80 83,oJ 85 84,mV 86 9,mV 87 13,mV 88 11,oN 89 .add 87 88,oO 90 .sub 89 1,oV 91 1 86 90,oJ 92 91,mV 93 9,mV 94 13,mV 95 11,oN 96 .add 94 95,oO 97 .sub 96 2,oV 98 1 93 97,oJ 99 98,mV 100 10,mV 101 11,oO 102 .sub 101 1,oV 103 1 100 102,oJ 104 103,mV 105 10,mV 106 11,oO 107 .sub 106 2,oV 108 1 105 107,oJ 109 108,oB5 110 269 85 92 99 104 109,mV 14 110]) (nS (nS (nF [mV 111 9,mV 112 13,mV 113 13,mV 114 11,
 oN 115 .add 113 114,oO 116 .add 115 1,oP 117 (.slice 1 (.t 111) (some (.t 112)) (some (.t 116)) none),mV 118 10,mV 119 14,bu 120 270 117 118 119]) (nC 120 (nS (nF [mV 121 14,oP 122 (.bin .num .sub (.t 121) (.c (.int .u64 1))),mV 14 122]) (nS (nF [oP 15 (.mv (.c (.int .u32 0)))]) (nS (nS (nF [mV 123 10,oT 124 123,oP 125 (nV 0)]) (.block 4 (.loop Dl))) (nF [mV 148 9,mV 149 13,mV 150 11,oN 151 .add 149 150,oV 152 1 148 151,oJ 153 152,mV 154 15,oN 155 .add 153 154,oV 156 1 148 151,oK 1 156 155 false])))) .skip)) (nF [mV 157 12,
 mV 158 13,mV 159 14,oP 160 (.conv .u32 (.t 159)),oV 161 1 157 158,oK 1 161 160 false])))) (nF [mV 78 13,oO 79 .sub 78 1,mV 13 79])))
@[simp] def Il : AFn:=nG [.tmp 4,.tmp 5] (nS (nF [oP 4 (.mv (.c .nil)),oP 5 (.mv (.c .nil))]) (nS (nF [mV 18 0,aq 19 111 18,mV 20 1,aq 21 111 20,mV 0 19,mV 1 21]) (nS (nS (nF [mV 22 0,mV 23 1,aG 24 99 22 23,oO 25 .lss 24 0]) (nC 25 (nR [mV 26 0,aq 27 221 26,oP 4 (.mv (.c .nil)),mV 5 27]) .skip)) (nS (nS (nF [mV 28 1,oT 29 28,oO 30 .eql 29 1]) (nC 30 (nS (nF [mV 32 0,mV 33 1,oP 34 (.iaddr 1 (.t 33) (.c (.int .i64 0))),oJ 35 34,aG 36 267 32 35,mV 31 36,oR 37 0 31,oR 38 1 31,mV 6 37,
 mV 7 38]) (nR [mV 39 6,mV 40 7,oP 41 (.bslice 1 1 (.int .u32 0) [(0,.t 40)]),mV 4 39,mV 5 41])) .skip)) (nS (nF [mV 42 1,mV 43 1,oT 44 43,oO 45 .sub 44 1,oV 46 1 42 45,oJ 47 46,aq 48 268 47,mV 8 48]) (nS (nF [mV 49 0,mV 50 8,aG 51 116 49 50,mV 52 1,mV 53 8,aG 54 116 52 53,aq 55 111 54,mV 9 51,mV 10 55]) (nS (.block 0 (.loop ZA)) (nS (nF [mV 64 10,oT 65 64,mV 11 65]) (nS (nF [mV 66 9,oT 67 66,mV 68 11,oN 69 .sub 67 68,oP 70 (.mkslice 1 4 (.int .u32 0) (.t 69) (.t 69)),mV 12 70]) (nS (nS (nF [mV 71 9,
 oT 72 71,mV 73 11,oN 74 .sub 72 73,oO 75 .sub 74 1,mV 13 75]) (.block 2 (.loop Dm))) (nR [mV 162 12,mV 163 9,mV 164 11,oP 165 (.slice 1 (.t 163) none (some (.t 164)) none),mV 166 8,aG 167 262 165 166,mV 4 162,mV 5 167])))))))))))
@[simp] def JP : AFn:=nG [.tmp 2] (nS (nF [oP 2 (nV 0)]) (nS (nS (nF [mV 3 0,oP 4 (.bin .num .eql (.t 3) (.c (.int .u32 0)))]) (nC 4 (nR [oP 2 (nV 32)]) .skip)) (nR [mV 5 0,mV 6 0,oP 7 (.un .neg (.t 6)),oN 8 .and 5 7,oP 9 (.bin .num .mul (.t 8) (.c (.int .u32 125613361))),oP 10 (.bin .num .shr (.t 9) (.c (.int .u64 27))),oP 11 (.aiaddr 32 1 (.c (.eptr [.int .u8 0,.int .u8 1,.int .u8 28,.int .u8 2,.int .u8 29,.int .u8 14,.int .u8 24,.int .u8 3,.int .u8 30,.int .u8 22,.int .u8 20,.int .u8 15,.int .u8 25,.int .u8 17,.int .u8 4,.int .u8 8,.int .u8 31,.int .u8 27,.int .u8 13,.int .u8 23,.int .u8 21,.int .u8 19,.int .u8 16,.int .u8 7,.int .u8 26,.int .u8 12,.int .u8 18,.int .u8 6,.int .u8 11,.int .u8 5,.int .u8 10,.int .u8 9])) (.t 10)),
 oJ 12 11,oP 13 (.conv .i64 (.t 12)),mV 2 13])))
def C4 : AC:=(nS (nF [oN 26 .lss 25 24]) (nS (nC 26 .skip (.exit 0)) (nS (.block 1 (nS (nF [mV 27 25,oV 28 1 23 25,oJ 29 28,mV 6 27,mV 7 29]) (nS (nF [mV 30 7,oP 31 (.conv .u64 (.t 30)),mV 8 31]) (nS (nS (nF [mV 32 6,oO 33 .add 32 1,mV 34 0,oT 35 34,oN 36 .lss 33 35]) (nC 36 (nF [mV 37 8,mV 38 0,mV 39 6,oO 40 .add 39 1,oV 41 1 38 40,oJ 42 41,oP 43 (.conv .u64 (.t 42)),oP 44 (.bin .num .shl (.t 43) (.c (.int .u64 32))),oN 45 .or 37 44,mV 8 45]) .skip)) (nF [mV 46 5,mV 47 6,mV 48 8,mV 49 1,oO 50 .rem 49 32,
 oN 51 .shr 48 50,oP 52 (.conv .u32 (.t 51)),oV 53 1 46 47,oK 1 53 52 false]))))) (nF [oO 54 .add 25 1,mV 25 54]))))
@[simp] def Fu : AFn:=nG [.tmp 4] (nS (nF [oP 4 (.mv (.c .nil))]) (nS (nF [mV 9 0,aq 10 111 9,mV 0 10]) (nS (nS (nF [mV 11 1,oO 12 .quo 11 32,mV 13 0,oT 14 13,oN 15 .geq 12 14]) (nC 15 (nR [oP 4 (.mv (.c .nil))]) .skip)) (nS (nF [mV 16 0,mV 17 1,oO 18 .quo 17 32,oP 19 (.slice 1 (.t 16) (some (.t 18)) none none),mV 0 19]) (nS (nF [mV 20 0,oT 21 20,oP 22 (.mkslice 1 4 (.int .u32 0) (.t 21) (.t 21)),mV 5 22]) (nS (nS (nF [mV 23 0,oT 24 23,oP 25 (nV 0)]) (.block 0 (.loop C4))) (nR [mV 55 5,
 mV 4 55])))))))
def H4 : AC:=(nS (nS (nF [mV 9 7,mV 10 0,oT 11 10,oN 12 .lss 9 11]) (nC 12 .skip (.exit 0))) (nS (.block 1 (nS (nF [mV 15 0,mV 16 7,aG 17 249 15 16,oP 18 (.bin .num .add (.t 17) (.c (.int .u64 4294967296))),mV 19 1,mV 20 7,aG 21 249 19 20,oN 22 .sub 18 21,mV 23 6,oN 24 .sub 22 23,mV 8 24]) (nS (nF [mV 25 5,mV 26 8,oP 27 (.bin .num .and (.t 26) (.c (.int .u64 4294967295))),oP 28 (.conv .u32 (.t 27)),oP 29 (.bslice 1 1 (.int .u32 0) [(0,.t 28)]),oP 30 (.append 1 4 (.t 25) (.t 29)),mV 5 30]) (nF [mV 31 8,oP 32 (.bin .num .shr (.t 31) (.c (.int .u64 32))),
 oP 33 (.bin .num .sub (.c (.int .u64 1)) (.t 32)),mV 6 33])))) (nF [mV 13 7,oO 14 .add 13 1,mV 7 14])))
@[simp] def EW : AFn:=nG [.tmp 4] (nS (nF [oP 4 (.mv (.c .nil))]) (nS (nF [oP 5 (.mv (.c .nil))]) (nS (nF [oP 6 (.mv (.c (.int .u64 0)))]) (nS (nS (nF [oP 7 (nV 0)]) (.block 0 (.loop H4))) (nR [mV 34 5,aq 35 247 34,mV 4 35])))))
def ve : AC:=(nS (nF [oN 24 .lss 23 22]) (nS (nC 24 .skip (.exit 0)) (nS (.block 1 (nS (nF [mV 25 23,oV 26 1 21 23,oJ 27 26,mV 7 25,mV 8 27]) (nS (nF [oP 9 (.mv (.c (.int .u32 0)))]) (nS (nS (nF [mV 28 7,mV 29 1,oT 30 29,oN 31 .lss 28 30]) (nC 31 (nF [mV 32 1,mV 33 7,oV 34 1 32 33,oJ 35 34,mV 9 35]) .skip)) (nF [mV 37 5,mV 38 7,mV 39 8,mV 40 9,mV 41 6,bu 42 271 39 40 41,mV 36 42,oR 43 0 36,oR 44 1 36,oV 45 1 37 38,oK 1 45 43 false,mV 6 44]))))) (nF [oO 46 .add 23 1,mV 23 46]))))
@[simp] def Fs : AFn:=nG [.tmp 4] (nS (nF [oP 4 (.mv (.c .nil))]) (nS (nS (nF [mV 10 0,oT 11 10,mV 12 1,oT 13 12,oN 14 .lss 11 13]) (nC 14 (nF [mV 15 1,mV 16 0,mV 0 15,mV 1 16]) .skip)) (nS (nF [mV 17 0,oT 18 17,oO 19 .add 18 1,oP 20 (.mkslice 1 4 (.int .u32 0) (.t 19) (.t 19)),mV 5 20]) (nS (nF [oP 6 (.mv (.c (.int .u32 0)))]) (nS (nS (nF [mV 21 0,oT 22 21,oP 23 (nV 0)]) (.block 0 (.loop ve))) (nS (nF [mV 47 5,mV 48 0,oT 49 48,mV 50 6,oV 51 1 47 49,oK 1 51 50 false]) (nR [mV 52 5,
 mV 4 52])))))))
@[simp] def EP : AFn:=nG [.cell 6 true 3,.tmp 7] (nS (nF [oM 6,oP 7 (nV 0)]) (nS (nS (nF [mV 8 1,oT 9 8,oO 10 .gtr 9 256,mV 11 10,oE 12 11 2,dN 13 11 223 12,gF 14 11 (nU 13),oX 15 11 14]) (nC 15 (nR [oP 16 (.build nD []),oK 3 6 16 false,oP 7 (nV 1)]) .skip)) (nR [mV 17 0,mV 18 1,mV 19 2,bu 20 225 17 18 19,aq 21 224 20,oR 22 0 21,oR 23 1 21,oK 3 6 22 false,mV 7 23])))
def C5 : AC:=(nS (nF [oN 20 .lss 19 18]) (nS (nC 20 .skip (.exit 0)) (nS (.block 1 (nS (nF [mV 21 19,oV 22 1 17 19,oJ 23 22,mV 7 21,mV 8 23]) (nS (nF [oP 9 (.mv (.c (.int .u32 0)))]) (nS (nS (nF [mV 24 7,mV 25 1,oT 26 25,oN 27 .lss 24 26]) (nC 27 (nF [mV 28 1,mV 29 7,oV 30 1 28 29,oJ 31 30,mV 9 31]) .skip)) (nF [mV 33 5,mV 34 7,mV 35 8,mV 36 9,mV 37 6,bu 38 272 35 36 37,mV 32 38,oR 39 0 32,oR 40 1 32,oV 41 1 33 34,oK 1 41 39 false,mV 6 40]))))) (nF [oO 42 .add 19 1,mV 19 42]))))
@[simp] def Fv : AFn:=nG [.tmp 4] (nS (nF [oP 4 (.mv (.c .nil))]) (nS (nF [mV 10 0,aq 11 111 10,mV 12 1,aq 13 111 12,mV 0 11,mV 1 13]) (nS (nF [mV 14 0,oT 15 14,oP 16 (.mkslice 1 4 (.int .u32 0) (.t 15) (.t 15)),mV 5 16]) (nS (nF [oP 6 (.mv (.c (.int .u32 0)))]) (nS (nS (nF [mV 17 0,oT 18 17,oP 19 (nV 0)]) (.block 0 (.loop C5))) (nR [mV 43 5,mV 4 43]))))))
def Ja : AC:=(nS (nS (nF [mV 15 8,oO 16 .geq 15 0]) (nC 16 .skip (.exit 0))) (nS (.block 1 (nF [mV 20 6,mV 21 8,mV 22 7,mV 23 0,mV 24 8,oV 25 1 23 24,oJ 26 25,mV 27 1,bu 28 273 22 26 27,mV 19 28,oR 29 0 19,oR 30 1 19,oV 31 1 20 21,oK 1 31 29 false,mV 7 30])) (nF [mV 17 8,oO 18 .sub 17 1,mV 8 18])))
@[simp] def HE : AFn:=nG [.tmp 4,.tmp 5] (nS (nF [oP 4 (.mv (.c .nil)),oP 5 (.mv (.c (.int .u32 0)))]) (nS (nF [mV 9 0,oT 10 9,oP 11 (.mkslice 1 4 (.int .u32 0) (.t 10) (.t 10)),mV 6 11]) (nS (nF [oP 7 (.mv (.c (.int .u32 0)))]) (nS (nS (nF [mV 12 0,oT 13 12,oO 14 .sub 13 1,mV 8 14]) (.block 0 (.loop Ja))) (nR [mV 32 6,mV 33 7,mV 4 32,mV 5 33])))))
@[simp] def JN : AFn:=nG [.tmp 2] (nS (nF [oP 2 (nV 0)]) (nR [mV 3 0,aq 4 113 3,oP 5 (.bin .num .sub (.c (.int .i64 32)) (.t 4)),mV 2 5]))
@[simp] def HD : AFn:=nG [.tmp 10] (nS (nF [oP 10 (.mv (.c (.int .u64 0)))]) (nS (nS (nF [mV 12 0,mV 13 3,oN 14 .geq 12 13]) (nC 14 (nR [mV 15 0,mV 16 3,oN 17 .sub 15 16,oP 18 (.conv .u64 (.t 17)),oP 19 (.bin .num .shl (.t 18) (.c (.int .u64 32))),mV 20 1,oP 21 (.conv .u64 (.t 20)),oN 22 .add 19 21,mV 23 3,oP 24 (.conv .u64 (.t 23)),oN 25 .add 22 24,mV 26 2,mV 27 3,mV 28 4,oP 29 (.call (.f 274) [.c (.int .u64 4294967295),.t 25,.t 26,.t 27,.t 28]),mV 10 29]) .skip)) (nS (nF [mV 30 0,oP 31 (.conv .u64 (.t 30)),oP 32 (.bin .num .shl (.t 31) (.c (.int .u64 32))),
 mV 33 1,oP 34 (.conv .u64 (.t 33)),oN 35 .or 32 34,mV 11 35]) (nS (nT [mV 36 11,mV 37 3,oP 38 (.conv .u64 (.t 37)),oN 39 .quo 36 38,mV 40 11,mV 41 3,oP 42 (.conv .u64 (.t 41)),oN 43 .rem 40 42,mV 44 2,mV 45 3,mV 46 4,oB5 47 274 39 43 44 45 46,mV 10 47]) .ret))))
def Df : AC:=(nS (nF [oN 17 .lss 16 15]) (nS (nC 17 .skip (.exit 0)) (nS (.block 1 (nS (nF [mV 18 16,oV 19 1 14 16,oJ 20 19,mV 9 18,mV 10 20]) (nS (nF [mV 21 2,mV 22 10,oP 23 (.conv .u64 (.t 22)),oN 24 .mul 21 23,mV 25 7,oN 26 .add 24 25,mV 11 26]) (nS (nF [mV 27 11,oP 28 (.bin .num .shr (.t 27) (.c (.int .u64 32))),mV 7 28]) (nS (nF [mV 29 0,mV 30 9,oV 31 1 29 30,oJ 32 31,oP 33 (.conv .u64 (.t 32)),mV 34 11,oP 35 (.bin .num .and (.t 34) (.c (.int .u64 4294967295))),oN 36 .sub 33 35,mV 37 8,oN 38 .sub 36 37,mV 12 38]) (nF [mV 39 0,
 mV 40 9,mV 41 12,oP 42 (.conv .u32 (.t 41)),mV 43 12,oP 44 (.bin .num .shr (.t 43) (.c (.int .u64 63))),oV 45 1 39 40,oK 1 45 42 false,mV 8 44])))))) (nF [oO 46 .add 16 1,mV 16 46]))))
@[simp] def CU : AFn:=⟨[.tmp 6],(nS (nF [oZ 6 false]) (nS (nF [oP 7 (.mv (.c (.int .u64 0))),oP 8 (.mv (.c (.int .u64 0)))]) (nS (nS (nF [mV 14 1,oT 15 14,oP 16 (nV 0)]) (.block 0 (.loop Df))) (nS (nF [mV 47 0,mV 48 1,oT 49 48,oV 50 1 47 49,oJ 51 50,oP 52 (.conv .u64 (.t 51)),mV 53 7,oN 54 .sub 52 53,mV 55 8,oN 56 .sub 54 55,mV 13 56]) (nS (nF [mV 57 0,mV 58 1,oT 59 58,mV 60 13,oP 61 (.conv .u32 (.t 60)),oV 62 1 57 59,oK 1 62 61 false]) (nR [mV 63 13,oP 64 (.bin .num .shr (.t 63) (.c (.int .u64 63))),
 oP 65 (.bin .num .eql (.t 64) (.c (.int .u64 1))),mV 6 65])))))),false,true⟩
@[simp] def IN : AFn:=nG [.tmp 6,.tmp 7] (nS (nF [oP 6 (.mv (.c (.int .u32 0))),oP 7 (.mv (.c (.int .u32 0)))]) (nS (nF [mV 9 0,oP 10 (.conv .u64 (.t 9)),mV 11 1,oP 12 (.conv .u64 (.t 11)),oN 13 .add 10 12,mV 14 2,oP 15 (.conv .u64 (.t 14)),oN 16 .add 13 15,mV 8 16]) (nS (nF [mV 17 8,oP 18 (.conv .u32 (.t 17)),mV 6 18]) (nR [mV 19 8,oP 20 (.bin .num .shr (.t 19) (.c (.int .u64 32))),oP 21 (.conv .u32 (.t 20)),mV 7 21]))))
@[simp] def IQ : AFn:=nG [.tmp 6,.tmp 7] (nS (nF [oP 6 (.mv (.c (.int .u32 0))),oP 7 (.mv (.c (.int .u32 0)))]) (nS (nF [mV 8 0,mV 9 1,oN 10 .sub 8 9,mV 11 2,oN 12 .sub 10 11,mV 6 12]) (nR [mV 13 0,oP 14 (.un .xor (.t 13)),mV 15 1,oN 16 .and 14 15,mV 17 0,mV 18 1,oN 19 .xor 17 18,oP 20 (.un .xor (.t 19)),mV 21 6,oN 22 .and 20 21,oN 23 .or 16 22,oP 24 (.bin .num .shr (.t 23) (.c (.int .u64 31))),mV 7 24])))
@[simp] def IP : AFn:=nG [.tmp 6,.tmp 7] (nS (nF [oP 6 (.mv (.c (.int .u32 0))),oP 7 (.mv (.c (.int .u32 0)))]) (nS (nS (nF [mV 9 2,oP 10 (.bin .num .neq (.t 9) (.c (.int .u32 0))),mV 11 10,oF 12 11 2,oF 13 11 0,gT 14 11 (nY .leq 12 13),oY 15 11 14]) (nC 15 .stop .skip)) (nS (nF [mV 17 0,oP 18 (.conv .u64 (.t 17)),oP 19 (.bin .num .shl (.t 18) (.c (.int .u64 32))),mV 20 1,oP 21 (.conv .u64 (.t 20)),oN 22 .or 19 21,mV 8 22]) (nS (nT [mV 23 8,mV 24 2,oP 25 (.conv .u64 (.t 24)),oN 26 .quo 23 25,oP 27 (.conv .u32 (.t 26)),
 mV 28 8,mV 29 2,oP 30 (.conv .u64 (.t 29)),oN 31 .rem 28 30,oP 32 (.conv .u32 (.t 31)),mV 6 27,mV 7 32]) .ret))))
def Da : AC:=(nS (nS (nF [mV 11 1,oP 12 (.bin .num .lss (.t 11) (.c (.int .u64 4294967296))),mV 13 12,oF 14 13 0,oF 15 13 4,gT 16 13 (.conv .u64 (.t 15)),gT 17 13 (nY .mul 14 16),oF 18 13 1,gT 19 13 (.bin .num .shl (.t 18) (.c (.int .u64 32))),oF 20 13 2,gT 21 13 (.conv .u64 (.t 20)),gT 22 13 (nY .or 19 21),gT 23 13 (nY .gtr 17 22),oY 24 13 23]) (nC 24 .skip (.exit 0))) (.block 1 (nS (nF [mV 25 0,oP 26 (.bin .num .sub (.t 25) (.c (.int .u64 1))),mV 0 26]) (nF [mV 27 1,mV 28 3,oP 29 (.conv .u64 (.t 28)),
 oN 30 .add 27 29,mV 1 30]))))
@[simp] def Hl : AFn:=nG [.tmp 10] (nS (nF [oP 10 (.mv (.c (.int .u64 0)))]) (nS (.block 0 (.loop Da)) (nR [mV 31 0,mV 10 31])))
@[simp] def GK : AFn:=nG [.tmp 0] (nS (nF [oZ 0 false]) (nS (nF [oP 5 (.call (.f 293) [.c (.int .i64 1)]),oP 6 (.call (.f 291) [.t 5,.c (.int .i64 2)]),mV 1 6]) (nS (nF [oP 7 (.call (.f 293) [.c (.int .i64 1)]),oP 8 (.call (.f 158) [.t 7,.c (.int .i64 (-1))]),oL 2,oK 7 2 8 false]) (nS (nF [mV 9 1,oP 10 (.call (.f 311) [.t 9,.c (.int .i64 24)]),mV 3 10]) (nS (nF [oP 11 (.call (.f 293) [.c (.int .i64 1)]),oP 12 (.call (.f 290) [.t 11,.c (.int .i64 2)]),mV 13 1,oP 14 (.call (.f 303) [.t 12,.t 13,.c (.int .i64 24)]),
 mV 4 14]) (nS (nT [mV 15 3,oP 16 (.call (.f 293) [.c (.int .i64 1)]),oI 17 7 2,oP 18 (.call (.f 293) [.c (.int .i64 (-1))]),oP 19 (.call (.f 158) [.t 18,.c (.int .i64 (-3))]),oS 20 (.bslice 7 3 (.agg nI) [(0,.t 16),(1,.t 17),(2,.t 19)]),eO 21 286 15 20,mV 22 21,oF 23 22 4,⟨some 24,.call (.f 293) [.c (.int .i64 1)],some (22,true),true⟩,⟨some 25,.call (.f 293) [.c (.int .i64 (-1))],some (22,true),true⟩,⟨some 26,.call (.f 293) [.c (.int .i64 1)],some (22,true),true⟩,⟨some 27,.bslice 7 3 (.agg nI) [(0,.t 24),(1,.t 25),(2,.t 26)],some (22,true),true⟩,
 ⟨some 28,.call (.f 286) [.t 23,.t 27],some (22,true),true⟩,oY 29 22 28,mV 0 29]) .ret))))))
@[simp] def GL : AFn:=nG [.tmp 4] (nS (nF [oZ 4 false]) (nR [mV 5 0,oO 6 .gtr 5 64,mV 7 6,oF 8 7 0,gT 9 7 (nX .leq 8 512),oY 10 7 9,mV 11 10,oE 12 11 1,gF 13 11 (.call (.f 312) [.t 12,.f 313]),oX 14 11 13,mV 4 14]))
@[simp] def FX : AFn:=nG [.tmp 4] (nS (nF [oZ 4 false]) (nR [mV 5 0,mV 6 1,oP 7 (.call (.f 82) [.t 5,.t 6,.f 60]),mV 4 7]))
@[simp] def C6 : AFn:=⟨[.tmp 4],(nS (nF [oU 2 7 0,oP 4 (.mv (.c .nil))]) (nS (nS (nF [mV 6 1,oO 7 .lss 6 0,mV 8 7,oE 9 8 1,gF 10 8 (nX .gtr 9 16),oX 11 8 10]) (nC 11 (nR [oP 4 (.mv (.c .nil))]) .skip)) (nS (nF [mV 12 1,oO 13 .add 12 1,oP 14 (.mkslice 7 88 (.agg [.bool false,.sl [],.int .i64 0,.bool false,.sl [],.int .i64 0,.bool false]) (.t 13) (.t 13)),mV 5 14]) (nS (nF [mV 15 5,oI 16 7 2,oP 17 (.iaddr 7 (.t 15) (.c (.int .i64 0))),oK 7 17 16 false]) (nR [mV 18 5,
 mV 4 18]))))),true,false⟩
@[simp] def IS : AFn:=nG [.tmp 4] (nS (nF [oU 2 7 0,oP 4 (.mv (.c .nil))]) (nS (nF [oI 6 7 2,mV 7 1,aG 8 290 6 7,mV 5 8]) (nS (nS (nF [mV 9 1,oO 10 .gtr 9 0,mV 11 10,oF 12 11 5,gT 13 11 (.bin .slice .neq (.t 12) (.c .nil)),oY 14 11 13]) (nC 14 (nF [mV 15 5,oP 16 (.call (.f 316) [.c (.int .i64 1)]),oP 17 (.iaddr 7 (.t 15) (.c (.int .i64 1))),oK 7 17 16 false]) .skip)) (nR [mV 18 5,mV 4 18]))))
@[simp] def Fk : AFn:=nG [.cell 2 true 7] (nS (nF [oL 2]) (nR [mV 3 0,aq 4 74 3,aq 5 153 4,oK 7 2 5 false]))
def HJ : AC:=(nS (nF [oN 21 .lss 20 19]) (nS (nC 21 .skip (.exit 0)) (nS (.block 1 (nS (nF [mV 22 20,oP 8 (.new 1 (.int .i64 0)),oK 1 8 22 false]) (nS (nT [mV 23 0,oJ 24 8,oV 25 7 23 24,oI 26 7 25,oJ 27 8,oO 28 .sub 27 1,oJ 29 5,oP 30 (.mkfn 325 [.t 7,.t 4,.t 8,.t 5]),oP 31 (.call (.f 324) [.t 26,.c (.int .i64 0),.t 28,.t 29,.t 30]),oL 9,oK 7 9 31 true]) (nT [oJ 32 7,oI 33 7 9,oJ 34 4,oP 35 (.iaddr 7 (.t 34) (.c (.int .i64 0))),oI 36 7 35,oJ 37 5,bu 38 142 33 36 37,oP 39 (.bslice 7 1 (.agg nI) [(0,.t 38)]),
 oS 40 (.append 7 88 (.t 32) (.t 39)),oK 1 7 40 true])))) (nF [oO 41 .add 20 1,mV 20 41]))))
@[simp] def EG : AFn:=nG [.tmp 6] (nS (nF [oU 4 1 1,oU 5 1 2,oP 6 (.mv (.c .nil))]) (nS (nS (nF [mV 10 0,oJ 11 4,oP 12 (.bslice 1 2 .nil [(0,.t 10),(1,.t 11)]),aq 13 315 12,oW 14 13]) (nC 14 (nR [oP 6 (.mv (.c .nil))]) .skip)) (nS (nF [mV 15 0,oT 16 15,oP 17 (.mkslice 7 88 (.agg [.bool false,.sl [],.int .i64 0,.bool false,.sl [],.int .i64 0,.bool false]) (.c (.int .i64 0)) (.t 16)),oP 7 (.new 1 .nil),oK 1 7 17 false]) (nS (nS (nF [mV 18 0,oT 19 18,oP 20 (nV 0)]) (.block 0 (.loop HJ))) (nR [oJ 42 7,
 mV 6 42])))))
def Is : AC:=(nS (nS (nF [oJ 28 7,mV 29 0,oT 30 29,oN 31 .lss 28 30]) (nC 31 .skip (.exit 0))) (nS (.block 1 (nS (nT [mV 34 0,oJ 35 7,oV 36 7 34 35,oI 37 7 36,oJ 38 7,oO 39 .sub 38 1,oJ 40 3,oP 41 (.mkfn 326 [.t 5,.t 7,.t 3]),oP 42 (.call (.f 324) [.t 37,.c (.int .i64 1),.t 39,.t 40,.t 41]),oL 8,oK 7 8 42 true]) (nT [oJ 43 5,oI 44 7 8,oI 45 7 6,oJ 46 3,bu 47 142 44 45 46,oP 48 (.bslice 7 1 (.agg nI) [(0,.t 47)]),oS 49 (.append 7 88 (.t 43) (.t 48)),oK 1 5 49 true]))) (nS (nS (nF [oJ 50 7]) (nF [oP 7 (.new 1 (.int .i64 0)),
 oK 1 7 50 false])) (nF [oJ 32 7,oO 33 .add 32 1,oK 1 7 33 false]))))
@[simp] def FO : AFn:=nG [.tmp 4] (nS (nF [oU 3 1 1,oP 4 (.mv (.c .nil))]) (nS (nS (nF [mV 9 0,oP 10 (.bslice 1 1 .nil [(0,.t 9)]),aq 11 315 10,oW 12 11]) (nC 12 (nR [oP 4 (.mv (.c .nil))]) .skip)) (nS (nF [mV 13 0,oT 14 13,oP 15 (.mkslice 7 88 (.agg [.bool false,.sl [],.int .i64 0,.bool false,.sl [],.int .i64 0,.bool false]) (.c (.int .i64 0)) (.t 14)),oP 5 (.new 1 .nil),oK 1 5 15 false]) (nS (nT [oJ 16 5,mV 17 0,oP 18 (.iaddr 7 (.t 17) (.c (.int .i64 0))),oI 19 7 18,oJ 20 3,aG 21 176 19 20,
 oP 22 (.bslice 7 1 (.agg nI) [(0,.t 21)]),oS 23 (.append 7 88 (.t 16) (.t 22)),oK 1 5 23 true]) (nS (nF [oJ 24 5,oP 25 (.iaddr 7 (.t 24) (.c (.int .i64 0))),oI 26 7 25,oP 27 (.call (.f 158) [.t 26,.c (.int .i64 1)]),oL 6,oK 7 6 27 false]) (nS (nS (nF [oP 7 (.new 1 (.int .i64 0)),⟨none,.store 1 (.t 7) (.c (.int .i64 1)),none,false⟩]) (.block 0 (.loop Is))) (nR [oJ 51 5,mV 4 51])))))))
@[simp] def JY : AFn:=nG [.tmp 4] (nS (nF [oZ 4 false]) (nR [mV 5 0,mV 6 1,aG 7 327 5 6,oO 8 .geq 7 0,mV 4 8]))
@[simp] def IW : AFn:=nG [.tmp 2] (nS (nF [oZ 2 false]) (nR [mV 3 0,oT 4 3,oO 5 .gtr 4 30,mV 6 5,oE 7 6 0,gF 8 6 (.call (.f 67) [.t 7,.f 314]),oX 9 6 8,mV 2 9]))
@[simp] def Jx : AFn:=nG [.tmp 2] (nS (nF [oU 1 7 0,oZ 2 false]) (nR [oQ 3 0 1,oQ 4 1 3,oJ 5 4,oT 6 5,oO 7 .gtr 6 20,mV 8 7,gF 9 8 (nA 3 1),gF 10 8 (nA 1 9),oG 11 8 false 1 10,gF 12 8 (.len (.t 11)),gF 13 8 (nX .gtr 12 20),oX 14 8 13,mV 2 14]))
def HA : AC:=(nS (nF [oN 8 .lss 7 6]) (nS (nC 8 .skip (.exit 0)) (nS (.block 1 (nS (nF [oV 9 1 5 7,oJ 10 9,mV 4 10]) (nS (nF [mV 11 4,oT 12 11,oO 13 .lss 12 1,mV 14 13,oE 15 14 4,gF 16 14 (.len (.t 15)),gF 17 14 (nX .gtr 16 17),oX 18 14 17,mV 19 18,oE 20 19 4,gF 21 19 (.len (.t 20)),oE 22 19 0,gF 23 19 (.iaddr 1 (.t 22) (.c (.int .i64 0))),oG 24 19 false 1 23,gF 25 19 (.len (.t 24)),gF 26 19 (nY .neq 21 25),oX 27 19 26]) (nC 27 (nR [oZ 2 false]) .skip)))) (nF [oO 28 .add 7 1,
 mV 7 28]))))
@[simp] def EJ : AFn:=nG [.tmp 2] (nS (nF [oZ 2 false]) (nS (nS (nF [mV 5 0,oT 6 5,oP 7 (nV 0)]) (.block 0 (.loop HA))) (nR [oZ 2 true])))
@[simp] def Gs : AFn:=nG [.cell 2 true 7] (nS (nF [oL 2]) (nR [mV 3 0,aq 4 210 3,aq 5 152 4,oK 7 2 5 false]))
def HB : AC:=(nS (nS (nF [mV 16 10,mV 17 1,oN 18 .leq 16 17]) (nC 18 .skip (.exit 0))) (nS (.block 1 (nT [oI 21 7 9,mV 22 3,mV 23 10,oP 24 (.call (.t 22) [.t 23]),mV 25 2,dO 26 138 21 24 25,oK 7 9 26 true])) (nF [mV 19 10,oO 20 .add 19 1,mV 10 20])))
@[simp] def Ew : AFn:=nG [.cell 8 true 7] (nS (nF [oL 8]) (nS (nF [mV 11 3,mV 12 0,oP 13 (.call (.t 11) [.t 12]),oL 9,oK 7 9 13 false]) (nS (nS (nF [mV 14 0,oO 15 .add 14 1,mV 10 15]) (.block 0 (.loop HB))) (nR [oI 27 7 9,oK 7 8 27 false]))))
def It : AC:=(nS (nS (nF [mV 13 11,mV 14 2,oN 15 .leq 13 14]) (nC 15 .skip (.exit 0))) (nS (.block 1 (nT [oI 18 7 5,mV 19 4,mV 20 11,oP 21 (.call (.t 19) [.t 20]),mV 22 3,dO 23 139 18 21 22,oK 7 5 23 true])) (nF [mV 16 11,oO 17 .add 16 1,mV 11 17])))
@[simp] def FP : AFn:=nG [.cell 10 true 7] (nS (nF [oU 5 7 0,oL 10]) (nS (nS (nF [mV 12 1,mV 11 12]) (.block 0 (.loop It))) (nR [oI 24 7 5,oK 7 10 24 false])))
@[simp] def Gq : AFn:=nG [.cell 6 true 7] (nS (nF [oL 6]) (nS (nT [oJ 7 1,mV 8 0,oV 9 7 7 8,oI 10 7 9,oJ 11 2,oJ 12 3,mV 13 0,oN 14 .sub 12 13,oV 15 7 11 14,oI 16 7 15,oJ 17 4,dO 18 140 10 16 17,oK 7 6 18 true]) .ret))
@[simp] def Hz : AFn:=nG [.cell 5 true 7] (nS (nF [oL 5]) (nS (nT [oJ 6 1,mV 7 0,oV 8 7 6 7,oI 9 7 8,oJ 10 1,oJ 11 2,mV 12 0,oN 13 .sub 11 12,oV 14 7 10 13,oI 15 7 14,oJ 16 3,dO 17 140 9 15 16,oK 7 5 17 true]) .ret))
def JZ : AC:=(nS (nF [oN 9 .lss 8 7]) (nS (nC 9 .skip (.exit 0)) (nS (.block 1 (nS (nF [mV 10 8,mV 5 10]) (nS (nF [mV 11 1,mV 12 0,mV 13 5,oV 14 1 12 13,oJ 15 14,oP 16 (.call (.t 11) [.t 15])]) (nC 16 (nR [mV 17 5,mV 4 17]) .skip)))) (nF [oO 18 .add 8 1,mV 8 18]))))
@[simp] def JS : AFn:=nG [.tmp 4] (nS (nF [oP 4 (nV 0)]) (nS (nS (nF [mV 6 0,oT 7 6,oP 8 (nV 0)]) (.block 0 (.loop JZ))) (nR [oP 4 (nV (-1))])))
@[simp] def FW : AFn:=nG [.cell 4 true 7] (nS (nF [oU 2 7 0,oL 4]) (nS (nS (nF [oI 5 7 2,mV 6 1,aG 7 429 5 6,oW 8 7,mV 9 8,gF 10 9 (nA 0 2),oG 11 9 true 3 10,dN 12 9 79 11,gF 13 9 (nX .leq 12 0),oX 14 9 13]) (nC 14 (nR [dn 15 107,oK 7 4 15 false]) .skip)) (nS (nT [oQ 16 0 2,oI 17 3 16,mV 18 1,aG 19 431 17 18,oQ 20 3 2,oI 21 3 20,mV 22 1,eO 23 431 21 22,eO 24 430 19 23,oK 7 4 24 true]) .ret)))
@[simp] def Fa : AFn:=nG [.cell 2 true 7] (nS (nF [oU 1 3 0,oL 2]) (nS (nF [oI 6 3 1,aq 7 55 6,mV 3 7]) (nS (nF [oI 8 3 1,aq 9 153 8,mV 10 3,oP 11 (.bin .num .sub (.c (.int .i64 0)) (.t 10)),aG 12 159 9 11,oL 4,oK 7 4 12 false]) (nS (nT [oI 13 7 4,oP 14 (.call (.f 426) [.c (.int .i64 (-1))]),aG 15 433 13 14,oI 16 7 4,oP 17 (.call (.f 426) [.c (.int .i64 1)]),aG 18 433 16 17,aG 19 432 15 18,oL 5,oK 7 5 19 true]) (nR [oI 20 7 5,aq 21 434 20,mV 22 3,aq 23 426 22,dn 24 427,aG 25 435 23 24,aG 26 433 21 25,oK 7 2 26 false])))))
@[simp] def FV : AFn:=nG [.cell 4 true 7] (nS (nF [oU 2 7 0,oL 4]) (nS (nS (nF [oI 5 7 2,mV 6 1,aG 7 429 5 6,oW 8 7,mV 9 8,gF 10 9 (nA 0 2),oG 11 9 true 3 10,dN 12 9 437 11,gF 13 9 (nU 12),oX 14 9 13,mV 15 14,gF 16 15 (nA 3 2),oG 17 15 true 3 16,dN 18 15 437 17,gF 19 15 (nU 18),oX 20 15 19]) (nC 20 (nR [dn 21 107,oK 7 4 21 false]) .skip)) (nS (nT [oQ 22 0 2,oI 23 3 22,mV 24 1,aG 25 438 23 24,oQ 26 3 2,oI 27 3 26,mV 28 1,eO 29 438 27 28,eO 30 430 25 29,oK 7 4 30 true]) .ret)))
def H6 : AC:=(nS (nS (nF [mV 25 7,oO 26 .leq 25 20]) (nC 26 .skip (.exit 0))) (nS (.block 1 (nS (nF [oI 29 7 6,oI 30 7 4,aG 31 435 29 30,mV 32 7,aq 33 426 32,aG 34 432 31 33,oK 7 6 34 false]) (nF [oI 35 7 5,oI 36 7 6,aG 37 433 35 36,oK 7 5 37 false]))) (nF [mV 27 7,oO 28 .add 27 1,mV 7 28])))
def H7 : AC:=(nS (nS (nF [mV 48 8,mV 49 3,oN 50 .lss 48 49]) (nC 50 .skip (.exit 2))) (nS (.block 3 (nF [oI 53 7 5,oI 54 7 5,aG 55 435 53 54,oK 7 5 55 false])) (nF [mV 51 8,oO 52 .add 51 1,mV 8 52])))
@[simp] def E9 : AFn:=nG [.cell 2 true 7] (nS (nF [oU 1 3 0,oL 2]) (nS (nS (nF [oQ 9 1 1,oJ 10 9,oT 11 10,oO 12 .eql 11 0]) (nC 12 (nR [oP 13 (.call (.f 426) [.c (.int .i64 1)]),oK 7 2 13 false]) .skip)) (nS (nF [oI 14 3 1,aq 15 55 14,oO 16 .add 15 16,oP 17 (.max (.c (.int .i64 0)) (.t 16)),mV 3 17]) (nS (nF [oI 18 3 1,aq 19 153 18,mV 20 3,oP 21 (.bin .num .sub (.c (.int .i64 0)) (.t 20)),aG 22 159 19 21,oL 4,oK 7 4 22 false]) (nS (nF [oP 23 (.call (.f 426) [.c (.int .i64 1)]),oP 24 (.call (.f 426) [.c (.int .i64 1)]),
 oL 5,oL 6,oK 7 5 23 false,oK 7 6 24 false]) (nS (nS (nF [oP 7 (nV 1)]) (.block 0 (.loop H6))) (nS (nT [oI 38 7 5,oI 39 7 6,oI 40 7 4,aG 41 435 39 40,oP 42 (.call (.f 426) [.c (.int .i64 21)]),aG 43 432 41 42,oP 44 (.call (.f 426) [.c (.int .i64 2)]),aG 45 435 43 44,aq 46 441 45,eO 47 433 38 46,oK 7 5 47 true]) (nS (nS (nF [oP 8 (nV 0)]) (.block 2 (.loop H7))) (nR [oI 56 7 5,oK 7 2 56 false])))))))))
@[simp] def GH : AFn:=nG [.cell 2 true 7] (nS (nF [oL 2]) (nS (nS (nF [mV 4 0,oO 5 .lss 4 8,mV 6 5,oE 7 6 0,gF 8 6 (nX .gtr 7 512),oX 9 6 8]) (nC 9 (nR [dn 10 107,oK 7 2 10 false]) .skip)) (nS (nF [mV 11 0,oP 12 (.call (.f 442) [.t 11,.c (.int .i64 16)]),oP 3 (.new 1 (.agg [.int .i64 0])),oK 1 3 12 false]) (nS (nT [oI 13 1 3,oI 14 1 3,oP 15 (.call (.f 445) [.c (.int .i64 1)]),oP 16 (.call (.f 445) [.c (.int .i64 3)]),bu 17 444 14 15 16,eO 18 443 13 17,mV 19 0,eO 20 149 18 19,
 oK 7 2 20 true]) .ret))))
@[simp] def Fb : AFn:=nG [.cell 2 true 7] (nS (nF [oL 2]) (nR [mV 3 0,aq 4 74 3,aq 5 153 4,oK 7 2 5 false]))
@[simp] def Gf : AFn:=nG [.cell 0 true 7] (nS (nF [oL 0]) (nR [oP 1 (.call (.f 426) [.c (.int .i64 1)]),oP 2 (.call (.f 426) [.c (.int .i64 3)]),aG 3 432 1 2,aq 4 434 3,oK 7 0 4 false]))
@[simp] def GJ : AFn:=nG [.tmp 4] (nS (nF [oU 2 7 0,oZ 4 false]) (nR [oQ 5 6 2,oJ 6 5,oW 7 6,mV 8 7,oH 9 8 true 7 2,kN 10 8 77 9,oY 11 8 10,mV 12 11,oF 13 12 1,gT 14 12 (nX .geq 13 8),oY 15 12 14,mV 16 15,oF 17 16 1,gT 18 16 (nX .leq 17 512),oY 19 16 18,mV 4 19]))
@[simp] def GI : AFn:=nG [.cell 4 true 7] (nS (nF [oU 2 7 0,oU 3 7 1,oL 4]) (nS (nS (nF [oQ 5 6 2,oJ 6 5,mV 7 6,gF 8 7 (nA 6 3),oG 9 7 false 1 8,oX 10 7 9]) (nC 10 (nR [dn 11 107,oK 7 4 11 false]) .skip)) (nR [oQ 12 0 2,oI 13 3 12,oQ 14 3 3,oI 15 3 14,oP 16 (.build nI [(0,3,.t 13),(3,3,.t 15)]),oK 7 4 16 false])))
@[simp] def Js : AFn:=nG [.cell 4 true 7] (nS (nF [oU 2 3 0,oL 4]) (nS (nS (nT [oI 9 3 2,oP 10 (.call (.f 210) [.c (.int .i64 1)]),eO 11 52 9 10,oO 12 .eql 11 0]) (nC 12 (nR [oP 13 (.build nI []),oK 7 4 13 false]) .skip)) (nS (nF [mV 14 1,oP 15 (.call (.f 442) [.t 14,.c (.int .i64 40)]),oP 5 (.new 1 (.agg [.int .i64 0])),oK 1 5 15 false]) (nS (nF [oI 16 3 2,aq 17 98 16,mV 6 17]) (nS (nT [oI 18 3 2,aq 19 152 18,
 oQ 20 0 5,oJ 21 20,aG 22 149 19 21,mV 23 6,oP 24 (.un .neg (.t 23)),aG 25 158 22 24,oL 7,oK 7 7 25 true]) (nS (nT [oI 26 1 5,oI 27 1 5,oI 28 7 7,oP 29 (.call (.f 445) [.c (.int .i64 (-1))]),bu 30 446 27 28 29,oI 31 1 5,oI 32 7 7,oP 33 (.call (.f 445) [.c (.int .i64 1)]),bu 34 446 31 32 33,bu 35 444 26 30 34,oL 8,oK 7 8 35 true]) (nS (nT [oI 36 1 5,oI 37 1 5,oI 38 7 8,aG 39 443 37 38,oI 40 1 5,mV 41 6,aq 42 445 41,oQ 43 0 5,oJ 44 43,aq 45 423 44,bu 46 447 40 42 45,dO 47 446 36 39 46,mV 48 1,eO 49 149 47 48,oK 7 4 49 true]) .ret)))))))
@[simp] def Fd : AFn:=nG [.cell 4 true 7] (nS (nF [oU 2 7 0,oU 3 7 1,oL 4]) (nR [oI 5 7 2,oI 6 7 3,oP 7 (.call (.f 175) [.t 5,.t 6,.c (.int .i64 320)]),oK 7 4 7 false]))
@[simp] def Fc : AFn:=nG [.cell 4 true 7] (nS (nF [oU 2 7 0,oU 3 7 1,oL 4]) (nR [oI 5 7 2,oI 6 7 3,oP 7 (.call (.f 145) [.t 5,.t 6,.c (.int .i64 320)]),oK 7 4 7 false]))
def Jl : AC:=(nS (nS (nF [mV 12 6,oO 13 .leq 12 100]) (nC 13 .skip (.exit 0))) (nS (.block 1 (nS (nT [oI 16 7 4,oI 17 7 5,mV 18 6,oP 19 (.bin .num .mul (.c (.int .i64 2)) (.t 18)),oO 20 .add 19 1,aq 21 426 20,aG 22 432 17 21,eO 23 433 16 22,oK 7 4 23 true]) (nF [oI 24 7 5,oI 25 7 3,aG 26 435 24 25,oK 7 5 26 false]))) (nF [mV 14 6,oO 15 .add 14 1,mV 6 15])))
@[simp] def Ia : AFn:=nG [.cell 2 true 7] (nS (nF [oU 1 7 0,oL 2]) (nS (nF [oI 8 7 1,oP 9 (.call (.f 155) [.t 8,.c (.int .i64 320)]),oL 3,oK 7 3 9 false]) (nS (nT [oP 10 (.call (.f 426) [.c (.int .i64 0)]),oP 11 (.sload true 7 1),oL 4,oL 5,⟨none,.storeN 7 (.t 4) (.t 10) [1],none,true⟩,oK 7 5 11 true]) (nS (nS (nF [oP 6 (nV 0)]) (.block 0 (.loop Jl))) (nS (nT [oI 27 7 5,oP 28 (.call (.f 426) [.c (.int .i64 9)]),aG 29 435 27 28,oP 30 (.call (.f 426) [.c (.int .i64 1624)]),aG 31 432 29 30,aq 32 441 31,
 oL 7,oK 7 7 32 true]) (nS (nT [oP 33 (.call (.f 426) [.c (.int .i64 2)]),oI 34 7 4,oI 35 7 7,eO 36 433 34 35,eO 37 435 33 36,oK 7 2 37 true]) .ret))))))
@[simp] def Fe : AFn:=nG [.cell 4 true 7] (nS (nF [oU 2 7 0,oU 3 7 1,oL 4]) (nR [oI 5 7 2,oI 6 7 3,oP 7 (.call (.f 154) [.t 5,.t 6,.c (.int .i64 320)]),oK 7 4 7 false]))
@[simp] def H8 : AFn:=nG [.tmp 6] (nS (nF [oU 3 7 0,oZ 6 false]) (nS (nT [oI 7 7 3,ij 8 70 7,mV 9 8,gT 10 9 (nA 6 3),oH 11 9 false 1 10,gT 12 9 (nU 11),oY 13 9 12,mV 14 13,gT 15 14 (nA 0 3),oH 16 14 true 3 15,oF 17 14 1,kN 18 14 74 17,⟨some 19,.call (.f 18) [.t 16,.t 18],some (14,true),true⟩,gT 20 14 (nX .geq 19 0),oY 21 14 20,mV 22 21,gT 23 22 (nA 3 3),oH 24 22 true 3 23,oF 25 22 2,kN 26 22 74 25,⟨some 27,.call (.f 18) [.t 24,.t 26],some (22,true),true⟩,gT 28 22 (nX .leq 27 0),
 oY 29 22 28,mV 6 29]) .ret))
@[simp] def Jw : AFn:=nG [.tmp 2] (nS (nF [oU 1 3 0,oZ 2 false]) (nR [oI 3 3 1,aq 4 205 3,oP 5 (.call (.f 210) [.c (.int .i64 1000)]),aG 6 52 4 5,oO 7 .leq 6 0,mV 2 7]))
@[simp] def HV : AFn:=nG [.cell 4 true 7] (nS (nF [oU 2 3 0,oL 4]) (nS (nS (nF [oI 7 3 2,aq 8 79 7,oO 9 .eql 8 0]) (nC 9 (nR [oP 10 (.call (.f 445) [.c (.int .i64 1)]),oK 7 4 10 false]) .skip)) (nS (nF [oI 11 3 2,aq 12 98 11,oO 13 .add 12 1,oP 14 (.max (.t 13) (.c (.int .i64 0))),mV 5 14]) (nS (nF [mV 15 1,mV 16 5,oO 17 .add 16 24,aG 18 442 15 17,oP 6 (.new 1 (.agg [.int .i64 0])),oK 1 6 18 false]) (nS (nT [oI 19 1 6,oI 20 3 2,aq 21 152 20,oQ 22 0 6,oJ 23 22,aG 24 149 21 23,mV 25 5,dO 26 448 19 24 25,
 mV 27 1,eO 28 149 26 27,oK 7 4 28 true]) .ret)))))
@[simp] def H9 : AFn:=nG [.cell 2 true 7] (nS (nF [oU 1 7 0,oL 2]) (nS (nS (nF [oQ 4 6 1,oJ 5 4]) (nC 5 (nR [oI 6 7 1,oK 7 2 6 false]) .skip)) (nS (nF [oI 7 7 1,aq 8 166 7,oM 3,oK 3 3 8 false]) (nS (nT [oI 9 3 3,aq 10 57 9,oI 11 3 3,oP 12 (.build nI [(0,3,.t 10),(3,3,.t 11)]),oK 7 2 12 true]) .ret))))
@[simp] def HU : AFn:=nG [.cell 4 true 1] (nS (nF [oP 4 (.new 1 (.agg [.int .i64 0]))]) (nR [mV 5 0,mV 6 1,oN 7 .add 5 6,oP 8 (.min (.t 7) (.c (.int .i64 512))),oP 9 (.build [.int .i64 0] [(0,1,.t 8)]),oK 1 4 9 false]))
def ZF : AC:=(nS (nS (nF [oI 15 1 2,oI 16 7 6,aG 17 449 15 16,oW 18 17]) (nC 18 .skip (.exit 0))) (nS (.block 1 (nS (nF [oI 21 1 2,oI 22 7 6,oI 23 7 5,bu 24 447 21 22 23,oK 7 6 24 false]) (nT [oI 25 1 2,oI 26 7 7,oI 27 1 2,oI 28 7 6,mV 29 8,aq 30 445 29,bu 31 444 27 28 30,dO 32 446 25 26 31,oK 7 7 32 true]))) (nF [mV 19 8,oO 20 .add 19 2,mV 8 20])))
@[simp] def JB : AFn:=nG [.cell 4 true 7] (nS (nF [oU 2 1 0,oU 3 7 1,oL 4]) (nS (nF [oI 9 7 3,oQ 10 0 2,oJ 11 10,aG 12 141 9 11,oL 5,oK 7 5 12 false]) (nS (nT [oI 13 7 3,oP 14 (.sload true 7 3),oL 6,oL 7,⟨none,.storeN 7 (.t 6) (.t 13) [3],none,true⟩,oK 7 7 14 true]) (nS (nS (nF [oP 8 (nV 3)]) (.block 0 (.loop ZF))) (nS (nT [oI 33 1 2,oI 34 7 7,oI 35 7 6,aq 36 450 35,dO 37 446 33 34 36,oS 38 (.call (.f 158) [.t 37,.c (.int .i64 1)]),oK 7 4 38 true]) .ret)))))
@[simp] def Jz : AFn:=nG [.cell 6 true 7] (nS (nF [oU 3 1 0,oU 4 7 1,oU 5 7 2,oL 6]) (nR [oI 7 7 4,oI 8 7 5,oQ 9 0 3,oJ 10 9,bu 11 142 7 8 10,oK 7 6 11 false]))
@[simp] def HW : AFn:=nG [.cell 2 true 7] (nS (nF [oL 2]) (nR [mV 3 0,aq 4 210 3,aq 5 152 4,oK 7 2 5 false]))
@[simp] def Jy : AFn:=nG [.cell 6 true 7] (nS (nF [oU 3 1 0,oU 4 7 1,oU 5 7 2,oL 6]) (nR [oI 7 7 4,oI 8 7 5,oQ 9 0 3,oJ 10 9,bu 11 138 7 8 10,oK 7 6 11 false]))
@[simp] def JC : AFn:=nG [.cell 6 true 7] (nS (nF [oU 3 1 0,oU 4 7 1,oU 5 7 2,oL 6]) (nR [oI 7 7 4,oI 8 7 5,oQ 9 0 3,oJ 10 9,bu 11 140 7 8 10,oK 7 6 11 false]))
@[simp] def JJ : AFn:=nG [.cell 6 true 7] (nS (nF [oU 3 1 0,oU 4 7 1,oL 6]) (nS (nS (nF [mV 7 2,oO 8 .eql 7 0]) (nC 8 (nR [oI 9 1 3,oI 10 7 4,aG 11 451 9 10,oK 7 6 11 false]) .skip)) (nS (nT [oI 12 1 3,oI 13 7 4,oP 14 (.call (.f 158) [.t 13,.c (.int .i64 (-1))]),mV 15 2,oO 16 .sub 15 1,bu 17 448 12 14 16,oQ 18 0 3,oJ 19 18,eO 20 141 17 19,oK 7 6 20 true]) .ret)))
@[simp] def JH : AFn:=nG [.tmp 4] (nS (nF [oU 2 1 0,oU 3 7 1,oZ 4 false]) (nS (nF [oI 8 7 3,aq 9 164 8,mV 7 9,oR 10 0 7,oR 11 1 7,oM 5,oK 3 5 10 false,mV 6 11]) (nS (nT [mV 12 6,oW 13 12,mV 14 13,oG 15 14 true 3 5,⟨some 16,.call (.f 79) [.t 15],some (14,false),true⟩,gF 17 14 (nX .eql 16 0),oX 18 14 17,mV 19 18,oG 20 19 true 3 5,dN 21 19 98 20,gF 22 19 (nA 0 2),oG 23 19 false 1 22,gF 24 19 (.un .neg (.t 23)),gF 25 19 (nY .leq 21 24),oX 26 19 25,mV 4 26]) .ret)))
@[simp] def IV : AFn:=nG [.cell 2 true 7] (nS (nF [oU 1 7 0,oL 2]) (nS (nF [oI 6 7 1,aq 7 164 6,mV 5 7,oR 8 0 5,oR 9 1 5,oM 3,oK 3 3 8 false,mV 4 9]) (nS (nS (nF [mV 10 4,oW 11 10]) (nC 11 (nR [dn 12 107,oK 7 2 12 false]) .skip)) (nS (nT [oI 13 3 3,aq 14 198 13,oI 15 3 3,oP 16 (.build nI [(0,3,.t 14),(3,3,.t 15)]),oK 7 2 16 true]) .ret))))
def ZE : AC:=(nS (.block 1 (nS (nT [oI 12 1 2,oI 13 1 2,oI 14 7 5,oI 15 7 3,bu 16 447 13 14 15,mV 17 7,aq 18 445 17,dO 19 444 12 16 18,oK 7 5 19 true]) (nS (nF [oI 20 1 2,oI 21 7 6,oI 22 7 5,bu 23 446 20 21 22,oK 7 6 23 false]) (nS (nF [oI 24 1 2,oI 25 7 5,aG 26 449 24 25]) (nC 26 (.exit 0) .skip))))) (nF [mV 10 7,oO 11 .add 10 1,mV 7 11]))
@[simp] def JA : AFn:=nG [.cell 4 true 7] (nS (nF [oU 2 1 0,oU 3 7 1,oL 4]) (.scope (nS (nF [oP 8 (.call (.f 445) [.c (.int .i64 1)]),oP 9 (.call (.f 445) [.c (.int .i64 1)]),oL 5,oL 6,oK 7 5 8 false,oK 7 6 9 false]) (.seq .skip (nS (nS (nF [oP 7 (nV 1)]) (.block 0 (.loop ZE))) (nS (nT [oI 27 1 2,oI 28 7 6,oI 29 7 5,aq 30 450 29,dO 31 446 27 28 30,oK 7 4 31 true]) .ret))))))
@[simp] def Ic : AFn:=nG [.cell 2 true 7] (nS (nF [oL 2]) (nS (nF [mV 6 0,oO 7 .add 6 20,mV 3 7]) (nS (nF [oP 8 (.call (.f 484) [.c (.int .i64 1)]),oP 9 (.call (.f 484) [.c (.int .i64 5)]),mV 10 3,bu 11 175 8 9 10,mV 12 3,aG 13 483 11 12,oL 4,oK 7 4 13 false]) (nS (nF [oP 14 (.call (.f 484) [.c (.int .i64 1)]),oP 15 (.call (.f 484) [.c (.int .i64 239)]),mV 16 3,bu 17 175 14 15 16,mV 18 3,aG 19 483 17 18,oL 5,oK 7 5 19 false]) (nS (nT [oP 20 (.call (.f 484) [.c (.int .i64 16)]),oI 21 7 4,mV 22 3,bu 23 154 20 21 22,oP 24 (.call (.f 484) [.c (.int .i64 4)]),
 oI 25 7 5,mV 26 3,dO 27 154 24 25 26,mV 28 3,dO 29 146 23 27 28,oK 7 2 29 true]) .ret)))))
@[simp] def Em : AFn:=nG [.cell 4 true 7] (nS (nF [oU 2 7 0,oL 4]) (nR [oI 5 7 2,mV 6 1,oP 7 (.call (.f 486) [.t 5,.c (.bool false),.t 6]),oK 7 4 7 false]))
@[simp] def El : AFn:=nG [.cell 4 true 7] (nS (nF [oU 2 7 0,oL 4]) (nR [oI 5 7 2,mV 6 1,oP 7 (.call (.f 486) [.t 5,.c (.bool true),.t 6]),oK 7 4 7 false]))
@[simp] def Id : AFn:=nG [.cell 4 true 7,.cell 5 true 7] (nS (nF [oU 2 3 0,oL 4,oL 5]) (nS (nF [mV 14 1,oO 15 .add 14 60,mV 6 15]) (nS (nF [mV 16 6,aq 17 465 16,oP 18 (.call (.f 159) [.t 17,.c (.int .i64 (-1))]),oL 7,oK 7 7 18 false]) (nS (nF [oI 19 3 2,aq 20 153 19,oL 8,oK 7 8 20 false]) (nS (nF [oI 21 7 8,oI 22 7 7,mV 23 6,bu 24 175 21 22 23,oP 25 (.call (.f 485) [.c (.int .i64 (-1))]),oP 26 (.call (.f 485) [.c (.int .i64 (-1))]),oP 27 (.build nI [(0,3,.t 25),(3,3,.t 26)]),
 mV 28 6,bu 29 145 24 27 28,oL 9,oK 7 9 29 false]) (nS (nF [oQ 30 0 9,oI 31 3 30,aq 32 487 31,mV 10 32]) (nS (nT [oI 33 7 8,mV 34 10,aq 35 484 34,oI 36 7 7,mV 37 6,bu 38 154 35 36 37,mV 39 6,bu 40 146 33 38 39,oL 11,oK 7 11 40 true]) (nS (nF [oI 42 7 11,mV 43 6,aG 44 488 42 43,mV 41 44,oR 45 0 41,oR 46 1 41,oL 12,oL 13,oK 7 12 45 false,oK 7 13 46 false]) (nS (nS (nF [mV 47 10,oO 48 .rem 47 4,oO 49 .add 48 4,oO 50 .rem 49 4]) (.block 0 (nS (nF [oO 52 .eql 50 0,mV 51 52]) (nC 51 (nS (nT [oI 53 7 12,oP 54 (.sload true 7 13),
 ⟨none,.storeN 7 (.t 4) (.t 53) [13],none,true⟩,oK 7 5 54 true]) .ret) (nS (nF [oO 56 .eql 50 1,mV 55 56]) (nC 55 (nS (nT [oI 57 7 13,oI 58 7 12,aq 59 148 58,oK 7 4 57 true,oK 7 5 59 true]) .ret) (nS (nF [oO 61 .eql 50 2,mV 60 61]) (nC 60 (nS (nT [oI 62 7 12,aq 63 148 62,oI 64 7 13,ij 65 148 64,oK 7 4 63 true,oK 7 5 65 true]) .ret) .skip)))))))) (nS (nT [oI 66 7 13,aq 67 148 66,oP 68 (.sload true 7 12),⟨none,.storeN 7 (.t 4) (.t 67) [12],none,true⟩,oK 7 5 68 true]) .ret))))))))))
@[simp] def Ib : AFn:=nG [.cell 2 true 7] (nS (nF [oU 1 3 0,oL 2]) (nS (nT [oI 3 3 1,aq 4 57 3,oI 5 3 1,oP 6 (.build nI [(0,3,.t 4),(3,3,.t 5)]),oK 7 2 6 true]) .ret))
@[simp] def HN : AFn:=nG [.tmp 2] (nS (nF [oZ 2 false]) (nR [mV 3 0,oO 4 .geq 3 8,mV 5 4,oF 6 5 0,gT 7 5 (nX .leq 6 512),oY 8 5 7,mV 2 8]))
@[simp] def EM : AFn:=nG [.cell 6 true 7] (nS (nF [oU 3 2 0,oL 6]) (nS (nF [oP 14 (.bslice 1 1 (.int .u32 0) [(0,.c (.int .u32 1))]),oP 15 (.call (.f 493) [.t 14,.c (.int .i64 24)]),oP 16 (.build nB [(0,1,.c (.bool false)),(1,1,.t 15)]),oP 7 (.new 2 (.agg nB)),oK 2 7 16 false]) (nS (nT [oI 17 2 3,oI 18 2 7,aq 19 495 18,aG 20 494 17 19,oI 21 2 3,oI 22 2 7,aG 23 494 21 22,oP 8 (.new 2 (.agg nB)),oP 9 (.new 2 (.agg nB)),oK 2 8 20 true,oK 2 9 23 true]) (nS (nF [oQ 25 0 8,
 oJ 26 25,oQ 27 1 8,oJ 28 27,mV 29 1,oP 30 (.un .neg (.t 29)),bu 31 265 26 28 30,mV 24 31,oR 32 0 24,oR 33 1 24,oM 10,oK 3 10 32 false,mV 11 33]) (nS (nF [oQ 35 0 9,oJ 36 35,oQ 37 1 9,oJ 38 37,mV 39 1,oP 40 (.un .neg (.t 39)),bu 41 265 36 38 40,mV 34 41,oR 42 0 34,oR 43 1 34,oM 12,oK 3 12 42 false,mV 13 43]) (nS (nS (nF [mV 44 11,oO 45 .neq 44 0,mV 46 45,oE 47 46 13,gF 48 46 (nX .neq 47 0),oX 49 46 48]) (nC 49 (nR [dn 50 107,oK 7 6 50 false]) .skip)) (nS (nF [oI 52 3 10,mV 53 2,aG 54 199 52 53,
 mV 51 54,oR 55 0 51,oR 56 1 51,oK 3 10 55 false,mV 11 56]) (nS (nF [oI 58 3 12,mV 59 2,aG 60 200 58 59,mV 57 60,oR 61 0 57,oR 62 1 57,oK 3 12 61 false,mV 13 62]) (nS (nS (nF [mV 63 11,oO 64 .neq 63 0,mV 65 64,oE 66 65 13,gF 67 65 (nX .neq 66 0),oX 68 65 67]) (nC 68 (nR [dn 69 107,oK 7 6 69 false]) .skip)) (nR [oI 70 3 10,oI 71 3 12,oP 72 (.build nI [(0,3,.t 70),(3,3,.t 71)]),oK 7 6 72 false]))))))))))
@[simp] def D7 : AFn:=nG [.cell 2 true 2] (nS (nF [oP 2 (.new 2 (.agg nB))]) (nS (nF [mV 5 0,oP 6 (.call (.f 496) [.c (.int .i64 5),.t 5]),mV 7 0,oP 8 (.call (.f 496) [.c (.int .i64 239),.t 7]),oP 3 (.new 2 (.agg nB)),oP 4 (.new 2 (.agg nB)),oK 2 3 6 false,oK 2 4 8 false]) (nS (nT [oQ 9 1 3,oJ 10 9,oP 11 (.call (.f 493) [.t 10,.c (.int .i64 4)]),oP 12 (.build nB [(0,1,.c (.bool false)),(1,1,.t 11)]),oQ 13 1 4,oJ 14 13,oS 15 (.call (.f 493) [.t 14,.c (.int .i64 2)]),
 oP 16 (.build nB [(0,1,.c (.bool true)),(1,1,.t 15)]),eO 17 494 12 16,oK 2 2 17 true]) .ret)))
def Ie : AC:=(nS (nS (nF [oI 14 7 6,mV 15 1,oP 16 (.bin .num .sub (.c (.int .i64 0)) (.t 15)),aG 17 497 14 16,oW 18 17]) (nC 18 .skip (.exit 0))) (nS (.block 1 (nS (nF [oI 21 7 6,oI 22 7 5,mV 23 1,bu 24 154 21 22 23,aq 25 148 24,oK 7 6 25 false]) (nT [oI 26 7 7,oI 27 7 6,mV 28 8,aq 29 484 28,mV 30 1,bu 31 175 27 29 30,mV 32 1,dO 33 145 26 31 32,oK 7 7 33 true]))) (nF [mV 19 8,oO 20 .add 19 2,mV 8 20])))
@[simp] def Fh : AFn:=nG [.cell 4 true 7] (nS (nF [oU 2 7 0,oL 4]) (nS (nF [oI 9 7 2,mV 10 1,aG 11 155 9 10,oL 5,oK 7 5 11 false]) (nS (nT [oI 12 7 2,oP 13 (.sload true 7 2),oL 6,oL 7,⟨none,.storeN 7 (.t 6) (.t 12) [2],none,true⟩,oK 7 7 13 true]) (nS (nS (nF [oP 8 (nV 3)]) (.block 0 (.loop Ie))) (nS (nT [oI 34 7 7,mV 35 1,oP 36 (.bin .num .sub (.c (.int .i64 0)) (.t 35)),aq 37 485 36,aq 38 476 37,mV 39 1,dO 40 145 34 38 39,oK 7 4 40 true]) .ret)))))
@[simp] def GX : AFn:=nG [.cell 2 true 7] (nS (nF [oL 2]) (nR [mV 3 0,aq 4 74 3,aq 5 153 4,oK 7 2 5 false]))
@[simp] def GV : AFn:=nG [.cell 2 true 3] (nS (nF [oM 2]) (nS (nF [oP 6 (.bslice 1 1 (.int .u32 0) [(0,.c (.int .u32 1))]),mV 7 0,oP 8 (.call (.f 498) [.c (.bool false),.t 6,.t 7]),mV 5 8,oR 9 0 5,oR 10 1 5,oM 3,oK 3 3 9 false,mV 4 10]) (nR [oI 11 3 3,oK 3 2 11 false])))
@[simp] def EK : AFn:=nG [.cell 6 true 7] (nS (nF [oU 3 7 0,oL 6]) (nS (nS (nF [mV 12 2,aq 13 480 12,oW 14 13,mV 15 14,oG 16 15 true 7 3,dN 17 15 77 16,gF 18 15 (nU 17),oX 19 15 18,mV 20 19,gF 21 20 (nA 6 3),oG 22 20 false 1 21,oX 23 20 22]) (nC 23 (nR [dn 24 107,oK 7 6 24 false]) .skip)) (nS (nS (nF [oQ 25 0 3,oI 26 3 25,aq 27 98 26,oO 28 .gtr 27 100,mV 29 28,gF 30 29 (nA 3 3),oG 31 29 true 3 30,dN 32 29 98 31,gF 33 29 (nX .gtr 32 100),oX 34 29 33]) (nC 34 (nR [dn 35 499,
 oK 7 6 35 false]) .skip)) (nS (nF [oI 37 7 3,oP 38 (.call (.f 160) [.t 37,.c (.int .i64 64)]),mV 36 38,oR 39 0 36,oR 40 1 36,oM 7,oK 3 7 39 false,mV 8 40]) (nS (nS (nT [mV 41 8,oW 42 41,mV 43 42,oG 44 43 true 3 7,gF 45 43 (.call (.f 210) [.c (.int .i64 7)]),⟨some 46,.call (.f 52) [.t 44,.t 45],some (43,false),true⟩,gF 47 43 (nX .geq 46 0),oX 48 43 47]) (nC 48 (nR [dn 49 499,oK 7 6 49 false]) .skip)) (nS (nT [oQ 51 0 3,oI 52 3 51,mV 53 1,mV 54 2,bu 55 500 52 53 54,oQ 56 3 3,oI 57 3 56,
 mV 58 1,mV 59 2,bu 60 500 57 58 59,aG 61 94 55 60,dn 62 499,aG 63 90 61 62,mV 50 63,oR 64 0 50,oR 65 1 50,oL 9,oK 7 9 64 true,mV 8 65]) (nS (nS (nF [mV 66 8,oW 67 66]) (nC 67 (nR [dn 68 499,oK 7 6 68 false]) .skip)) (nS (nS (nF [oQ 69 0 3,oI 70 3 69,oQ 71 3 3,oI 72 3 71,aG 73 52 70 72,oO 74 .eql 73 0]) (nC 74 (nR [oI 75 7 9,oK 7 6 75 false]) .skip)) (nS (nF [oP 10 (nV 1),oP 11 (nV 3)]) (nS (nS (nF [mV 76 1]) (nC 76 (nF [oP 10 (nV 0),
 oP 11 (nV 2)]) .skip)) (nS (.seq .stop (nC 81 (nF [oP 82 (.call (.f 210) [.c (.int .i64 1)]),oQ 83 3 9,oK 3 83 82 false]) .skip)) (nS (.seq .stop (nC 88 (nF [oP 89 (.call (.f 210) [.c (.int .i64 (-1))]),oQ 90 0 9,oK 3 90 89 false]) .skip)) (nR [oI 91 7 9,oK 7 6 91 false])))))))))))))
def vg : AC:=(nS (nS (nF [mV 17 6,oO 18 .geq 17 0]) (nC 18 .skip (.exit 2))) (nS (.block 3 (nS (nF [oQ 21 1 1,oJ 22 21,mV 23 5,oV 24 1 22 23,oJ 25 24,mV 26 6,oP 27 (.conv .u64 (.t 26)),oN 28 .shr 25 27,oP 29 (.bin .num .and (.t 28) (.c (.int .u32 1))),oP 30 (.conv .i64 (.t 29)),mV 7 30]) (nS (nF [oQ 31 2 1,oJ 32 31,mV 33 5,oP 34 (.bin .num .mul (.c (.int .i64 32)) (.t 33)),oN 35 .add 32 34,mV 36 6,oN 37 .add 35 36,oO 38 .lss 37 0]) (nC 38 (nF [mV 39 4,mV 40 39,oE 41 40 7,gF 42 40 (nX .eql 41 1),
 oX 43 40 42,mV 4 43]) (nF [mV 44 3,oP 45 (.bin .num .mul (.c (.int .i64 2)) (.t 44)),mV 46 7,oN 47 .add 45 46,mV 3 47]))))) (nF [mV 19 6,oO 20 .sub 19 1,mV 6 20])))
def I4 : AC:=(nS (nS (nF [mV 13 5,oO 14 .geq 13 0]) (nC 14 .skip (.exit 0))) (nS (.block 1 (nS (nF [oP 6 (nV 31)]) (.block 2 (.loop vg)))) (nF [mV 15 5,oO 16 .sub 15 1,mV 5 16])))
def vj : AC:=(nS (nS (nF [mV 48 8,oQ 49 2 1,oJ 50 49,oN 51 .lss 48 50]) (nC 51 .skip (.exit 4))) (nS (.block 5 (nF [mV 54 3,oP 55 (.bin .num .mul (.c (.int .i64 2)) (.t 54)),mV 3 55])) (nF [mV 52 8,oO 53 .add 52 1,mV 8 53])))
@[simp] def GU : AFn:=nG [.tmp 2] (nS (nF [oU 1 3 0,oP 2 (nV 0)]) (nS (nF [oP 3 (nV 0),oZ 4 false]) (nS (nS (nF [oQ 9 1 1,oJ 10 9,oT 11 10,oO 12 .sub 11 1,mV 5 12]) (.block 0 (.loop I4))) (nS (nS (nF [oP 8 (nV 0)]) (.block 4 (.loop vj))) (nS (nS (nF [oQ 56 0 1,oJ 57 56,mV 58 57,oF 59 58 4,oY 60 58 59]) (nC 60 (nR [mV 61 3,oP 62 (.bin .num .sub (.c (.int .i64 0)) (.t 61)),oO 63 .sub 62 1,mV 2 63]) .skip)) (nS (nS (nF [oQ 64 0 1,
 oJ 65 64]) (nC 65 (nR [mV 66 3,oP 67 (.bin .num .sub (.c (.int .i64 0)) (.t 66)),mV 2 67]) .skip)) (nR [mV 68 3,mV 2 68])))))))
def ui : AC:=(nS (nS (nF [oI 15 7 6,mV 16 1,oP 17 (.bin .num .sub (.c (.int .i64 0)) (.t 16)),aG 18 497 15 17,oW 19 18,mV 20 19,oE 21 20 9,gF 22 20 (nX .lss 21 8),oX 23 20 22]) (nC 23 .skip (.exit 0))) (nS (.block 1 (nS (nF [oI 26 7 6,oI 27 7 2,mV 28 1,bu 29 154 26 27 28,mV 30 9,aq 31 484 30,mV 32 1,bu 33 175 29 31 32,oK 7 6 33 false]) (nS (nF [oI 34 7 6,oL 10,oK 7 10 34 false]) (nS (nS (nF [mV 35 9,oO 36 .rem 35 4,oO 37 .geq 36 2]) (nC 37 (nF [oI 38 7 10,aq 39 148 38,oK 7 10 39 false]) .skip)) (nS (nF [mV 40 9,
 oO 41 .rem 40 2,oO 42 .eql 41 1]) (nC 42 (nF [oI 43 7 7,oI 44 7 10,mV 45 1,bu 46 145 43 44 45,oK 7 7 46 false]) (nF [oI 47 7 8,oI 48 7 10,mV 49 1,bu 50 145 47 48 49,oK 7 8 50 false]))))))) (nF [mV 24 9,oO 25 .add 24 1,mV 9 25])))
@[simp] def If : AFn:=nG [.cell 4 true 7,.cell 5 true 7] (nS (nF [oU 2 7 0,oL 4,oL 5]) (nS (nF [oP 12 (.call (.f 484) [.c (.int .i64 1)]),oL 6,oK 7 6 12 false]) (nS (nF [oP 13 (.call (.f 484) [.c (.int .i64 0)]),oP 14 (.call (.f 484) [.c (.int .i64 1)]),oL 7,oL 8,oK 7 7 13 false,oK 7 8 14 false]) (nS (nS (nF [oP 9 (nV 1)]) (.block 0 (.loop ui))) (nS (nF [mV 51 1,oP 52 (.bin .num .sub (.c (.int .i64 1)) (.t 51)),aq 53 485 52,aq 54 476 53,oL 11,oK 7 11 54 false]) (nS (nT [oI 55 7 7,oI 56 7 11,
 mV 57 1,bu 58 145 55 56 57,oI 59 7 8,oI 60 7 11,mV 61 1,dO 62 145 59 60 61,oK 7 4 58 true,oK 7 5 62 true]) .ret))))))
@[simp] def EL : AFn:=nG [.tmp 4] (nS (nF [oP 4 (.mv (.c .nil))]) (nS (nF [mV 8 0,mV 9 1,aG 10 112 8 9,mV 7 10,oR 11 0 7,oR 12 1 7,mV 5 11,mV 6 12]) (nR [mV 13 5,mV 4 13])))
@[simp] def Jd : AFn:=nG [.cell 4 true 2] (nS (nF [oU 2 2 0,oU 3 2 1,oP 4 (.new 2 (.agg nB))]) (nS (nS (nF [oQ 9 0 2,oJ 10 9,oQ 11 0 3,oJ 12 11,oP 13 (.bin .bool .eql (.t 10) (.t 12))]) (nC 13 (nS (nF [oQ 15 1 2,oJ 16 15,oQ 17 1 3,oJ 18 17,aG 19 257 16 18,mV 14 19,oR 20 0 14,oR 21 1 14,mV 5 20,mV 6 21]) (nR [oQ 22 0 2,oJ 23 22,mV 24 5,oP 25 (.build nB [(0,1,.t 23),(1,1,.t 24)]),oK 2 4 25 false])) .skip)) (nS (nS (nF [oQ 26 1 2,oJ 27 26,oQ 28 1 3,oJ 29 28,aG 30 99 27 29,
 oO 31 .lss 30 0]) (nC 31 (nF [oI 32 2 3,oI 33 2 2,oK 2 2 32 false,oK 2 3 33 false]) .skip)) (nS (nF [oQ 35 1 2,oJ 36 35,oQ 37 1 3,oJ 38 37,aG 39 258 36 38,mV 34 39,oR 40 0 34,oR 41 1 34,mV 7 40,mV 8 41]) (nR [oQ 42 0 2,oJ 43 42,mV 44 7,oP 45 (.build nB [(0,1,.t 43),(1,1,.t 44)]),oK 2 4 45 false])))))
@[simp] def Jp : AFn:=nG [.cell 2 true 2] (nS (nF [oU 1 2 0,oP 2 (.new 2 (.agg nB))]) (nR [oQ 3 0 1,oJ 4 3,oW 5 4,oQ 6 1 1,oJ 7 6,oP 8 (.build nB [(0,1,.t 5),(1,1,.t 7)]),oK 2 2 8 false]))
@[simp] def HM : AFn:=nG [.cell 4 true 2] (nS (nF [oU 2 1 0,oP 4 (.new 2 (.agg nB))]) (nS (nF [oP 6 (.bslice 1 1 (.int .u32 0) [(0,.c (.int .u32 1))]),mV 7 1,aG 8 493 6 7,oP 9 (.build nB [(0,1,.c (.bool false)),(1,1,.t 8)]),oP 5 (.new 2 (.agg nB)),oK 2 5 9 false]) (nR [oI 10 2 5,oJ 11 2,aG 12 507 10 11,oP 13 (.mkfn 508 [.t 2]),aG 14 506 12 13,oK 2 4 14 false])))
@[simp] def GW : AFn:=nG [.tmp 4] (nS (nF [oU 2 7 0,oZ 4 false]) (nR [oI 5 7 2,aq 6 166 5,mV 7 1,aq 8 485 7,aG 9 18 6 8,oO 10 .lss 9 0,mV 4 10]))
@[simp] def F1 : AFn:=nG [.cell 6 true 3,.tmp 7] (nS (nF [oM 6,oP 7 (nV 0)]) (nS (nS (nF [mV 8 1,oT 9 8,oO 10 .gtr 9 256,mV 11 10,oE 12 11 2,dN 13 11 214 12,gF 14 11 (nU 13),oX 15 11 14]) (nC 15 (nR [oP 16 (.build nD []),oK 3 6 16 false,oP 7 (nV 1)]) .skip)) (nR [mV 17 0,mV 18 1,mV 19 2,bu 20 85 17 18 19,aq 21 184 20,oR 22 0 21,oR 23 1 21,oK 3 6 22 false,mV 7 23])))
@[simp] def EN : AFn:=nG [.cell 0 true 7] (nS (nF [oL 0]) (nR [oP 1 (.call (.f 210) [.c (.int .i64 (-1))]),oP 2 (.call (.f 210) [.c (.int .i64 1)]),oP 3 (.build nI [(0,3,.t 1),(3,3,.t 2)]),oK 7 0 3 false]))
@[simp] def FQ : AFn:=nG [.cell 6 true 7] (nS (nF [oU 3 3 0,oL 6]) (nS (nS (nF [oI 12 3 3,aq 13 79 12,oO 14 .eql 13 0]) (nC 14 (nS (nS (nF [mV 15 1]) (nC 15 (nR [oP 16 (.call (.f 210) [.c (.int .i64 1)]),aq 17 152 16,oK 7 6 17 false]) .skip)) (nR [oI 18 3 3,aq 19 152 18,oK 7 6 19 false])) .skip)) (nS (nF [mV 20 2,oO 21 .add 20 64,mV 7 21]) (nS (nF [oI 23 3 3,mV 24 7,aG 25 509 23 24,mV 22 25,oR 26 0 22,oR 27 1 22,oP 8 (.new 2 (.agg nB)),oK 2 8 26 false,
 mV 9 27]) (nS (nF [oI 29 2 8,mV 30 7,aG 31 510 29 30,mV 28 31,oR 32 0 28,oR 33 1 28,oP 10 (.new 2 (.agg nB)),oP 11 (.new 2 (.agg nB)),oK 2 10 32 false,oK 2 11 33 false]) (nS (nS (nF [mV 34 1]) (nC 34 (nF [mV 35 9,oO 36 .add 35 1,mV 9 36]) .skip)) (nS (nS (nF [mV 37 9,oO 38 .rem 37 4]) (.block 0 (nS (nF [oO 40 .eql 38 1,mV 39 40]) (nC 39 (nF [oI 41 2 11,oK 2 10 41 false]) (nS (nF [oO 43 .eql 38 2,mV 42 43]) (nC 42 (nF [oI 44 2 10,aq 45 495 44,
 oK 2 10 45 false]) (nS (nF [oO 47 .eql 38 3,mV 46 47]) (nC 46 (nF [oI 48 2 11,aq 49 495 48,oK 2 10 49 false]) .skip)))))))) (nR [oI 50 2 10,mV 51 7,mV 52 2,bu 53 481 50 51 52,oK 7 6 53 false]))))))))
@[simp] def D6 : AFn:=nG [.cell 4 true 2] (nS (nF [oU 2 3 0,oP 4 (.new 2 (.agg nB))]) (nS (nS (nF [oQ 6 2 2,oJ 7 6,mV 8 1,oN 9 .add 7 8,mV 5 9]) (nS (nF [mV 10 5,oO 11 .lss 10 0]) (nC 11 (nS (nT [oQ 12 0 2,oJ 13 12,oQ 14 1 2,oJ 15 14,mV 16 5,oP 17 (.un .neg (.t 16)),aG 18 504 15 17,oP 19 (.build nB [(0,1,.t 13),(1,1,.t 18)]),oK 2 4 19 true]) .ret) .skip))) (nS (nT [oQ 20 0 2,oJ 21 20,oQ 22 1 2,oJ 23 22,oQ 24 2 2,oJ 25 24,mV 26 1,oN 27 .add 25 26,aG 28 493 23 27,oP 29 (.build nB [(0,1,.t 21),(1,1,.t 28)]),
 oK 2 4 29 true]) .ret)))
@[simp] def FR : AFn:=nG [.tmp 4] (nS (nF [oP 4 (.mv (.c .nil))]) (nS (nF [mV 8 0,mV 9 1,aG 10 246 8 9,mV 7 10,oR 11 0 7,oR 12 1 7,mV 5 11,mV 6 12]) (nR [mV 13 5,mV 4 13])))
def ZD : AC:=(nS (.block 1 (nS (nF [mV 11 1,oI 12 2 2,oP 13 (.call (.t 11) [.t 12]),oK 2 2 13 false]) (nS (nS (nF [oI 14 2 2,aq 15 514 14]) (nC 15 (nR [oI 16 2 5,oK 2 4 16 false]) .skip)) (nS (nF [oI 17 2 2,mV 18 6,oP 19 (.bin .num .mul (.c (.int .i64 2)) (.t 18)),oO 20 .add 19 1,aG 21 507 17 20,oP 7 (.new 2 (.agg nB)),oK 2 7 21 false]) (nS (nS (nF [mV 22 6,oO 23 .rem 22 2,oO 24 .eql 23 1]) (nC 24 (nF [oI 25 2 7,aq 26 495 25,oK 2 7 26 false]) .skip)) (nF [oI 27 2 5,
 oI 28 2 7,aG 29 494 27 28,oK 2 5 29 false])))))) (nF [mV 9 6,oO 10 .add 9 1,mV 6 10]))
@[simp] def Jr : AFn:=nG [.cell 4 true 2] (nS (nF [oU 2 2 0,oP 4 (.new 2 (.agg nB))]) (nS (nF [oI 8 2 2,oP 5 (.new 2 (.agg nB)),oK 2 5 8 false]) (nS (nF [oP 6 (nV 1)]) (.block 0 (.loop ZD)))))
@[simp] def IT : AFn:=nG [.cell 4 true 2] (nS (nF [oU 2 2 0,oP 4 (.new 2 (.agg nB))]) (nS (nT [oQ 9 1 2,oJ 10 9,mV 11 1,aq 12 511 11,oP 13 (.field false 1 1 (.t 12)),eO 14 240 10 13,mV 8 14,oR 15 0 8,oR 16 1 8,oR 17 2 8,mV 5 15,mV 6 16,mV 7 17]) (nR [oQ 18 0 2,oJ 19 18,mV 20 5,oP 21 (.build nB [(0,1,.t 19),(1,1,.t 20)]),oK 2 4 21 false])))
@[simp] def Je : AFn:=nG [.cell 3 true 2] (nS (nF [oU 2 2 0,oP 3 (.new 2 (.agg nB))]) (nR [oI 4 2 2,oJ 5 1,oJ 6 1,oN 7 .mul 5 6,aG 8 507 4 7,oK 2 3 8 false]))
@[simp] def HO : AFn:=nG [.cell 4 true 2,.tmp 5] (nS (nF [oU 2 3 0,oP 4 (.new 2 (.agg nB)),oP 5 (nV 0)]) (nS (nF [oI 17 3 2,aq 18 98 17,oP 19 (.max (.t 18) (.c (.int .i64 0))),mV 6 19]) (nS (nF [mV 20 1,mV 21 6,oN 22 .add 20 21,oO 23 .add 22 40,mV 7 23]) (nS (nF [mV 24 7,aq 25 482 24,oP 26 (.field false 1 1 (.t 25)),oP 27 (.call (.f 504) [.t 26,.c (.int .i64 1)]),oP 28 (.build nB [(0,1,.c (.bool false)),(1,1,.t 27)]),oP 8 (.new 2 (.agg nB)),oK 2 8 28 false]) (nS (nF [oI 29 3 2,
 mV 30 7,aG 31 503 29 30,oP 9 (.new 2 (.agg nB)),oK 2 9 31 false]) (nS (nF [oQ 33 1 9,oJ 34 33,oQ 35 1 8,oJ 36 35,aG 37 240 34 36,mV 32 37,oR 38 0 32,oR 39 1 32,oR 40 2 32,mV 10 38,mV 11 39,mV 12 40]) (nS (nF [mV 42 10,oQ 43 1 8,oJ 44 43,aG 45 238 42 44,mV 41 45,oR 46 0 41,oR 47 1 41,mV 13 46,mV 14 47]) (nS (nF [oQ 48 0 9,oJ 49 48,oQ 50 1 9,oJ 51 50,oP 52 (.build nB [(0,1,.t 49),(1,1,.t 51)]),oQ 53 0 9,oJ 54 53,oW 55 54,mV 56 13,oP 57 (.build nB [(0,1,.t 55),(1,1,.t 56)]),aG 58 494 52 57,oP 15 (.new 2 (.agg nB)),
 oK 2 15 58 false]) (nS (nF [oP 16 (nV 0)]) (nS (nS (nF [mV 59 10,oT 60 59,oO 61 .gtr 60 0]) (nC 61 (nF [mV 62 10,oP 63 (.iaddr 1 (.t 62) (.c (.int .i64 0))),oJ 64 63,oP 65 (.bin .num .and (.t 64) (.c (.int .u32 3))),oP 66 (.conv .i64 (.t 65)),mV 16 66]) .skip)) (nS (nS (nF [oQ 67 0 9,oJ 68 67]) (nC 68 (nF [mV 69 16,oP 70 (.bin .num .sub (.c (.int .i64 4)) (.t 69)),oO 71 .and 70 3,mV 16 71]) .skip)) (nS (nT [oQ 72 0 15,oJ 73 72,oQ 74 1 15,oJ 75 74,mV 76 6,oO 77 .add 76 40,aG 78 504 75 77,
 oP 79 (.build nB [(0,1,.t 73),(1,1,.t 78)]),mV 80 16,oK 2 4 79 true,mV 5 80]) .ret))))))))))))
def Zt : AC:=(nS (.block 1 (nS (nF [oI 18 2 7,oI 19 2 2,mV 20 1,bu 21 512 18 19 20,mV 22 8,aG 23 507 21 22,oK 2 7 23 false]) (nS (nS (nF [oI 24 2 7,aq 25 514 24]) (nC 25 (nS (nT [oI 26 2 4,oP 27 (.sload true 2 5),⟨none,.storeN 2 (.t 4) (.t 26) [5],none,true⟩,oK 2 5 27 true]) .ret) .skip)) (nS (nF [oI 28 2 7,oP 9 (.new 2 (.agg nB)),oK 2 9 28 false]) (nS (nS (nF [mV 29 8,oO 30 .rem 29 4,oO 31 .geq 30 2]) (nC 31 (nF [oI 32 2 9,aq 33 495 32,oK 2 9 33 false]) .skip)) (nS (nF [mV 34 8,
 oO 35 .rem 34 2,oO 36 .eql 35 1]) (nC 36 (nF [oI 37 2 4,oI 38 2 9,aG 39 494 37 38,oK 2 4 39 false]) (nF [oI 40 2 5,oI 41 2 9,aG 42 494 40 41,oK 2 5 42 false])))))))) (nF [mV 16 8,oO 17 .add 16 1,mV 8 17]))
@[simp] def GF : AFn:=nG [.cell 4 true 2,.cell 5 true 2] (nS (nF [oU 2 2 0,oP 4 (.new 2 (.agg nB)),oP 5 (.new 2 (.agg nB))]) (nS (nF [oP 10 (.bslice 1 1 (.int .u32 0) [(0,.c (.int .u32 1))]),mV 11 1,aG 12 493 10 11,oP 13 (.build nB [(0,1,.c (.bool false)),(1,1,.t 12)]),oP 6 (.new 2 (.agg nB)),oK 2 6 13 false]) (nS (nF [oI 14 2 6,oP 7 (.new 2 (.agg nB)),oK 2 7 14 false]) (nS (nF [oI 15 2 6,oK 2 5 15 false]) (nS (nF [oP 8 (nV 1)]) (.block 0 (.loop Zt)))))))
@[simp] def F_S : AFn:=nG [.cell 2 true 2] (nS (nF [oP 2 (.new 2 (.agg nB))]) (nS (nF [mV 4 0,aq 5 210 4,oM 3,oK 3 3 5 false]) (nS (nT [oQ 6 0 3,oJ 7 6,oQ 8 1 3,oJ 9 8,oQ 10 2 3,oJ 11 10,aG 12 493 9 11,oP 13 (.build nB [(0,1,.t 7),(1,1,.t 12)]),oK 2 2 13 true]) .ret)))
@[simp] def Jq : AFn:=nG [.cell 6 true 2] (nS (nF [oU 3 2 0,oU 4 2 1,oP 6 (.new 2 (.agg nB))]) (nS (nF [oQ 10 1 3,oJ 11 10,oQ 12 1 4,oJ 13 12,aG 14 238 11 13,mV 9 14,oR 15 0 9,oR 16 1 9,mV 7 15,mV 8 16]) (nS (nT [oQ 17 0 3,oJ 18 17,oQ 19 0 4,oJ 20 19,oP 21 (.bin .bool .neq (.t 18) (.t 20)),mV 22 7,mV 23 2,aG 24 504 22 23,oP 25 (.build nB [(0,1,.t 21),(1,1,.t 24)]),oK 2 6 25 true]) .ret)))
@[simp] def Jv : AFn:=nG [.tmp 2] (nS (nF [oU 1 2 0,oZ 2 false]) (nR [oQ 3 1 1,oJ 4 3,aq 5 110 4,oO 6 .eql 5 0,mV 2 6]))
def JK : AC:=(nS (nF [oN 22 .lss 21 20]) (nS (nC 22 .skip (.exit 0)) (nS (.block 1 (nS (nF [oV 23 3 19 21,oI 24 3 23,oM 7,oK 3 7 24 false]) (nF [mV 25 5,oI 26 3 7,aq 27 152 26,oP 28 (.bslice 7 1 (.agg nI) [(0,.t 27)]),oP 29 (.append 7 88 (.t 25) (.t 28)),mV 5 29]))) (nF [oO 30 .add 21 1,mV 21 30]))))
def JL : AC:=(nS (nF [oN 89 .lss 88 87]) (nS (nC 89 .skip (.exit 4)) (nS (.block 5 (nS (nF [mV 90 88,oV 91 7 86 88,oI 92 7 91,oL 14,mV 13 90,oK 7 14 92 false]) (nS (nT [mV 94 11,mV 95 13,oV 96 7 94 95,oI 97 7 96,oI 98 7 14,aG 99 90 97 98,mV 93 99,oR 100 0 93,oR 101 1 93,oL 15,oK 7 15 100 true,mV 16 101]) (nS (nF [mV 102 16,oW 103 102]) (nC 103 (nR [oZ 4 false]) .skip))))) (nF [oO 104 .add 88 1,mV 88 104]))))
def JM : AC:=(nS (nF [oN 71 .lss 70 69]) (nS (nC 71 .skip (.exit 2)) (nS (.block 3 (nS (nF [mV 72 70,oV 73 1 68 70,oJ 74 73,mV 10 72,mV 11 74]) (nS (nF [oP 75 (.bslice 1 4 (.int .i64 0) [(0,.c (.int .i64 9)),(1,.c (.int .i64 10)),(2,.c (.int .i64 11)),(3,.c (.int .i64 12))]),mV 76 10,oV 77 1 75 76,oJ 78 77,mV 79 5,aG 80 535 78 79,mV 12 80]) (nS (nS (nF [mV 81 11,oT 82 81,mV 83 5,oT 84 83,oN 85 .neq 82 84]) (nC 85 (nR [oZ 4 false]) .skip)) (nS (nF [mV 86 12,oT 87 86,oP 88 (nV 0)]) (.block 4 (.loop JL))))))) (nF [oO 105 .add 70 1,
 mV 70 105]))))
@[simp] def JD : AFn:=nG [.tmp 4] (nS (nF [oZ 4 false]) (nS (nS (nF [dn 17 280,oW 18 17]) (nC 18 (nR [oZ 4 false]) .skip)) (nS (nF [oP 5 (.mv (.c .nil))]) (nS (nS (nF [mV 19 0,oT 20 19,oP 21 (nV 0)]) (.block 0 (.loop JK))) (nS (nS (nF [mV 31 1,mV 32 5,oP 33 (.bslice 1 1 .nil [(0,.t 32)]),aG 34 281 31 33,mV 35 34,oE 36 35 5,gF 37 35 (.len (.t 36)),gF 38 35 (nX .gtr 37 10),oX 39 35 38,mV 40 39,oE 41 40 5,gF 42 40 (.len (.t 41)),gF 43 40 (nX .eql 42 0),
 oX 44 40 43,mV 45 44,oE 46 45 1,dN 47 45 195 46,gF 48 45 (nU 47),oX 49 45 48,mV 50 49,oE 51 50 5,gF 52 50 (.call (.f 67) [.t 51,.f 534]),oX 53 50 52]) (nC 53 (nR [oZ 4 true]) .skip)) (nS (nF [mV 55 5,mV 56 1,aG 57 527 55 56,mV 54 57,oR 58 0 54,oR 59 1 54,mV 8 58,mV 9 59]) (nS (nS (nF [mV 60 5,mV 61 1,aG 62 528 60 61,mV 63 5,mV 64 1,aG 65 529 63 64,mV 66 8,mV 67 9,oP 68 (.bslice 1 4 .nil [(0,.t 62),(1,.t 65),(2,.t 66),(3,.t 67)]),oT 69 68,oP 70 (nV 0)]) (.block 2 (.loop JM))) (nR [oZ 4 true]))))))))
def Jb : AC:=(nS (nS (nF [oJ 34 6,oJ 35 2,oT 36 35,oN 37 .lss 34 36]) (nC 37 .skip (.exit 0))) (nS (.block 1 (nS (nF [oP 40 (.mkfn 539 [.t 6,.t 3,.t 2]),mV 7 40]) (nS (nF [mV 41 7,mV 42 5,oP 43 (.call (.t 41) [.t 42]),mV 44 7,mV 45 4,oP 46 (.call (.t 44) [.t 45]),aq 47 147 46,oL 8,oL 9,oK 7 8 43 false,oK 7 9 47 false]) (nT [mV 48 4,oI 49 7 8,oP 50 (.plit 7 1 (.agg nI) [(0,.t 49)]),oS 51 (.append 7 88 (.t 48) (.t 50)),mV 52 5,oP 53 (.sload true 7 9),
 oP 54 (.plit 7 1 (.agg nI) [(0,.t 53)]),oS 55 (.append 7 88 (.t 52) (.t 54)),mV 4 51,mV 5 55])))) (nS (nS (nF [oJ 56 6]) (nF [oP 6 (.new 1 (.int .i64 0)),oK 1 6 56 false])) (nF [oJ 38 6,oO 39 .add 38 1,oK 1 6 39 false]))))
@[simp] def Hy : AFn:=nG [.tmp 4,.tmp 5] (nS (nF [oU 2 1 0,oU 3 1 1,oP 4 (.mv (.c .nil)),oP 5 (.mv (.c .nil))]) (nS (nS (nF [oJ 10 2,oP 11 (.bslice 1 1 .nil [(0,.t 10)]),aq 12 315 11,oW 13 12]) (nC 13 (nR [oP 4 (.mv (.c .nil)),oP 5 (.mv (.c .nil))]) .skip)) (nS (nT [oJ 14 2,oT 15 14,oP 16 (.mkslice 7 88 (.agg [.bool false,.sl [],.int .i64 0,.bool false,.sl [],.int .i64 0,.bool false]) (.c (.int .i64 0)) (.t 15)),oJ 17 2,oP 18 (.iaddr 7 (.t 17) (.c (.int .i64 0))),oI 19 7 18,oJ 20 3,aG 21 470 19 20,oP 22 (.bslice 7 1 (.agg nI) [(0,.t 21)]),
 oS 23 (.append 7 88 (.t 16) (.t 22)),mV 4 23]) (nS (nT [oJ 24 2,oT 25 24,oP 26 (.mkslice 7 88 (.agg [.bool false,.sl [],.int .i64 0,.bool false,.sl [],.int .i64 0,.bool false]) (.c (.int .i64 0)) (.t 25)),oJ 27 2,oP 28 (.iaddr 7 (.t 27) (.c (.int .i64 0))),oI 29 7 28,oJ 30 3,aG 31 471 29 30,oP 32 (.bslice 7 1 (.agg nI) [(0,.t 31)]),oS 33 (.append 7 88 (.t 26) (.t 32)),mV 5 33]) (nS (nS (nF [oP 6 (.new 1 (.int .i64 0)),⟨none,.store 1 (.t 6) (.c (.int .i64 1)),none,false⟩]) (.block 0 (.loop Jb))) (nR [mV 57 4,
 mV 58 5,mV 4 57,mV 5 58]))))))
def HK : AC:=(nS (nS (nF [oJ 23 6,oJ 24 2,oT 25 24,oN 26 .lss 23 25]) (nC 26 .skip (.exit 0))) (nS (.block 1 (nS (nF [oJ 29 6,oJ 30 3,oP 31 (.mkfn 541 [.t 2,.t 3,.t 5,.t 6]),oP 32 (.call (.f 322) [.c (.int .i64 1),.t 29,.t 30,.t 31]),oL 7,oK 7 7 32 false]) (nT [oJ 33 5,oI 34 7 7,oJ 35 6,aq 36 316 35,oJ 37 3,bu 38 142 34 36 37,oP 39 (.bslice 7 1 (.agg nI) [(0,.t 38)]),oS 40 (.append 7 88 (.t 33) (.t 39)),oK 1 5 40 true]))) (nS (nS (nF [oJ 41 6]) (nF [oP 6 (.new 1 (.int .i64 0)),
 oK 1 6 41 false])) (nF [oJ 27 6,oO 28 .add 27 1,oK 1 6 28 false]))))
@[simp] def EH : AFn:=nG [.tmp 4] (nS (nF [oU 2 1 0,oU 3 1 1,oP 4 (.mv (.c .nil))]) (nS (nS (nF [oJ 8 2,oP 9 (.bslice 1 1 .nil [(0,.t 8)]),aq 10 315 9,oW 11 10]) (nC 11 (nR [oP 4 (.mv (.c .nil))]) .skip)) (nS (nF [oJ 12 2,oT 13 12,oP 14 (.mkslice 7 88 (.agg [.bool false,.sl [],.int .i64 0,.bool false,.sl [],.int .i64 0,.bool false]) (.c (.int .i64 0)) (.t 13)),oP 5 (.new 1 .nil),oK 1 5 14 false]) (nS (nT [oJ 15 5,oJ 16 2,oP 17 (.iaddr 7 (.t 16) (.c (.int .i64 0))),oI 18 7 17,oJ 19 3,aG 20 416 18 19,
 oP 21 (.bslice 7 1 (.agg nI) [(0,.t 20)]),oS 22 (.append 7 88 (.t 15) (.t 21)),oK 1 5 22 true]) (nS (nS (nF [oP 6 (.new 1 (.int .i64 0)),⟨none,.store 1 (.t 6) (.c (.int .i64 1)),none,false⟩]) (.block 0 (.loop HK))) (nR [oJ 42 5,mV 4 42]))))))
def HL : AC:=(nS (nS (nF [mV 31 8,mV 32 6,oN 33 .lss 31 32]) (nC 33 .skip (.exit 2))) (nS (.block 3 (nT [oI 36 7 7,mV 37 8,aq 38 316 37,mV 39 5,mV 40 8,oV 41 7 39 40,oI 42 7 41,mV 43 1,bu 44 140 38 42 43,mV 45 0,mV 46 6,mV 47 8,oN 48 .sub 46 47,oV 49 7 45 48,oI 50 7 49,mV 51 1,bu 52 140 44 50 51,mV 53 1,dO 54 138 36 52 53,oK 7 7 54 true])) (nF [mV 34 8,oO 35 .add 34 1,mV 8 35])))
def Hx : AC:=(nS (nS (nF [mV 24 6,mV 25 0,oT 26 25,oN 27 .lss 24 26]) (nC 27 .skip (.exit 0))) (nS (.block 1 (nS (nF [oP 30 (.call (.f 316) [.c (.int .i64 0)]),oL 7,oK 7 7 30 false]) (nS (nS (nF [oP 8 (nV 1)]) (.block 2 (.loop HL))) (nS (nT [mV 55 0,mV 56 6,oV 57 7 55 56,oI 58 7 57,oI 59 7 7,mV 60 6,aq 61 316 60,mV 62 1,bu 63 142 59 61 62,mV 64 1,dO 65 139 58 63 64,oK 7 7 65 true]) (nT [mV 66 5,oI 67 7 7,mV 68 0,oP 69 (.iaddr 7 (.t 68) (.c (.int .i64 0))),oI 70 7 69,mV 71 1,dO 72 142 67 70 71,oS 73 (.bslice 7 1 (.agg nI) [(0,.t 72)]),
 oS 74 (.append 7 88 (.t 66) (.t 73)),mV 5 74]))))) (nF [mV 28 6,oO 29 .add 28 1,mV 6 29])))
@[simp] def EI : AFn:=nG [.tmp 4] (nS (nF [oP 4 (.mv (.c .nil))]) (nS (nS (nF [mV 9 0,oP 10 (.bslice 1 1 .nil [(0,.t 9)]),aq 11 315 10,oW 12 11]) (nC 12 (nR [oP 4 (.mv (.c .nil))]) .skip)) (nS (nF [mV 13 0,oT 14 13,oP 15 (.mkslice 7 88 (.agg [.bool false,.sl [],.int .i64 0,.bool false,.sl [],.int .i64 0,.bool false]) (.c (.int .i64 0)) (.t 14)),mV 5 15]) (nS (nF [mV 16 5,mV 17 0,oP 18 (.iaddr 7 (.t 17) (.c (.int .i64 0))),oI 19 7 18,mV 20 1,aG 21 411 19 20,oP 22 (.bslice 7 1 (.agg nI) [(0,.t 21)]),
 oP 23 (.append 7 88 (.t 16) (.t 22)),mV 5 23]) (nS (nS (nF [oP 6 (nV 1)]) (.block 0 (.loop Hx))) (nR [mV 75 5,mV 4 75]))))))
def Jm : AC:=(nS (nS (nF [mV 46 15,mV 47 12,oN 48 .leq 46 47]) (nC 48 .skip (.exit 2))) (nS (.block 3 (nS (nT [oI 51 7 13,mV 52 15,mV 53 0,mV 54 15,oV 55 7 53 54,oI 56 7 55,mV 57 11,mV 58 12,mV 59 15,oN 60 .sub 58 59,oV 61 7 57 60,oI 62 7 61,mV 63 3,kt 64 542 52 56 62 63,mV 65 3,dO 66 145 51 64 65,oK 7 13 66 true]) (nT [oI 67 7 14,mV 68 15,mV 69 0,mV 70 15,oV 71 7 69 70,oI 72 7 71,mV 73 10,mV 74 12,mV 75 15,oN 76 .sub 74 75,oV 77 7 73 76,oI 78 7 77,mV 79 3,kt 80 542 68 72 78 79,mV 81 3,dO 82 145 67 80 81,oK 7 14 82 true]))) (nF [mV 49 15,
 oO 50 .add 49 1,mV 15 50])))
def Jn : AC:=(nS (nS (nF [mV 20 12,mV 21 0,oT 22 21,oN 23 .lss 20 22]) (nC 23 .skip (.exit 0))) (nS (.block 1 (nS (nT [mV 26 0,oP 27 (.iaddr 7 (.t 26) (.c (.int .i64 1))),oI 28 7 27,mV 29 11,mV 30 12,oO 31 .sub 30 1,oV 32 7 29 31,oI 33 7 32,mV 34 3,oP 35 (.call (.f 542) [.c (.int .i64 1),.t 28,.t 33,.t 34]),mV 36 0,oP 37 (.iaddr 7 (.t 36) (.c (.int .i64 1))),oI 38 7 37,mV 39 10,mV 40 12,oO 41 .sub 40 1,oV 42 7 39 41,oI 43 7 42,mV 44 3,oP 45 (.call (.f 542) [.c (.int .i64 1),.t 38,.t 43,.t 44]),oL 13,oL 14,oK 7 13 35 true,oK 7 14 45 true]) (nS (nS (nF [oP 15 (nV 2)]) (.block 2 (.loop Jm))) (nS (nT [mV 83 10,
 oI 84 7 13,mV 85 12,aq 86 293 85,mV 87 3,dO 88 175 84 86 87,oS 89 (.bslice 7 1 (.agg nI) [(0,.t 88)]),oS 90 (.append 7 88 (.t 83) (.t 89)),mV 10 90]) (nT [mV 91 11,oI 92 7 14,mV 93 12,aq 94 293 93,mV 95 3,dO 96 175 92 94 95,ij 97 148 96,oS 98 (.bslice 7 1 (.agg nI) [(0,.t 97)]),oS 99 (.append 7 88 (.t 91) (.t 98)),mV 11 99]))))) (nF [mV 24 12,oO 25 .add 24 1,mV 12 25])))
@[simp] def IB : AFn:=nG [.tmp 8,.tmp 9] (nS (nF [oU 5 7 1,oU 6 7 2,oP 8 (.mv (.c .nil)),oP 9 (.mv (.c .nil))]) (nS (nT [oI 16 7 5,oP 17 (.bslice 7 1 (.agg nI) [(0,.t 16)]),oI 18 7 6,oP 19 (.bslice 7 1 (.agg nI) [(0,.t 18)]),mV 10 17,mV 11 19]) (nS (nS (nF [oP 12 (nV 1)]) (.block 0 (.loop Jn))) (nR [mV 100 10,mV 101 11,mV 8 100,mV 9 101]))))
def Ix : AC:=(nS (nS (nF [mV 29 10,mV 30 8,oN 31 .leq 29 30]) (nC 31 .skip (.exit 2))) (nS (.block 3 (nT [oI 34 7 9,mV 35 10,mV 36 0,mV 37 10,oV 38 7 36 37,oI 39 7 38,mV 40 7,mV 41 8,mV 42 10,oN 43 .sub 41 42,oV 44 7 40 43,oI 45 7 44,mV 46 2,kt 47 542 35 39 45 46,mV 48 2,dO 49 145 34 47 48,oK 7 9 49 true])) (nF [mV 32 10,oO 33 .add 32 1,mV 10 33])))
def Iy : AC:=(nS (nS (nF [mV 13 8,mV 14 0,oT 15 14,oN 16 .lss 13 15]) (nC 16 .skip (.exit 0))) (nS (.block 1 (nS (nT [mV 19 0,oP 20 (.iaddr 7 (.t 19) (.c (.int .i64 1))),oI 21 7 20,mV 22 7,mV 23 8,oO 24 .sub 23 1,oV 25 7 22 24,oI 26 7 25,mV 27 2,oP 28 (.call (.f 542) [.c (.int .i64 1),.t 21,.t 26,.t 27]),oL 9,oK 7 9 28 true]) (nS (nS (nF [oP 10 (nV 2)]) (.block 2 (.loop Ix))) (nT [mV 50 7,oI 51 7 9,mV 52 8,aq 53 293 52,mV 54 2,dO 55 175 51 53 54,oS 56 (.bslice 7 1 (.agg nI) [(0,.t 55)]),
 oS 57 (.append 7 88 (.t 50) (.t 56)),mV 7 57])))) (nF [mV 17 8,oO 18 .add 17 1,mV 8 18])))
@[simp] def Fi : AFn:=nG [.tmp 6] (nS (nF [oU 4 7 1,oP 6 (.mv (.c .nil))]) (nS (nF [oI 11 7 4,oP 12 (.bslice 7 1 (.agg nI) [(0,.t 11)]),mV 7 12]) (nS (nS (nF [oP 8 (nV 1)]) (.block 0 (.loop Iy))) (nR [mV 58 7,mV 6 58]))))
def Iz : AC:=(nS (nS (nF [mV 20 10,mV 21 8,oN 22 .lss 20 21]) (nC 22 .skip (.exit 2))) (nS (.block 3 (nT [oI 25 7 9,mV 26 10,mV 27 7,mV 28 10,oV 29 7 27 28,oI 30 7 29,mV 31 0,mV 32 8,mV 33 10,oN 34 .sub 32 33,oV 35 7 31 34,oI 36 7 35,mV 37 2,kt 38 542 26 30 36 37,mV 39 2,dO 40 145 25 38 39,oK 7 9 40 true])) (nF [mV 23 10,oO 24 .add 23 1,mV 10 24])))
def IA : AC:=(nS (nS (nF [mV 13 8,mV 14 0,oT 15 14,oN 16 .lss 13 15]) (nC 16 .skip (.exit 0))) (nS (.block 1 (nS (nF [oP 19 (.call (.f 293) [.c (.int .i64 0)]),oL 9,oK 7 9 19 false]) (nS (nS (nF [oP 10 (nV 1)]) (.block 2 (.loop Iz))) (nT [mV 41 7,mV 42 0,mV 43 8,oV 44 7 42 43,oI 45 7 44,oI 46 7 9,mV 47 8,aq 48 293 47,mV 49 2,bu 50 175 46 48 49,mV 51 2,bu 52 146 45 50 51,mV 53 0,oP 54 (.iaddr 7 (.t 53) (.c (.int .i64 0))),oI 55 7 54,mV 56 2,dO 57 175 52 55 56,oS 58 (.bslice 7 1 (.agg nI) [(0,.t 57)]),
 oS 59 (.append 7 88 (.t 41) (.t 58)),mV 7 59])))) (nF [mV 17 8,oO 18 .add 17 1,mV 8 18])))
@[simp] def Fj : AFn:=nG [.tmp 6] (nS (nF [oU 4 7 1,oP 6 (.mv (.c .nil))]) (nS (nF [oI 11 7 4,oP 12 (.bslice 7 1 (.agg nI) [(0,.t 11)]),mV 7 12]) (nS (nS (nF [oP 8 (nV 1)]) (.block 0 (.loop IA))) (nR [mV 60 7,mV 6 60]))))
@[simp] def JI : AFn:=nG [.tmp 2] (nS (nF [oU 1 7 0,oZ 2 false]) (nR [oQ 3 6 1,oJ 4 3,mV 2 4]))
@[simp] def G6 : AFn:=nG [.tmp 4] (nS (nF [oP 4 (.mv (.c .nil))]) (nS (nF [oP 14 (.bslice 1 1 (.str ⟨#[]⟩) [(0,.c (.str ⟨#[120]⟩))]),mV 5 14]) (nS (nF [oP 15 (.build [.int .i64 0,.int .i64 0,.int .i64 0,.str ⟨#[]⟩,.int .i64 0,.nil] [(0,1,.c (.int .i64 2)),(3,1,.c (.str ⟨#[120]⟩))]),oP 6 (.new 6 (.agg [.int .i64 0,.int .i64 0,.int .i64 0,.str ⟨#[]⟩,.int .i64 0,.nil])),oK 6 6 15 false]) (nS (nF [mV 16 1,oP 17 (.iaddr 7 (.t 16) (.c (.int .i64 0))),oI 18 7 17,oP 19 (.bslice 7 1 (.agg nI) [(0,.t 18)]),
 mV 7 19]) (nS (nF [mV 20 0,oI 21 6 6,oP 22 (.bslice 6 1 (.agg [.int .i64 0,.int .i64 0,.int .i64 0,.str ⟨#[]⟩,.int .i64 0,.nil]) [(0,.t 21)]),oP 23 (.build [.int .i64 0,.int .i64 0,.int .i64 0,.str ⟨#[]⟩,.int .i64 0,.nil] [(0,1,.t 20),(5,1,.t 22)]),mV 24 5,mV 25 7,bu 26 543 23 24 25,oL 8,oK 7 8 26 false]) (nS (nS (nF [oQ 27 6 8,oJ 28 27]) (nC 28 (nR [oP 4 (.mv (.c .nil))]) .skip)) (nS (nS (nF [mV 29 0]) (.block 0 (nS (nF [oO 31 .eql 29 9,mV 30 31]) (nC 30 (nR [mV 32 1,
 oI 33 7 8,oP 34 (.call (.f 532) [.t 32,.t 33,.c (.int .i64 320)]),mV 4 34]) (nS (nF [oO 36 .eql 29 10,mV 35 36]) (nC 35 (nR [mV 37 1,oI 38 7 8,oP 39 (.call (.f 533) [.t 37,.t 38,.c (.int .i64 320)]),mV 4 39]) .skip)))))) (nS (nF [mV 40 0,oP 41 (.bin .num .sub (.c (.int .i64 23)) (.t 40)),oI 42 6 6,oP 43 (.bslice 6 1 (.agg [.int .i64 0,.int .i64 0,.int .i64 0,.str ⟨#[]⟩,.int .i64 0,.nil]) [(0,.t 42)]),oP 44 (.build [.int .i64 0,.int .i64 0,.int .i64 0,.str ⟨#[]⟩,.int .i64 0,.nil] [(0,1,.t 41),(5,1,.t 43)]),
 mV 45 5,mV 46 7,bu 47 543 44 45 46,oL 9,oK 7 9 47 false]) (nS (nS (nF [mV 48 0,oO 49 .eql 48 11]) (nC 49 (nS (nF [mV 51 1,oI 52 7 8,oI 53 7 9,oP 54 (.call (.f 530) [.t 51,.t 52,.t 53,.c (.int .i64 320)]),mV 50 54,oR 55 0 50,oR 56 1 50,mV 10 55,mV 11 56]) (nR [mV 57 10,mV 4 57])) .skip)) (nS (nF [mV 59 1,oI 60 7 9,oI 61 7 8,oP 62 (.call (.f 530) [.t 59,.t 60,.t 61,.c (.int .i64 320)]),mV 58 62,oR 63 0 58,oR 64 1 58,mV 12 63,mV 13 64]) (nR [mV 65 13,mV 4 65])))))))))))
@[simp] def IR : AFn:=⟨[.cell 5 true 7],nS (nF [oU 4 1 0,oL 5]) (nS (nF [oJ 7 1,oJ 8 2,oP 9 (.mkfn 540 [.t 3,.t 2,.t 4,.t 1]),oP 10 (.call (.f 322) [.c (.int .i64 1),.t 7,.t 8,.t 9]),oL 6,oK 7 6 10 false]) (nS (nT [oI 11 7 6,oJ 12 1,aq 13 316 12,oJ 14 2,dO 15 142 11 13 14,oK 7 5 15 true]) .ret)),false,true⟩
@[simp] def Jo : AFn:=nG [.cell 6 true 7] (nS (nF [oL 6]) (nS (nT [mV 7 0,aq 8 316 7,oJ 9 1,mV 10 0,oV 11 7 9 10,oI 12 7 11,oJ 13 2,bu 14 140 8 12 13,oJ 15 3,oJ 16 4,mV 17 0,oN 18 .sub 16 17,oV 19 7 15 18,oI 20 7 19,oJ 21 2,dO 22 140 14 20 21,oK 7 6 22 true]) .ret))
@[simp] def ug : AFn:=nG [.cell 6 true 7] (nS (nF [oL 6]) (nS (nT [mV 7 0,aq 8 316 7,oJ 9 1,mV 10 0,oV 11 7 9 10,oI 12 7 11,oJ 13 2,bu 14 140 8 12 13,oJ 15 3,oJ 16 4,mV 17 0,oN 18 .sub 16 17,oV 19 7 15 18,oI 20 7 19,oJ 21 2,dO 22 140 14 20 21,oK 7 6 22 true]) .ret))
@[simp] def G7 : AFn:=nG [.cell 8 true 7] (nS (nF [oU 5 7 1,oU 6 7 2,oL 8]) (nS (nT [mV 9 0,aq 10 293 9,oI 11 7 5,mV 12 3,bu 13 154 10 11 12,oI 14 7 6,mV 15 3,dO 16 154 13 14 15,oK 7 8 16 true]) .ret))
def Zx : AC:=(nS (nS (nF [mV 25 7,mV 26 2,oT 27 26,oN 28 .lss 25 27]) (nC 28 .skip (.exit 0))) (nS (.block 1 (nS (nF [mV 31 2,mV 32 7,oV 33 7 31 32,oI 34 7 33,aq 35 70 34,oW 36 35]) (nC 36 (nR [dn 37 109,oK 7 6 37 false]) .skip))) (nF [mV 29 7,oO 30 .add 29 1,mV 7 30])))
@[simp] def G4 : AFn:=nG [.cell 6 true 7] (nS (nF [oU 3 6 0,oL 6]) (nS (nS (nF [mV 8 1,aq 9 545 8,oW 10 9,mV 11 10,oE 12 11 1,gF 13 11 (.len (.t 12)),oE 14 11 2,gF 15 11 (.len (.t 14)),gF 16 11 (nY .neq 13 15),oX 17 11 16,mV 18 17,oG 19 18 true 6 3,oE 20 18 1,BG 21 18 546 19 20,gF 22 18 (nU 21),oX 23 18 22]) (nC 23 (nR [dn 24 109,oK 7 6 24 false]) .skip)) (nS (nS (nF [oP 7 (nV 0)]) (.block 0 (.loop Zx))) (nR [oI 38 6 3,mV 39 1,mV 40 2,bu 41 547 38 39 40,
 oK 7 6 41 false]))))
def Zw : AC:=(nS (nS (nF [mV 4 3,mV 5 0,oT 6 5,oN 7 .lss 4 6]) (nC 7 .skip (.exit 0))) (nS (.block 1 (nS (nF [mV 10 0,mV 11 0,mV 12 3,oV 13 1 11 12,oJ 14 13,aG 15 549 10 14,mV 16 3,oN 17 .lss 15 16]) (nC 17 (nR [oZ 2 false]) .skip))) (nF [mV 8 3,oO 9 .add 8 1,mV 3 9])))
@[simp] def G3 : AFn:=nG [.tmp 2] (nS (nF [oZ 2 false]) (nS (nS (nF [oP 3 (nV 0)]) (.block 0 (.loop Zw))) (nR [mV 18 0,oT 19 18,oO 20 .leq 19 200,mV 2 20])))
def Zv : AC:=(nS (nS (nF [mV 12 6,mV 13 5,oT 14 13,oN 15 .lss 12 14]) (nC 15 .skip (.exit 0))) (nS (.block 1 (nS (nF [mV 18 1,mV 19 5,mV 20 6,oV 21 1 19 20,oJ 22 21,aG 23 549 18 22,oO 24 .lss 23 0]) (nC 24 (nR [oZ 4 false]) .skip))) (nF [mV 16 6,oO 17 .add 16 1,mV 6 17])))
@[simp] def G2 : AFn:=nG [.tmp 4] (nS (nF [oU 2 6 0,oZ 4 false]) (nS (nS (nF [oI 7 6 2,aq 8 550 7,oW 9 8]) (nC 9 (nR [oZ 4 false]) .skip)) (nS (nF [oI 10 6 2,aq 11 551 10,mV 5 11]) (nS (nS (nF [oP 6 (nV 0)]) (.block 0 (.loop Zv))) (nR [oZ 4 true])))))
@[simp] def G5 : AFn:=nG [.cell 6 true 7] (nS (nF [oU 3 6 0,oL 6]) (nS (nS (nF [oQ 9 0 3,oJ 10 9,oO 11 .eql 10 1]) (nC 11 (.seq .stop .ret) .skip)) (nS (nS (nF [oQ 15 0 3,oJ 16 15,oO 17 .eql 16 2]) (nC 17 (nR [mV 18 2,mV 19 1,oQ 20 3 3,oJ 21 20,aG 22 549 19 21,oV 23 7 18 22,oI 24 7 23,oK 7 6 24 false]) .skip)) (nS (nF [oQ 25 5 3,oJ 26 25,oP 27 (.iaddr 6 (.t 26) (.c (.int .i64 0))),oI 28 6 27,mV 29 1,mV 30 2,bu 31 547 28 29 30,oL 7,oK 7 7 31 false]) (nS (nS (nF [oQ 32 0 3,oJ 33 32,oO 34 .gtr 33 8,
 mV 35 34,gT 36 35 (nA 0 3),oH 37 35 false 1 36,gT 38 35 (nX .neq 37 13),oY 39 35 38]) (nC 39 (nR [oQ 40 0 3,oJ 41 40,oI 42 7 7,aG 43 553 41 42,oK 7 6 43 false]) .skip)) (nS (nF [oI 44 7 7,oL 8,oK 7 8 44 false]) (nS (nS (nF [oQ 45 5 3,oJ 46 45,oT 47 46,oO 48 .gtr 47 1]) (nC 48 (nF [oQ 49 5 3,oJ 50 49,oP 51 (.iaddr 6 (.t 50) (.c (.int .i64 1))),oI 52 6 51,mV 53 1,mV 54 2,bu 55 547 52 53 54,oK 7 8 55 false]) .skip)) (.seq .stop .ret))))))))
def Zn : AC:=(nS (nS (nF [mV 6 5,mV 7 0,oT 8 7,oN 9 .lss 6 8]) (nC 9 .skip (.exit 0))) (nS (.block 1 (nS (nF [mV 12 0,mV 13 5,oV 14 1 12 13,oJ 15 14,mV 16 1,oP 17 (.bin .str .eql (.t 15) (.t 16))]) (nC 17 (nR [mV 18 5,mV 4 18]) .skip))) (nF [mV 10 5,oO 11 .add 10 1,mV 5 11])))
@[simp] def ED : AFn:=nG [.tmp 4] (nS (nF [oP 4 (nV 0)]) (nS (nS (nF [oP 5 (nV 0)]) (.block 0 (.loop Zn))) (nR [oP 4 (nV (-1))])))
@[simp] def G0 : AFn:=nG [.tmp 2] (nS (nF [oU 1 6 0,oZ 2 false]) (nR [oI 3 6 1,oP 4 (.call (.f 555) [.t 3,.c (.int .i64 20)]),oO 5 .leq 4 200,mV 2 5]))
def Zu : AC:=(nS (nS (nF [mV 8 5,mV 9 4,oT 10 9,oN 11 .lss 8 10]) (nC 11 .skip (.exit 0))) (nS (.block 1 (nS (nF [mV 14 4,mV 15 5,oV 16 6 14 15,oQ 17 0 16,oJ 18 17,oO 19 .eql 18 2]) (nC 19 (nF [mV 20 3,mV 21 4,mV 22 5,oV 23 6 21 22,oQ 24 3 23,oJ 25 24,aG 26 557 20 25,mV 3 26]) .skip))) (nF [mV 12 5,oO 13 .add 12 1,mV 5 13])))
@[simp] def GZ : AFn:=nG [.tmp 2] (nS (nF [oU 1 6 0,oP 2 (.mv (.c .nil))]) (nS (nF [oP 3 (.mv (.c .nil))]) (nS (nF [oI 6 6 1,aq 7 556 6,mV 4 7]) (nS (nS (nF [oP 5 (nV 0)]) (.block 0 (.loop Zu))) (nR [mV 27 3,mV 2 27])))))
@[simp] def I8 : AFn:=nG [.cell 4 true 7] (nS (nF [oU 3 7 1,oL 4]) (nS (nS (nF [oI 5 7 3,oP 6 (.call (.f 562) [.t 5,.c (.int .i64 (-1000)),.c (.int .i64 1000)]),oW 7 6]) (nC 7 (nR [dn 8 109,oK 7 4 8 false]) .skip)) (nS (nS (nF [mV 9 0]) (.block 0 (nS (nF [oO 11 .eql 9 9,mV 10 11]) (nC 10 (nS (nT [oQ 12 0 3,oI 13 3 12,aq 14 420 13,oP 15 (.field true 0 3 (.t 14)),oQ 16 3 3,oI 17 3 16,ij 18 420 17,oP 19 (.field true 3 3 (.t 18)),oP 20 (.build nI [(0,3,.t 15),(3,3,.t 19)]),
 oK 7 4 20 true]) .ret) (nS (nF [oO 22 .eql 9 10,mV 21 22]) (nC 21 (nS (nS (nF [oI 23 7 3,aq 24 174 23,oO 25 .leq 24 0]) (nC 25 (nR [dn 26 109,oK 7 4 26 false]) .skip)) (nS (nT [oQ 27 0 3,oI 28 3 27,aq 29 414 28,oP 30 (.field true 0 3 (.t 29)),oQ 31 3 3,oI 32 3 31,ij 33 414 32,oP 34 (.field true 3 3 (.t 33)),oP 35 (.build nI [(0,3,.t 30),(3,3,.t 34)]),oK 7 4 35 true]) .ret)) (nS (nF [oO 37 .eql 9 11,mV 36 37]) (nC 36 (nR [oI 38 7 3,
 oP 39 (.call (.f 563) [.t 38,.c (.bool false)]),oK 7 4 39 false]) (nS (nF [oO 41 .eql 9 12,mV 40 41]) (nC 40 (nR [oI 42 7 3,oP 43 (.call (.f 563) [.t 42,.c (.bool true)]),oK 7 4 43 false]) .skip)))))))))) (nR [dn 44 109,oK 7 4 44 false]))))
def I7 : AC:=(nS (nS (nF [mV 14 6,oQ 15 5 2,oJ 16 15,oT 17 16,oN 18 .lss 14 17,mV 19 18,oF 20 19 5,gT 21 19 (nX .leq 20 200),oY 22 19 21]) (nC 22 .skip (.exit 0))) (nS (.block 1 (nF [mV 25 5,oQ 26 5 2,oJ 27 26,mV 28 6,oV 29 6 27 28,oI 30 6 29,mV 31 1,oO 32 .sub 31 1,aG 33 555 30 32,oN 34 .add 25 33,mV 5 34])) (nF [mV 23 6,oO 24 .add 23 1,mV 6 24])))
@[simp] def G1 : AFn:=nG [.tmp 4] (nS (nF [oU 2 6 0,oP 4 (nV 0)]) (nS (nS (nF [mV 7 1,oO 8 .eql 7 0,mV 9 8,oG 10 9 true 6 2,dN 11 9 564 10,gF 12 9 (nU 11),oX 13 9 12]) (nC 13 (nR [oP 4 (nV 1048576)]) .skip)) (nS (nF [oP 5 (nV 1)]) (nS (nS (nF [oP 6 (nV 0)]) (.block 0 (.loop I7))) (nR [mV 35 5,mV 4 35])))))
def IK : AC:=(nS (nS (nF [mV 7 4,oQ 8 5 1,oJ 9 8,oT 10 9,oN 11 .lss 7 10]) (nC 11 .skip (.exit 0))) (nS (.block 1 (nF [mV 14 3,oQ 15 5 1,oJ 16 15,mV 17 4,oV 18 6 16 17,oI 19 6 18,aq 20 556 19,oP 21 (.append 6 72 (.t 14) (.t 20)),mV 3 21])) (nF [mV 12 4,oO 13 .add 12 1,mV 4 13])))
@[simp] def Gx : AFn:=nG [.tmp 2] (nS (nF [oU 1 6 0,oP 2 (.mv (.c .nil))]) (nS (nF [oI 5 6 1,oP 6 (.bslice 6 1 (.agg [.int .i64 0,.int .i64 0,.int .i64 0,.str ⟨#[]⟩,.int .i64 0,.nil]) [(0,.t 5)]),mV 3 6]) (nS (nS (nF [oP 4 (nV 0)]) (.block 0 (.loop IK))) (nR [mV 22 3,mV 2 22]))))
def Zz : AC:=(nS (nS (nF [mV 7 5,mV 8 0,oT 9 8,oN 10 .lss 7 9,mV 11 10,oF 12 11 0,oF 13 11 5,gT 14 11 (.iaddr 1 (.t 12) (.t 13)),oH 15 11 false 1 14,oF 16 11 1,gT 17 11 (.bin .str .lss (.t 15) (.t 16)),oY 18 11 17]) (nC 18 .skip (.exit 0))) (.block 1 (nF [mV 19 5,oO 20 .add 19 1,mV 5 20])))
@[simp] def Iw : AFn:=nG [.tmp 4] (nS (nF [oP 4 (.mv (.c .nil))]) (nS (nF [oP 5 (nV 0)]) (nS (.block 0 (.loop Zz)) (nS (nS (nF [mV 21 5,mV 22 0,oT 23 22,oN 24 .lss 21 23,mV 25 24,oF 26 25 0,oF 27 25 5,gT 28 25 (.iaddr 1 (.t 26) (.t 27)),oH 29 25 false 1 28,oF 30 25 1,gT 31 25 (.bin .str .eql (.t 29) (.t 30)),oY 32 25 31]) (nC 32 (nR [mV 33 0,mV 4 33]) .skip)) (nS (nF [oP 34 (.bslice 1 0 (.str ⟨#[]⟩) []),mV 35 0,mV 36 5,oP 37 (.slice 1 (.t 35) none (some (.t 36)) none),oP 38 (.append 1 16 (.t 34) (.t 37)),
 mV 6 38]) (nS (nF [mV 39 6,mV 40 1,oP 41 (.bslice 1 1 (.str ⟨#[]⟩) [(0,.t 40)]),oP 42 (.append 1 16 (.t 39) (.t 41)),mV 6 42]) (nR [mV 43 6,mV 44 0,mV 45 5,oP 46 (.slice 1 (.t 44) (some (.t 45)) none none),oP 47 (.append 1 16 (.t 43) (.t 46)),mV 4 47])))))))
@[simp] def Ho : AFn:=nG [.tmp 2] (nS (nF [oU 1 2 0,oZ 2 false]) (.seq .stop .ret))
@[simp] def IL : AFn:=nG [.tmp 6] (nS (nF [oU 3 7 0,oZ 6 false]) (nR [oI 7 7 3,mV 8 1,mV 9 2,bu 10 436 7 8 9,mV 6 10]))
@[simp] def Gz : AFn:=nG [.cell 4 true 7] (nS (nF [oU 2 7 0,oL 4]) (nS (nF [oI 9 7 2,oP 10 (.call (.f 163) [.t 9,.c (.int .i64 320)]),oM 5,oK 3 5 10 false]) (nS (nF [oI 11 3 5,aq 12 572 11,oL 6,oK 7 6 12 false]) (nS (nS (nF [mV 13 1]) (nC 13 (nF [oI 14 3 5,aq 15 573 14,oK 7 6 15 false]) .skip)) (nS (nF [oI 17 7 2,oP 18 (.call (.f 161) [.t 17,.c (.int .i64 320)]),mV 16 18,oR 19 0 16,oR 20 1 16,oM 7,oK 3 7 19 false,mV 8 20]) (nS (nS (nF [mV 21 8,oW 22 21]) (nC 22 (nR [dn 23 109,
 oK 7 4 23 false]) .skip)) (nS (nT [oI 24 7 6,oI 25 3 7,aq 26 57 25,oI 27 3 7,oP 28 (.build nI [(0,3,.t 26),(3,3,.t 27)]),oS 29 (.call (.f 145) [.t 24,.t 28,.c (.int .i64 320)]),oK 7 4 29 true]) .ret)))))))
@[simp] def Gy : AFn:=nG [.tmp 2] (nS (nF [oU 1 6 0,oZ 2 false]) (nS (nS (nT [oQ 3 5 1,oJ 4 3,oT 5 4,oQ 6 0 1,oJ 7 6,aq 8 574 7,oN 9 .neq 5 8]) (nC 9 (nR [oZ 2 false]) .skip)) (nS (nS (nF [oQ 10 0 1,oJ 11 10,oO 12 .eql 11 1,mV 13 12,gT 14 13 (nA 1 1),oH 15 13 true 2 14,kN 16 13 558 15,gT 17 13 (nU 16),oY 18 13 17,mV 19 18,gF 20 19 (nA 0 1),oG 21 19 false 1 20,gF 22 19 (nX .neq 21 1),oE 23 19 22,gT 24 23 (nA 1 1),gT 25 23 (nA 0 24),oH 26 23 false 1 25,
 gT 27 23 (nX .neq 26 0),oF 28 23 27,gF 29 28 (nA 1 1),gF 30 28 (nA 1 29),oG 31 28 false 1 30,gF 32 28 (nX .neq 31 0),gT 33 23 (.pick (.t 28) (.c (.bool true)) (.t 32)),gF 34 19 (.pick (.t 23) (.t 33) (.c (.bool false))),oX 35 19 34]) (nC 35 (nR [oZ 2 false]) .skip)) (nS (nS (nF [oQ 36 0 1,oJ 37 36,oO 38 .eql 37 2,mV 39 38,gT 40 39 (nA 3 1),oH 41 39 false 1 40,kN 42 39 575 41,gT 43 39 (nU 42),oY 44 39 43,mV 45 44,gF 46 45 (nA 0 1),oG 47 45 false 1 46,
 gF 48 45 (nX .neq 47 2),oE 49 45 48,gT 50 49 (nA 3 1),oH 51 49 false 1 50,gT 52 49 (.bin .str .neq (.t 51) (.c (.str ⟨#[]⟩))),gF 53 45 (.pick (.t 49) (.t 52) (.c (.bool false))),oX 54 45 53]) (nC 54 (nR [oZ 2 false]) .skip)) (nR [oQ 55 4 1,oJ 56 55,oO 57 .eql 56 0,mV 58 57,gF 59 58 (nA 0 1),oG 60 58 false 1 59,gF 61 58 (nX .eql 60 8),oE 62 58 61,gT 63 62 (nA 4 1),oH 64 62 false 1 63,gT 65 62 (nX .gtr 64 0),gF 66 58 (.pick (.t 62) (.t 65) (.c (.bool false))),
 oE 67 58 66,gT 68 67 (nA 4 1),oH 69 67 false 1 68,gT 70 67 (nX .leq 69 16),gF 71 58 (.pick (.t 67) (.t 70) (.c (.bool false))),oX 72 58 71,mV 2 72])))))
@[simp] def Fg : AFn:=nG [.cell 2 true 7] (nS (nF [oU 1 3 0,oL 2]) (nS (nS (nF [oQ 5 1 1,oJ 6 5,oT 7 6,oO 8 .eql 7 0]) (nC 8 (nR [oP 9 (.call (.f 484) [.c (.int .i64 0)]),oK 7 2 9 false]) .skip)) (nS (nS (nF [oI 10 3 1,aq 11 55 10,oO 12 .gtr 11 30]) (nC 12 (nR [oP 13 (.call (.f 74) [.c (.int .i64 1)]),aq 14 476 13,oK 7 2 14 false]) .skip)) (nS (nF [oI 16 3 1,oP 17 (.call (.f 472) [.t 16,.c (.int .i64 320)]),mV 15 17,oR 18 0 15,oR 19 1 15,oL 3,oL 4,oK 7 3 18 false,oK 7 4 19 false]) (nR [oI 20 7 3,
 oK 7 2 20 false])))))
@[simp] def Ff : AFn:=nG [.cell 2 true 7] (nS (nF [oU 1 3 0,oL 2]) (nS (nS (nF [oQ 5 1 1,oJ 6 5,oT 7 6,oO 8 .eql 7 0]) (nC 8 (nR [oP 9 (.call (.f 484) [.c (.int .i64 1)]),oK 7 2 9 false]) .skip)) (nS (nS (nF [oI 10 3 1,aq 11 55 10,oO 12 .gtr 11 30]) (nC 12 (nR [oP 13 (.call (.f 74) [.c (.int .i64 1)]),aq 14 476 13,oK 7 2 14 false]) .skip)) (nS (nF [oI 16 3 1,oP 17 (.call (.f 472) [.t 16,.c (.int .i64 320)]),mV 15 17,oR 18 0 15,oR 19 1 15,oL 3,oL 4,oK 7 3 18 false,oK 7 4 19 false]) (nR [oI 20 7 4,
 oK 7 2 20 false])))))
@[simp] def Gw : AFn:=nG [.tmp 2] (nS (nF [oP 2 (nV 0)]) (nS (nS (nF [mV 3 0]) (.block 0 (nS (nS (nF [oO 5 .eql 3 1,mV 4 5]) (nC 4 .skip (nF [oO 6 .eql 3 2,mV 4 6]))) (nC 4 (nR [oP 2 (nV 0)]) (nS (nS (nF [oO 8 .eql 3 3,mV 7 8]) (nC 7 .skip (nS (nF [oO 9 .eql 3 4,mV 7 9]) (nC 7 .skip (nS (nF [oO 10 .eql 3 5,mV 7 10]) (nC 7 .skip (nF [oO 11 .eql 3 6,mV 7 11]))))))) (nC 7 (nR [oP 2 (nV 2)]) (nS (nS (nF [oO 13 .eql 3 7,
 mV 12 13]) (nC 12 .skip (nS (nF [oO 14 .eql 3 8,mV 12 14]) (nC 12 .skip (nS (nF [oO 15 .eql 3 9,mV 12 15]) (nC 12 .skip (nS (nF [oO 16 .eql 3 10,mV 12 16]) (nC 12 .skip (nS (nF [oO 17 .eql 3 11,mV 12 17]) (nC 12 .skip (nS (nF [oO 18 .eql 3 12,mV 12 18]) (nC 12 .skip (nF [oO 19 .eql 3 13,mV 12 19]))))))))))))) (nC 12 (nR [oP 2 (nV 1)]) .skip)))))))) (nR [oP 2 (nV (-1))])))
@[simp] def Gg : AFn:=nG [.tmp 2] (nS (nF [oZ 2 false]) (nS (nF [mV 6 0,aq 7 576 6,mV 5 7,oR 8 0 5,oR 9 1 5,mV 3 8,mV 4 9]) (nR [mV 10 3,oO 11 .eql 10 1,mV 12 11,oF 13 12 0,kN 14 12 577 13,gT 15 12 (nU 14),oY 16 12 15,mV 2 16])))
@[simp] def Gv : AFn:=nG [.tmp 2,.tmp 3] (nS (nF [oP 2 (nV 0),oP 3 (nV 0)]) (nS (nS (nF [mV 6 0,aq 7 578 6]) (nC 7 (nS (nS (nF [mV 8 0,oP 9 (.slen (.t 8)),oO 10 .gtr 9 20]) (nC 10 (nR [oP 2 (nV 0),oP 3 (nV 5)]) .skip)) (nR [oP 2 (nV 1),oP 3 (nV 0)])) .skip)) (.seq .stop (nS (nS (nF [mV 16 5,oW 17 16]) (nC 17 (nR [oP 2 (nV 0),
 oP 3 (nV 3)]) .skip)) (nS (nS (nF [mV 18 4,oO 19 .gtr 18 18]) (nC 19 (nR [oP 2 (nV 0),oP 3 (nV 5)]) .skip)) (nR [oP 2 (nV 2),oP 3 (nV 0)]))))))
def Jt : AC:=(nS (nS (nF [mV 6 4,mV 7 3,oT 8 7,oN 9 .lss 6 8]) (nC 9 .skip (.exit 0))) (nS (.block 1 (nS (nF [mV 12 3,mV 13 4,oV 14 1 12 13,oJ 15 14,mV 16 0,oP 17 (.bin .str .eql (.t 15) (.t 16))]) (nC 17 (nR [oZ 2 true]) .skip))) (nF [mV 10 4,oO 11 .add 10 1,mV 4 11])))
@[simp] def IJ : AFn:=nG [.tmp 2] (nS (nF [oZ 2 false]) (nS (nF [dn 5 580,mV 3 5]) (nS (nS (nF [oP 4 (nV 0)]) (.block 0 (.loop Jt))) (nR [oZ 2 false]))))
def Zy : AC:=(nS (nS (nF [mV 4 3,mV 5 0,oP 6 (.slen (.t 5)),oN 7 .lss 4 6]) (nC 7 .skip (.exit 0))) (nS (.block 1 (nS (nF [mV 10 0,mV 11 3,oP 12 (.sindex (.t 10) (.t 11)),oP 13 (.bin .num .eql (.t 12) (.c (.int .u8 46))),mV 14 13,oE 15 14 0,oE 16 14 3,gF 17 14 (.sindex (.t 15) (.t 16)),dN 18 14 581 17,gF 19 14 (nU 18),oX 20 14 19]) (nC 20 (nR [oZ 2 false]) .skip))) (nF [mV 8 3,oO 9 .add 8 1,mV 3 9])))
@[simp] def Iu : AFn:=nG [.tmp 2] (nS (nF [oZ 2 false]) (nS (nS (nF [oP 3 (nV 0)]) (.block 0 (.loop Zy))) (nR [mV 21 0,oP 22 (.bin .str .neq (.t 21) (.c (.str ⟨#[]⟩))),mV 23 22,oF 24 23 0,gT 25 23 (.sindex (.t 24) (.c (.int .i64 0))),kN 26 23 582 25,oY 27 23 26,mV 2 27])))
@[simp] def I6 : AFn:=nG [.tmp 0] (nS (nF [oP 0 (.mv (.c .nil))]) (nR [oP 1 (.bslice 1 15 (.str ⟨#[]⟩) [(0,.c (.str ⟨#[115,116,97,116,101]⟩)),(1,.c (.str ⟨#[112,97,114,97,109]⟩)),(2,.c (.str ⟨#[105,110]⟩)),(3,.c (.str ⟨#[109,111,100,101]⟩)),(4,.c (.str ⟨#[119,104,101,110]⟩)),(5,.c (.str ⟨#[114,105,115,101,115]⟩)),(6,.c (.str ⟨#[102,97,108,108,115]⟩)),(7,.c (.str ⟨#[103,111,116,111]⟩)),(8,.c (.str ⟨#[119,105,116,104]⟩)),(9,.c (.str ⟨#[116,105,109,101]⟩)),(10,.c (.str ⟨#[101,120,112]⟩)),(11,.c (.str ⟨#[108,111,103]⟩)),(12,.c (.str ⟨#[115,105,110]⟩)),(13,.c (.str ⟨#[99,111,115]⟩)),(14,.c (.str ⟨#[115,113,114,116]⟩))]),
 mV 0 1]))
@[simp] def GY : AFn:=nG [.tmp 2] (nS (nF [oZ 2 false]) (nR [mV 3 0,aq 4 582 3,mV 5 4,oE 6 5 0,dN 7 5 583 6,oX 8 5 7,mV 9 8,oE 10 9 0,gF 11 9 (.bin .num .eql (.t 10) (.c (.int .u8 95))),oX 12 9 11,mV 13 12,oE 14 13 0,gF 15 13 (.bin .num .eql (.t 14) (.c (.int .u8 46))),oX 16 13 15,mV 2 16]))
@[simp] def I5 : AFn:=nG [.tmp 2] (nS (nF [oZ 2 false]) (nR [mV 3 0,oP 4 (.bin .num .geq (.t 3) (.c (.int .u8 97))),mV 5 4,oF 6 5 0,gT 7 5 (.bin .num .leq (.t 6) (.c (.int .u8 122))),oY 8 5 7,mV 9 8,oE 10 9 0,gF 11 9 (.bin .num .geq (.t 10) (.c (.int .u8 65))),oE 12 9 11,oF 13 12 0,gT 14 12 (.bin .num .leq (.t 13) (.c (.int .u8 90))),gF 15 9 (.pick (.t 12) (.t 14) (.c (.bool false))),oX 16 9 15,mV 2 16]))
@[simp] def II : AFn:=nG [.tmp 2] (nS (nF [oZ 2 false]) (nR [mV 3 0,oP 4 (.bin .num .geq (.t 3) (.c (.int .u8 48))),mV 5 4,oF 6 5 0,gT 7 5 (.bin .num .leq (.t 6) (.c (.int .u8 57))),oY 8 5 7,mV 2 8]))
abbrev q2n : Nat:=12
abbrev YO : Nat:=18
abbrev q2p : Nat:=23
abbrev Gt : Nat:=49
abbrev Y8 : Nat:=51
abbrev RR : Nat:=52
abbrev q4u : Nat:=54
abbrev YQ : Nat:=55
abbrev q8u : Nat:=56
abbrev q8v : Nat:=57
abbrev q2g : Nat:=60
abbrev qxs : Nat:=63
abbrev qii : Nat:=67
abbrev q2e : Nat:=70
abbrev YP : Nat:=74
abbrev qy5 : Nat:=77
abbrev qzo : Nat:=78
abbrev q81 : Nat:=79
abbrev qzp : Nat:=80
abbrev qkr : Nat:=82
abbrev q4t : Nat:=84
abbrev RW : Nat:=85
abbrev q4s : Nat:=86
abbrev q2m : Nat:=87
abbrev qkq : Nat:=89
abbrev q1x : Nat:=90
abbrev q4l : Nat:=91
abbrev q4m : Nat:=92
abbrev q2a : Nat:=93
abbrev q1y : Nat:=94
abbrev qv8 : Nat:=96
abbrev q80 : Nat:=97
abbrev RT : Nat:=98
abbrev Y2 : Nat:=99
abbrev qzn : Nat:=100
abbrev uh : Nat:=101
abbrev q2j : Nat:=102
abbrev q2l : Nat:=103
abbrev q1r : Nat:=104
abbrev q1t : Nat:=105
abbrev qy2 : Nat:=106
abbrev qy4 : Nat:=107
abbrev q2b : Nat:=108
abbrev q2d : Nat:=109
abbrev Zd : Nat:=110
abbrev Ze : Nat:=111
abbrev Y3 : Nat:=112
abbrev Zr : Nat:=113
abbrev q37 : Nat:=114
abbrev Gu : Nat:=115
abbrev q72 : Nat:=116
abbrev qim : Nat:=117
abbrev qyz : Nat:=118
abbrev qt6 : Nat:=119
abbrev qmt : Nat:=120
abbrev q4f : Nat:=138
abbrev q39 : Nat:=139
abbrev q4b : Nat:=140
abbrev qxp : Nat:=141
abbrev q4e : Nat:=142
abbrev YR : Nat:=145
abbrev YV : Nat:=146
abbrev q4a : Nat:=147
abbrev q8l : Nat:=148
abbrev qy7 : Nat:=149
abbrev Zo : Nat:=152
abbrev q2f : Nat:=153
abbrev YU : Nat:=154
abbrev qzh : Nat:=155
abbrev q4g : Nat:=156
abbrev q8p : Nat:=157
abbrev qy6 : Nat:=158
abbrev Zg : Nat:=159
abbrev qy3 : Nat:=160
abbrev q2c : Nat:=161
abbrev q8n : Nat:=163
abbrev q4d : Nat:=164
abbrev q4c : Nat:=165
abbrev YT : Nat:=166
abbrev q8m : Nat:=167
abbrev q8o : Nat:=169
abbrev q1w : Nat:=173
abbrev q4p : Nat:=174
abbrev YS : Nat:=175
abbrev q1v : Nat:=176
abbrev q2o : Nat:=182
abbrev qxu : Nat:=184
abbrev qxt : Nat:=185
abbrev qt7 : Nat:=186
abbrev q1o : Nat:=187
abbrev q7z : Nat:=188
abbrev q1s : Nat:=189
abbrev q1u : Nat:=190
abbrev Zm : Nat:=191
abbrev Y5 : Nat:=192
abbrev Zl : Nat:=193
abbrev Y4 : Nat:=194
abbrev q4q : Nat:=195
abbrev q8t : Nat:=196
abbrev q4n : Nat:=197
abbrev RS : Nat:=198
abbrev RY : Nat:=199
abbrev Qs : Nat:=200
abbrev q4o : Nat:=202
abbrev q8q : Nat:=203
abbrev q40 : Nat:=204
abbrev RQ : Nat:=205
abbrev q8r : Nat:=206
abbrev qyy : Nat:=207
abbrev q35 : Nat:=208
abbrev YD : Nat:=210
abbrev qwi : Nat:=214
abbrev q2k : Nat:=215
abbrev Rf : Nat:=216
abbrev Rh : Nat:=217
abbrev Rg : Nat:=218
abbrev q2h : Nat:=219
abbrev q2i : Nat:=220
abbrev JF : Nat:=221
abbrev q7x : Nat:=222
abbrev qxx : Nat:=223
abbrev qzq : Nat:=224
abbrev qwn : Nat:=225
abbrev q4x : Nat:=226
abbrev qzi : Nat:=227
abbrev q8y : Nat:=228
abbrev q8s : Nat:=229
abbrev RZ : Nat:=230
abbrev YN : Nat:=232
abbrev q7y : Nat:=235
abbrev q1l : Nat:=236
abbrev q34 : Nat:=237
abbrev q77 : Nat:=238
abbrev q83 : Nat:=239
abbrev qy1 : Nat:=240
abbrev Ri : Nat:=241
abbrev q4r : Nat:=242
abbrev Qt : Nat:=243
abbrev qzm : Nat:=244
abbrev RU : Nat:=245
abbrev q76 : Nat:=246
abbrev u7 : Nat:=247
abbrev q4w : Nat:=248
abbrev YE : Nat:=249
abbrev q8x : Nat:=250
abbrev q8z : Nat:=251
abbrev qwh : Nat:=252
abbrev q38 : Nat:=253
abbrev q1n : Nat:=254
abbrev q1m : Nat:=255
abbrev Rj : Nat:=256
abbrev q78 : Nat:=257
abbrev q75 : Nat:=258
abbrev q73 : Nat:=259
abbrev qy0 : Nat:=260
abbrev qks : Nat:=261
abbrev q71 : Nat:=262
abbrev q8w : Nat:=263
abbrev q74 : Nat:=264
abbrev q82 : Nat:=265
abbrev q70 : Nat:=266
abbrev q1p : Nat:=267
abbrev qmu : Nat:=268
abbrev q1q : Nat:=269
abbrev q36 : Nat:=270
abbrev qxo : Nat:=271
abbrev qxm : Nat:=272
abbrev qxn : Nat:=273
abbrev Zk : Nat:=274
abbrev q2r : Nat:=280
abbrev q2q : Nat:=281
abbrev Y9 : Nat:=286
abbrev Zs : Nat:=290
abbrev qxk : Nat:=291
abbrev q79 : Nat:=293
abbrev R0 : Nat:=303
abbrev q7w : Nat:=311
abbrev qhk : Nat:=312
abbrev qxv : Nat:=313
abbrev qu0 : Nat:=314
abbrev R3 : Nat:=315
abbrev q33 : Nat:=316
abbrev Ey : Nat:=322
abbrev FH : Nat:=324
abbrev CW : Nat:=325
abbrev CZ : Nat:=326
abbrev qj9 : Nat:=327
abbrev q4y : Nat:=411
abbrev q8j : Nat:=414
abbrev q4z : Nat:=416
abbrev q8k : Nat:=420
abbrev q2u : Nat:=423
abbrev q8i : Nat:=426
abbrev q4k : Nat:=427
abbrev q2s : Nat:=429
abbrev q2t : Nat:=430
abbrev qt8 : Nat:=431
abbrev q8g : Nat:=432
abbrev q8h : Nat:=433
abbrev qze : Nat:=434
abbrev q8f : Nat:=435
abbrev qzg : Nat:=436
abbrev qu1 : Nat:=437
abbrev qzk : Nat:=438
abbrev qzf : Nat:=441
abbrev qzl : Nat:=442
abbrev qsr : Nat:=443
abbrev qst : Nat:=444
abbrev qzj : Nat:=445
abbrev qsu : Nat:=446
abbrev qsq : Nat:=447
abbrev qpd : Nat:=448
abbrev qpz : Nat:=449
abbrev qxw : Nat:=450
abbrev qss : Nat:=451
abbrev Zp : Nat:=465
abbrev YC : Nat:=470
abbrev YB : Nat:=471
abbrev qzc : Nat:=472
abbrev qzd : Nat:=476
abbrev qzs : Nat:=480
abbrev q85 : Nat:=481
abbrev Re : Nat:=482
abbrev q8c : Nat:=483
abbrev q17 : Nat:=484
abbrev q19 : Nat:=485
abbrev q87 : Nat:=486
abbrev Zh : Nat:=487
abbrev qzb : Nat:=488
abbrev q86 : Nat:=493
abbrev qwo : Nat:=494
abbrev qua : Nat:=495
abbrev qzt : Nat:=496
abbrev q18 : Nat:=497
abbrev q4v : Nat:=498
abbrev q84 : Nat:=499
abbrev q43 : Nat:=500
abbrev Rc : Nat:=503
abbrev q42 : Nat:=504
abbrev ZB : Nat:=506
abbrev qxy : Nat:=507
abbrev Jc : Nat:=508
abbrev qzr : Nat:=509
abbrev q2v : Nat:=510
abbrev q41 : Nat:=511
abbrev qt9 : Nat:=512
abbrev qu2 : Nat:=514
abbrev qsp : Nat:=519
abbrev q1k : Nat:=527
abbrev R1 : Nat:=528
abbrev R2 : Nat:=529
abbrev qy8 : Nat:=530
abbrev q8b : Nat:=532
abbrev q8a : Nat:=533
abbrev ZC : Nat:=534
abbrev q10 : Nat:=535
abbrev qxl : Nat:=539
abbrev Dn : Nat:=540
abbrev CX : Nat:=541
abbrev q1z : Nat:=542
abbrev q11 : Nat:=543
abbrev q12 : Nat:=545
abbrev q13 : Nat:=546
abbrev Zj : Nat:=547
abbrev RX : Nat:=549
abbrev q14 : Nat:=550
abbrev q15 : Nat:=551
abbrev qv9 : Nat:=553
abbrev Zi : Nat:=555
abbrev Zb : Nat:=556
abbrev qy9 : Nat:=557
abbrev qgP : Nat:=558
abbrev qxq : Nat:=562
abbrev q4h : Nat:=563
abbrev Zc : Nat:=564
abbrev q8d : Nat:=572
abbrev q8e : Nat:=573
abbrev Za : Nat:=574
abbrev q4j : Nat:=575
abbrev q4i : Nat:=576
abbrev qxr : Nat:=577
abbrev qza : Nat:=578
abbrev qwa : Nat:=580
abbrev q16 : Nat:=581
abbrev qwb : Nat:=582
abbrev qgQ : Nat:=583
def fnList : List (Nat × AFn):=
 [(12,GO),
  (18,EX),
  (23,GM),
  (49,F3),
  (51,FU),
  (52,Eo),
  (54,F2),
  (55,Fy),
  (56,Fw),
  (57,EZ),
  (60,Hp),
  (63,IG),
  (67,JV),
  (70,Ht),
  (74,EY),
  (77,Ig),
  (78,HR),
  (79,EQ),
  (80,HQ),
  (82,JQ),
  (84,F4),
  (85,EC),
  (86,F5),
  (87,GP),
  (89,JR),
  (90,G9),
  (91,Ge),
  (92,Gc),
  (93,GT),
  (94,G8),
  (96,I9),
  (97,ER),
  (98,Et),
  (99,CN),
  (100,HS),
  (101,F6),
  (102,GS),
  (103,GQ),
  (104,Hk),
  (105,Hh),
  (106,Ij),
  (107,Ih),
  (108,Hw),
  (109,Hu),
  (110,CS),
  (111,u6),
  (112,Fo),
  (113,De),
  (114,Gm),
  (115,Gl),
  (116,CO),
  (117,JT),
  (118,Im),
  (119,JG),
  (120,JO),
  (138,GB),
  (139,Gj),
  (140,Gh),
  (141,IM),
  (142,GC),
  (145,FD),
  (146,E8),
  (147,Gi),
  (148,E7),
  (149,ID),
  (152,IC),
  (153,Hq),
  (154,E6),
  (155,H5),
  (156,GA),
  (157,FC),
  (158,IE),
  (159,Hr),
  (160,Ii),
  (161,Hv),
  (163,E4),
  (164,GD),
  (165,GE),
  (166,FG),
  (167,E5),
  (169,FF),
  (173,Hb),
  (174,F9),
  (175,FE),
  (176,Hd),
  (182,GN),
  (184,IY),
  (185,IZ),
  (186,Ju),
  (187,HF),
  (188,FJ),
  (189,Hj),
  (190,Hg),
  (191,HH),
  (192,FL),
  (193,HG),
  (194,FK),
  (195,F8),
  (196,Fz),
  (197,Gb),
  (198,Er),
  (199,EE),
  (200,D4),
  (202,Ga),
  (203,FB),
  (204,FT),
  (205,En),
  (206,FA),
  (207,Iq),
  (208,Gn),
  (210,Ep),
  (214,Jg),
  (215,GR),
  (216,c_round_add),
  (217,D9),
  (218,D8),
  (219,Hn),
  (220,Hm),
  (221,JE),
  (222,FN),
  (223,IU),
  (224,HP),
  (225,Jf),
  (226,FY),
  (227,HX),
  (228,EU),
  (229,c_fpref03_Cut),
  (230,EF),
  (232,ET),
  (235,FM),
  (236,c_round_sum),
  (237,Gp),
  (238,Fm),
  (239,EO),
  (240,Ik),
  (241,Ea),
  (242,F7),
  (243,D5),
  (244,HT),
  (245,Eu),
  (246,Fp),
  (247,FZ),
  (248,F0),
  (249,EB),
  (250,EV),
  (251,ES),
  (252,I3),
  (253,Gk),
  (254,c_round_cut),
  (255,HI),
  (256,Ed),
  (257,Fl),
  (258,Fq),
  (259,Ft),
  (260,Il),
  (261,JP),
  (262,Fu),
  (263,EW),
  (264,Fs),
  (265,EP),
  (266,Fv),
  (267,HE),
  (268,JN),
  (269,HD),
  (270,CU),
  (271,IN),
  (272,IQ),
  (273,IP),
  (274,Hl),
  (280,GK),
  (281,GL),
  (286,FX),
  (290,C6),
  (291,IS),
  (293,Fk),
  (303,EG),
  (311,FO),
  (312,JY),
  (313,IW),
  (314,Jx),
  (315,EJ),
  (316,Gs),
  (322,Ew),
  (324,FP),
  (325,Gq),
  (326,Hz),
  (327,JS),
  (411,FW),
  (414,Fa),
  (416,FV),
  (420,E9),
  (423,GH),
  (426,Fb),
  (427,Gf),
  (429,GJ),
  (430,GI),
  (431,Js),
  (432,Fd),
  (433,Fc),
  (434,Ia),
  (435,Fe),
  (436,H8),
  (437,Jw),
  (438,HV),
  (441,H9),
  (442,HU),
  (443,JB),
  (444,Jz),
  (445,HW),
  (446,Jy),
  (447,JC),
  (448,JJ),
  (449,JH),
  (450,IV),
  (451,JA),
  (465,Ic),
  (470,Em),
  (471,El),
  (472,Id),
  (476,Ib),
  (480,HN),
  (481,EM),
  (482,D7),
  (483,Fh),
  (484,GX),
  (485,GV),
  (486,EK),
  (487,GU),
  (488,If),
  (493,EL),
  (494,Jd),
  (495,Jp),
  (496,HM),
  (497,GW),
  (498,F1),
  (499,EN),
  (500,FQ),
  (503,D6),
  (504,FR),
  (506,Jr),
  (507,IT),
  (508,Je),
  (509,HO),
  (510,GF),
  (511,F_S),
  (512,Jq),
  (514,Jv),
  (519,JD),
  (527,Hy),
  (528,EH),
  (529,EI),
  (530,IB),
  (532,Fi),
  (533,Fj),
  (534,JI),
  (535,G6),
  (539,IR),
  (540,Jo),
  (541,ug),
  (542,G7),
  (543,G4),
  (545,G3),
  (546,G2),
  (547,G5),
  (549,ED),
  (550,G0),
  (551,GZ),
  (553,I8),
  (555,G1),
  (556,Gx),
  (557,Iw),
  (558,Ho),
  (562,IL),
  (563,Gz),
  (564,Gy),
  (572,Fg),
  (573,Ff),
  (574,Gw),
  (575,Gg),
  (576,Gv),
  (577,IJ),
  (578,Iu),
  (580,I6),
  (581,GY),
  (582,I5),
  (583,II)]
section
variable {S : AProg}
def WC (S:AProg)(n0:Nat)(c:AC)(E:aA)(H:ab)(Q:AX->aA->ab->Prop):Prop:=
 ∃x E1 H1,Ev S (.code n0 c E H) (.cd x E1 H1)/\Q x E1 H1
def WO (S:AProg)(n0:Nat)(d:Bool)(l:List AOper)(E:aA)(H:ab)(Q:aA->ab->Prop):Prop:=
 ∃E1 H1,Ev S (.ops n0 d l E H) (.cd .normal E1 H1)/\Q E1 H1
def CT (S:AProg)(g:Nat)(args:List V)(H:ab)(Q:V->ab->Prop):Prop:=
 ∃v H1,Ev S (.call g args H) (.ret v H1)/\Q v H1
def CQ (S:AProg)(g:Nat)(args:List V)(v:V):Prop:=∀H,Ev S (.call g args H) (.ret v H)
variable {n0 : Nat} {E : aA} {H : ab} {Q : AX → aA → ab → Prop} {R : aA → ab → Prop} {d : Bool}
theorem WC.mono {c:AC}{a:AX->aA->ab->Prop}(h:WC S n0 c E H Q)(g:∀x E H,Q x E H->a x E H):WC S n0 c E H a:=
 let ⟨x,b,f,e,q⟩:=h;⟨x,b,f,e,g _ _ _ q⟩
theorem WO.mono {l:List AOper}{a:aA->ab->Prop}(h:WO S n0 d l E H R)(f:∀E H,R E H->a E H):WO S n0 d l E H a:=
 let ⟨b,c,e,q⟩:=h;⟨b,c,e,f _ _ q⟩
theorem CT.mono {g:Nat}{args:List V}{Q a:V->ab->Prop}(h:CT S g args H Q)(c:∀v H,Q v H->a v H):CT S g args H a:=
 let ⟨v,b,e,q⟩:=h;⟨v,b,e,c _ _ q⟩
theorem Kh (h:Q .normal E H):WC S n0 .skip E H Q:=⟨_,_,_,.skip,h⟩
theorem Kf {id:Nat}(h:Q (.exit id) E H):WC S n0 (.exit id) E H Q:=⟨_,_,_,.exit,h⟩
theorem Sy (h:Q .ret E H):WC S n0 .ret E H Q:=⟨_,_,_,.ret,h⟩
def AX.thn (K:aA->ab->Prop)(Q:AX->aA->ab->Prop):AX->aA->ab->Prop
 | .normal,E,H=>K E H
 |x,E,H=>Q x E H
theorem ff {a b:AC}(h:WC S n0 a E H (AX.thn (fun E H=>WC S n0 b E H Q) Q)):WC S n0 (.seq a b) E H Q:=by
 obtain⟨x,j,k,e,q⟩:=h;cases x with
 |normal=>obtain⟨y,c,f,g,i⟩:=q;exact⟨y,c,f,.seqN e g,i⟩
 |exit id=>exact⟨_,_,_,.seqX e (by simp),q⟩
 |ret=>exact⟨_,_,_,.seqX e (by simp),q⟩
theorem xi {c:X}{a b:AC}{t:Bool}(h:am E c=.bool t)(i:t=true->WC S n0 a E H Q)(j:t=false->WC S n0 b E H Q):WC S n0 (.cond c a b) E H Q:=by
 cases t with
 |true=>obtain⟨x,f,g,e,q⟩:=i rfl;exact⟨x,f,g,.cond h (by simpa using e),q⟩
 |false=>obtain⟨x,f,g,e,q⟩:=j rfl;exact⟨x,f,g,.cond h (by simpa using e),q⟩
theorem KJ {c:X}{a b:AC}(e:am E c=.bool true)(h:WC S n0 a E H Q):WC S n0 (.cond c a b) E H Q:=xi e (fun _=>h) (by simp)
theorem MI {c:X}{a b:AC}(e:am E c=.bool false)(h:WC S n0 b E H Q):WC S n0 (.cond c a b) E H Q:=xi e (by simp) (fun _=>h)
theorem MH {id:Nat}{c:AC}(h:WC S n0 c E H (fun x E H=>Q (x.outOf id) E H)):WC S n0 (.block id c) E H Q:=by
 obtain⟨x,a,b,e,q⟩:=h;exact⟨_,_,_,.block e,q⟩
theorem MJ {c:AC}(h:WC S n0 c E H Q):WC S n0 (.scope c) E H Q:=by
 obtain⟨x,a,b,e,q⟩:=h;exact⟨_,_,_,.scope e,q⟩
theorem OU {l:List AOper}(h:WO S n0 d l E H (fun E H=>Q .normal E H)):WC S n0 (.region d l) E H Q:=by
 obtain⟨a,b,e,q⟩:=h;exact⟨_,_,_,.region e,q⟩
theorem Kg {c:AC}(I:Nat->aA->ab->Prop)(k:Nat)(l:I k E H)
 (a:∀k E H,I k E H->WC S n0 c E H (AX.thn (fun b f=>∃j,j<k/\I j b f) Q)):WC S n0 (.loop c) E H Q:=by
 induction k using Nat.strongRecOn generalizing E H with
 |_ k o=>
  obtain⟨x,b,f,e,q⟩:=a k E H l;cases x with
  |normal=>
   obtain⟨j,n,m⟩:=q;obtain⟨y,g,h,i,p⟩:=o j n m;exact⟨y,g,h,.loopN e i,p⟩
  |exit id=>exact⟨_,_,_,.loopX e (by simp),q⟩
  |ret=>exact⟨_,_,_,.loopX e (by simp),q⟩
theorem S4 (h:R E H):WO S n0 d [] E H R:=⟨_,_,.opNil,h⟩
def rk (S:AProg)(n0:Nat)(d:Bool)(dst:Option Nat)(x:X)(xs:List X)(gu:Option (Nat × Bool))(sy:Bool)(l:List AOper)(E:aA)(H:ab)(R:aA->ab->Prop):Prop:=
 WO S n0 d (⟨dst,.call x xs,gu,sy⟩ :: l) E H R
def jE (S:AProg)(n0:Nat)(d:Bool)(dst:Option Nat)(op:AOp)(gu:Option (Nat × Bool))(sy:Bool)(l:List AOper)(E:aA)(H:ab)(R:aA->ab->Prop):Prop:=
 match gd ⟨dst,op,gu,sy⟩ E with
 |some false=>WO S n0 d l (put E dst .undef) H R
 |some true=>
  match op with
  | .call x xs=>rk S n0 d dst x xs none sy l E H R
  |op=>
   match aS n0 op E H with
   |some (v,H1)=>((d&&!sy)=true->H <+: H1)/\WO S n0 d l (put E dst v) H1 R
   |none=>False
 |none=>False
theorem KO {dst:Option Nat}{op:AOp}{m:Option (Nat × Bool)}{n:Bool}{l:List AOper}(h:jE S n0 d dst op m n l E H R):WO S n0 d (⟨dst,op,m,n⟩ :: l) E H R:=by
 unfold jE at h;split at h
 ·rename_i b;obtain⟨c,f,e,q⟩:=h;exact⟨_,_,.opSkip b e,q⟩
 ·rename_i b;split at h
  ·obtain⟨c,f,e,q⟩:=h;refine⟨c,f,?_,q⟩;cases e with
   |opSkip g _=>simp[gd]at g
   |opDo _ j _ _=>cases j
   |opCall _ s t i o a p=>exact .opCall b s t i o a p
  ·split at h
   ·rename_i v f j;obtain⟨i,c,u,e,q⟩:=h;exact⟨_,_,.opDo b j (fun r k=>i (by simp[r];simpa using k)) e,q⟩
   ·exact h.elim
 ·exact h.elim
theorem SE {dst:Option Nat}{op:AOp}{i:Option (Nat × Bool)}{k:Bool}{l:List AOper}:WO S n0 d (⟨dst,op,i,k⟩ :: l) E H R↔jE S n0 d dst op i k l E H R:=by
 refine⟨fun h=>?_,KO⟩;obtain⟨o,p,e,q⟩:=h;unfold jE;cases e with
 |opSkip b a=>rw[b];exact⟨_,_,a,q⟩
 |opDo b g f a=>
  rw[b];cases op<;>first
   | (cases g;done)
   | (simp only[]at g ⊢;rw[g];exact⟨fun h=>by simp at h;exact f h.1 h.2,_,_,a,q⟩)
 |opCall b j n f a c m=>
  simp only[]at j;subst j;rw[b];exact⟨_,_,.opCall rfl rfl n f a c m,q⟩
theorem Qe : WO S n0 d [] E H R↔R E H:=by
 refine⟨fun h=>?_,S4⟩;obtain⟨a,b,e,q⟩:=h;cases e;exact q
theorem qy {dst:Option Nat}{f:Bool}{l:List AOper}{x:X}{args caps vs:List V}{i:List X}{g:Nat}{H1:ab}(o:am E x=.fn g caps)
 (k:i.map (am E)++caps=args) (n:prep S g H args=some (vs,H1))
 (h:CT S g vs H1 (fun v b=>((d&&!f)=true->H <+: b)/\WO S n0 d l (put E dst v) b R)):rk S n0 d dst x i none f l E H R:=by
 obtain⟨v,b,e,a,p,r,j,q⟩:=h;subst k;exact⟨_,_,.opCall rfl rfl o n e (fun m c=>a (by simp[m];simpa using c)) j,q⟩
theorem CQ.ct {g:Nat}{args:List V}{v:V}{Q:V->ab->Prop}(h:CQ S g args v)(a:Q v H):CT S g args H Q:=⟨_,_,h H,a⟩
theorem jj {g:Nat}{f:AFn}{args:List V}{v:V}(j:S.fn g=some f)
 (h:∀H,WC S H.length f.body (E0 args) H (fun x i b=>(x=.normal\/x=.ret)/\∃c,d8 i b f.results=some c/\fin f.own H.length b c=some (v,H))):CQ S g args v:=by
 intro H;obtain⟨x,i,b,e,l,c,k,a⟩:=h H;exact .call j e l k a
theorem ms {g:Nat}{f:AFn}{args:List V}{Q:V->ab->Prop}(k:S.fn g=some f)
 (h:WC S H.length f.body (E0 args) H (fun x j b=>(x=.normal\/x=.ret)/\∃i v c,d8 j b f.results=some i/\fin f.own H.length b i=some (v,c)/\Q v c)):CT S g args H Q:=by
 obtain⟨x,j,b,e,n,i,v,c,m,a,l⟩:=h;exact⟨_,_,.call k e n m a,l⟩
theorem Sk {g:Nat}{pre post:List V}{v:V}(a:CQ S g (pre++.nil :: post) v)(b:CQ S g (pre++.emp :: post) v):CQ S g (pre++.sl [] :: post) v:=fun H=>.emp (a H) (b H)
end
theorem P1 (E:aA)(d:Nat)(v:V)(i:Nat):iL E d v i=if i=d then v else E i:=rfl
theorem wrap_i64 {n:Int}(a:-9223372036854775808<=n)(b:n<9223372036854775808):IntKind.wrap .i64 n=n:=by
 simp[IntKind.wrap,IntKind.bits,IntKind.signed];split<;>omega
theorem Oq {n:Int}(a:0<=n)(b:n<4294967296):IntKind.wrap .u32 n=n:=by
 simp only[IntKind.wrap,IntKind.bits,IntKind.signed];simp;omega
theorem ee {n:Int}(a:0<=n)(b:n<18446744073709551616):IntKind.wrap .u64 n=n:=by
 simp only[IntKind.wrap,IntKind.bits,IntKind.signed];simp;omega
end Go.Abs
namespace Go.Abs
def prog : AProg:=⟨ku fnList,fun _ _=>none⟩
def fP (z bytes:Nat)(x y:V)(H:ab):Option (V × ab):=
 (elems H y).bind fun ys=>
  if fF z ys=true then
   match x with
   | .nil=>
    if ys=[]then some (.nil,H)
    else if jo ys.length bytes=true then some (.ref H.length z 0 ys.length,H++[some ⟨z,ys,true,true⟩])else none
   | .ref b z' off len=>
    match H[b]? with
    |some (some k)=>
     if k.arr=true/\k.wr=true/\k.z=z/\z'=z/\off+len<=k.el.length/\jo (len+ys.length) bytes=true then
      if ys=[]then some (.ref b z' off len,H)
      else some (.ref H.length z 0 (len+ys.length),H.set b none++[some ⟨z,(k.el.drop off).take len++ys,true,true⟩])
     else none
    |_=>none
   |_=>none
  else none
theorem Q0 {n0 z bytes:Nat}{x y:X}{E:aA}{H:ab}:aS n0 (.append z bytes x y) E H=fP z bytes (am E x) (am E y) H:=rfl
theorem TV {n0:Nat}{E:aA}{H:ab}{x:X}:aS n0 (.mv x) E H=(some (am E x,H)):=rfl
theorem OB {n0:Nat}{E:aA}{H:ab}{c a b:X}:aS n0 (.pick c a b) E H =
 match am E c with
 | .bool t=>some (if t then am E a else am E b,H)
 |_=>none:=rfl
theorem LX {n0:Nat}{E:aA}{H:ab}{z:Nat}{x:X}:aS n0 (.box z x) E H =
 if(am E x).cells.length=z/\(am E x).isTup=false then some (.ptr H.length 0 0,H++[some ⟨z,[am E x],false,true⟩])else none:=rfl
theorem Mk {n0:Nat}{E:aA}{H:ab}{z:Nat}{v:V}:aS n0 (.new z v) E H=(if v.cells.length=z/\v.pure=true then some (.ptr H.length 0 0,H++[some ⟨z,[v],false,true⟩])else none):=rfl
theorem P9 {n0:Nat}{E:aA}{H:ab}{zero:List V}{a:List (Nat × Nat × X)}:aS n0 (.build zero a) E H =
 if zero.all V.cellPure=true then(gz zero (a.map fun p=>(p.1,p.2.1,am E p.2.2))).map fun cs=>(.agg cs,H)else none:=rfl
theorem Q1 {n0:Nat}{E:aA}{H:ab}{z len:Nat}{zero:V}{a:List (Nat × X)}:aS n0 (.bslice z len zero a) E H =
 if zero.cells.length=z/\zero.pure=true then
  (gM H (a.map fun p=>am E p.2)).bind fun(c,b)=>
   (er z (List.replicate len zero) ((a.map (·.1)).zip c)).map fun el=>(.ref b.length z 0 len,b++[some ⟨z,el,true,true⟩])
 else none:=rfl
theorem OC {n0:Nat}{E:aA}{H:ab}{z len:Nat}{zero:V}{a:List (Nat × X)}:aS n0 (.plit z len zero a) E H =
 if zero.cells.length=z/\zero.pure=true then
  (gM [] (a.map fun p=>am E p.2)).bind fun q=>
   (er z (List.replicate len zero) ((a.map (·.1)).zip q.1)).bind fun el=>if 0+len<=el.length then some (.sl ((el.drop 0).take len),H)else none
 else none:=rfl
theorem Oy {n0:Nat}{E:aA}{H:ab}{a:Bool}{z:Nat}{x:X}:aS n0 (.load a z x) E H =
 match am E x with
 | .eptr cs=>(cA a z cs).map fun v=>(v,H)
 | .ptr b i off=>
  match H[b]? with
  |some (some k)=>
   match k.el[i]? with
   |some e=>(cA a z (e.cells.drop off)).map fun v=>(v,H)
   |none=>none
  |_=>none
 |_=>none:=rfl
theorem PU {n0:Nat}{E:aA}{H:ab}{z:Nat}{a x:X}:aS n0 (.store z a x) E H=(nd n0 z (am E a) (am E x) H):=rfl
theorem PT {n0:Nat}{E:aA}{H:ab}{a:Bool}{z t:Nat}:aS n0 (.sload a z t) E H =
 match E t with
 | .eptr cs=>(cA a z cs).map fun v=>(v,H)
 | .ptr b i off=>
  match H[b]? with
  |some (some k)=>
   match k.el[i]? with
   |some e=>(cA a z (e.cells.drop off)).bind fun v=>if v.cells.all (V.lowB H.length)=true/\v.isTup=false then some (v,H)else none
   |none=>none
  |_=>none
 |_=>none:=rfl
theorem QM {n0:Nat}{E:aA}{H:ab}{z:Nat}{a x:X}{b:List Nat}:aS n0 (.storeN z a x b) E H=(if(am E x).pure=true/\(b.all fun t=>dx (E t) (am E a))=true then nd n0 z (am E a) (am E x) H else none):=rfl
theorem LW {n0:Nat}{E:aA}{H:ab}{a:BK}{op:BinOp}{x y:X}:aS n0 (.bin a op x y) E H=((dP a op (am E x) (am E y)).map fun v=>(v,H)):=rfl
theorem TW {n0:Nat}{E:aA}{H:ab}{op:UnOp}{x:X}:aS n0 (.un op x) E H=((uy op (am E x)).map fun v=>(v,H)):=rfl
theorem NY {n0:Nat}{E:aA}{H:ab}{k:IntKind}{x:X}:aS n0 (.conv k x) E H =
 match am E x with
 | .int _ n=>some (.int k (k.wrap n),H)
 |_=>none:=rfl
theorem OA {n0:Nat}{E:aA}{H:ab}{g:Nat}{caps:List X}:aS n0 (.mkfn g caps) E H=(if(caps.map (am E)).all V.isCell=true then some (.fn g (caps.map (am E)),H)else none):=rfl
theorem RB {n0:Nat}{E:aA}{H:ab}{z bytes:Nat}{zero:V}{l c:X}:aS n0 (.mkslice z bytes zero l c) E H =
 match ck (am E l),ck (am E c)with
 |some l,some c=>
  if l<=c/\c*bytes<=281474976710656/\c<=9223372036854775807/\zero.cells.length=z/\zero.pure=true then
   some (.ref H.length z 0 l,H++[some ⟨z,List.replicate c zero,true,true⟩])
  else none
 |_,_=>none:=rfl
theorem Rz {n0 z bytes:Nat}{zero:V}{x n:X}{E:aA}{H:ab}:aS n0 (.appendZ z bytes zero x n) E H =
 match am E x,ck (am E n)with
 | .nil,some m=>
  if 0<m/\m*bytes<=140737488355328/\m<=9223372036854775807/\zero.cells.length=z/\zero.pure=true then some (.ref H.length z 0 m,H++[some ⟨z,List.replicate m zero,true,true⟩])else none
 |_,_=>none:=rfl
theorem PS {n0:Nat}{E:aA}{H:ab}{z:Nat}{x:X}{lo hi mx:Option X}:aS n0 (.slice z x lo hi mx) E H =
 match am E x with
 | .nil=>
  match d9 E 0 lo,d9 E 0 hi,d9 E 0 mx with
  |some 0,some 0,some 0=>some (.nil,H)
  |_,_,_=>none
 | .sl l=>
  match d9 E 0 lo,d9 E l.length hi,d9 E l.length mx with
  |some lo,some hi,some mx=>
   if lo<=hi/\hi<=mx/\mx<=l.length/\(lo=0\/fF z ((l.take hi).drop lo)=true)then some (.sl ((l.take hi).drop lo),H)else none
  |_,_,_=>none
 | .ref b a off len=>
  match d9 E 0 lo,d9 E len hi,mx with
  |some lo,some hi,none=>if lo<=hi/\hi<=len/\a=z then some (.ref b a (off+lo) (hi-lo),H)else none
  |_,_,_=>none
 |_=>none:=rfl
theorem Qa {n0:Nat}{E:aA}{H:ab}{off:Nat}{x:X}:aS n0 (.faddr off x) E H =
 match am E x with
 | .ptr b i o=>some (.ptr b i (o+off),H)
 | .eptr cs=>some (.eptr (cs.drop off),H)
 |_=>none:=rfl
theorem Qb {n0:Nat}{E:aA}{H:ab}{a:Bool}{off z:Nat}{x:X}:aS n0 (.field a off z x) E H =
 match am E x with
 | .agg cs=>(cA a z (cs.drop off)).map fun v=>(v,H)
 |_=>none:=rfl
theorem Qc {n0:Nat}{E:aA}{H:ab}{z:Nat}{x i:X}:aS n0 (.iaddr z x i) E H =
 match am E x,ck (am E i)with
 | .sl l,some i=>
  match l[i]? with
  |some e=>if e.cells.length=z then some (.eptr e.cells,H)else none
  |none=>none
 | .ref b a off len,some i=>if i<len/\a=z then some (.ptr b (off+i) 0,H)else none
 |_,_=>none:=rfl
theorem QZ {n0:Nat}{E:aA}{H:ab}{n z:Nat}{x i:X}:aS n0 (.aiaddr n z x i) E H =
 match am E x,ck (am E i)with
 | .ptr b j off,some i=>if i<n then some (.ptr b j (off+i*z),H)else none
 | .eptr cs,some i=>if i<n then some (.eptr (cs.drop (i*z)),H)else none
 |_,_=>none:=rfl
theorem PR {n0:Nat}{E:aA}{H:ab}{a:Bool}{n z:Nat}{x i:X}:aS n0 (.index a n z x i) E H =
 match am E x,ck (am E i)with
 | .agg cs,some i=>if i<n then(cA a z (cs.drop (i*z))).map fun v=>(v,H)else none
 |_,_=>none:=rfl
theorem Q2 {n0:Nat}{E:aA}{H:ab}{x i:X}:aS n0 (.sindex x i) E H =
 match am E x,ck (am E i)with
 | .str s,some i=>
  match s[i]? with
  |some b=>some (.int .u8 b.toNat,H)
  |none=>none
 |_,_=>none:=rfl
theorem RA {n0:Nat}{E:aA}{H:ab}{i:Nat}{x:X}:aS n0 (.extract i x) E H =
 match am E x with
 | .tup a=>(a[i]?).map fun v=>(v,H)
 |_=>none:=rfl
theorem LY {n0:Nat}{E:aA}{H:ab}{x:X}:aS n0 (.len x) E H =
 match am E x with
 | .sl l=>some (.int .i64 l.length,H)
 | .nil=>some (.int .i64 0,H)
 | .emp=>some (.int .i64 0,H)
 | .ref _ _ _ len=>some (.int .i64 len,H)
 |_=>none:=rfl
theorem N0 {n0:Nat}{E:aA}{H:ab}{n:Nat}{x:X}:aS n0 (.lenc n x) E H=(some (.int .i64 n,H)):=rfl
theorem NX {n0:Nat}{E:aA}{H:ab}{x:X}:aS n0 (.capn x) E H =
 match am E x with
 | .nil=>some (.int .i64 0,H)
 |_=>none:=rfl
theorem NZ {n0:Nat}{E:aA}{H:ab}{z:Nat}{x y:X}:aS n0 (.copy z x y) E H =
 match am E x with
 | .ref b c off len=>
  (elems H (am E y)).bind fun a=>
   match H[b]? with
   |some (some k)=>
    if k.arr=true/\k.wr=true/\k.z=z/\c=z/\fF z a=true/\off+len<=k.el.length then
     some (.int .i64 (Nat.min a.length len),H.set b (some { k with el:=fZ k.el off (a.take len) }))
    else none
   |_=>none
 |_=>none:=rfl
theorem Mj {n0:Nat}{E:aA}{H:ab}{x y:X}:aS n0 (.min x y) E H =
 match am E x,am E y with
 | .int k a,.int c b=>if k=c then some (.int k (if b<a then b else a),H)else none
 |_,_=>none:=rfl
theorem Mi {n0:Nat}{E:aA}{H:ab}{x y:X}:aS n0 (.max x y) E H =
 match am E x,am E y with
 | .int k a,.int c b=>if k=c then some (.int k (if a<b then b else a),H)else none
 |_,_=>none:=rfl
theorem Oz {n0:Nat}{E:aA}{H:ab}{x y z:X}:aS n0 (.max3 x y z) E H =
 match am E x,am E y,am E z with
 | .int k a,.int e b,.int d c=>if k=e/\k=d then some (.int k (if(if a<b then b else a)<c then c else if a<b then b else a),H)else none
 |_,_,_=>none:=rfl
attribute [simp] Oz Q0 TV OB LX Mk P9 Q1 OC Oy PU PT QM LW TW NY OA RB Rz PS Qa Qb Qc QZ PR Q2 RA LY N0 NX NZ Mj Mi
inductive Fr where
 |seq (b:AC)
 |blk (id:Nat)
section
variable {S : AProg} {n0 : Nat} {Q : AX → aA → ab → Prop}
def WP (S:AProg)(n0:Nat)(Q:AX->aA->ab->Prop):List Fr->AX->aA->ab->Prop
 | [],x,E,H=>Q x E H
 | .seq b :: K,.normal,E,H=>WC S n0 b E H (fun x E H=>WP S n0 Q K x E H)
 | .seq _ :: K,x,E,H=>WP S n0 Q K x E H
 | .blk id :: K,x,E,H=>WP S n0 Q K (x.outOf id) E H
def WK (S:AProg)(n0:Nat)(c:AC)(K:List Fr)(E:aA)(H:ab)(Q:AX->aA->ab->Prop):Prop:=WC S n0 c E H (fun x E H=>WP S n0 Q K x E H)
def WL (S:AProg)(n0:Nat)(d:Bool)(l:List AOper)(K:List Fr)(E:aA)(H:ab)(Q:AX->aA->ab->Prop):Prop:=WO S n0 d l E H (fun E H=>WP S n0 Q K .normal E H)
theorem pK {c:AC}{E:aA}{H:ab}(h:WK S n0 c [] E H Q):WC S n0 c E H Q:=h
theorem S5 {x:AX}{E:aA}{H:ab}:WP S n0 Q [] x E H↔Q x E H:=Xo
theorem S6 {b:AC}{K:List Fr}{E:aA}{H:ab}:WP S n0 Q (.seq b :: K) .normal E H↔WK S n0 b K E H Q:=Xo
theorem Rp {b:AC}{K:List Fr}{id:Nat}{E:aA}{H:ab}:WP S n0 Q (.seq b :: K) (.exit id) E H↔WP S n0 Q K (.exit id) E H:=Xo
theorem Qf {b:AC}{K:List Fr}{E:aA}{H:ab}:WP S n0 Q (.seq b :: K) .ret E H↔WP S n0 Q K .ret E H:=Xo
theorem WP_blk {id:Nat}{K:List Fr}{x:AX}{E:aA}{H:ab}:WP S n0 Q (.blk id :: K) x E H↔WP S n0 Q K (x.outOf id) E H:=by cases x<;>exact Xo
theorem fw {c:AC}{E:aA}{H:ab}{a:AX->aA->ab->Prop}(h:WC S n0 c E H Q)(f:∀x E H,Q x E H->a x E H):WC S n0 c E H a:=by
 obtain⟨x,b,d,e,q⟩:=h;exact⟨x,b,d,e,f _ _ _ q⟩
theorem QL {a b:AC}{K:List Fr}{E:aA}{H:ab}:WK S n0 (.seq a b) K E H Q↔WK S n0 a (.seq b :: K) E H Q:=by
 constructor
 ·rintro⟨x,d,f,e,q⟩;cases e with
  |seqN c g=>exact⟨.normal,_,_,c,_,_,_,g,q⟩
  |seqX c i=>
   refine⟨x,d,f,c,?_⟩;cases x with
   |normal=>exact absurd rfl i
   |exit id=>exact q
   |ret=>exact q
 ·intro h;refine ff (fw h fun x d f q=>?_);cases x with
  |normal=>exact q
  |exit id=>exact q
  |ret=>exact q
theorem CC {x:X}{a b:AC}{K:List Fr}{E:aA}{H:ab}:WK S n0 (.cond x a b) K E H Q↔match am E x with| .bool true=>WK S n0 a K E H Q| .bool false=>WK S n0 b K E H Q|_=>False:=by
 constructor
 ·rintro⟨y,f,g,e,q⟩;cases e with
  | @cond _ _ _ _ _ _ t _ c d=>
   rw[c];cases t with
   |true=>exact⟨_,_,_,by simpa using d,q⟩
   |false=>exact⟨_,_,_,by simpa using d,q⟩
 ·intro h;split at h
  ·rename_i c;exact KJ c h
  ·rename_i c;exact MI c h
  ·exact h.elim
theorem RM {id:Nat}{c:AC}{K:List Fr}{E:aA}{H:ab}:WK S n0 (.block id c) K E H Q↔WK S n0 c (.blk id :: K) E H Q:=by
 constructor
 ·rintro⟨y,a,b,e,q⟩;cases e with
  |block d=>exact⟨_,_,_,d,WP_blk.2 q⟩
 ·intro h;exact MH (fw h fun x a b q=>WP_blk.1 q)
theorem RN {c:AC}{K:List Fr}{E:aA}{H:ab}:WK S n0 (.scope c) K E H Q↔WK S n0 c K E H Q:=by
 constructor
 ·rintro⟨y,b,d,e,q⟩;cases e with
  |scope a=>exact⟨_,_,_,a,q⟩
 ·intro h;exact MJ h
theorem q9r {d:Bool}{l:List AOper}{K:List Fr}{E:aA}{H:ab}:WK S n0 (.region d l) K E H Q↔WL S n0 d l K E H Q:=by
 constructor
 ·rintro⟨y,b,c,e,q⟩;cases e with
  |region a=>exact⟨_,_,a,q⟩
 ·intro h;exact OU h
theorem Ro {K:List Fr}{E:aA}{H:ab}:WK S n0 .skip K E H Q↔WP S n0 Q K .normal E H:=⟨by rintro⟨y,a,b,e,q⟩;cases e;exact q,Kh⟩
theorem Rn {id:Nat}{K:List Fr}{E:aA}{H:ab}:WK S n0 (.exit id) K E H Q↔WP S n0 Q K (.exit id) E H:=⟨by rintro⟨y,a,b,e,q⟩;cases e;exact q,Kf⟩
theorem QK {K:List Fr}{E:aA}{H:ab}:WK S n0 .ret K E H Q↔WP S n0 Q K .ret E H:=⟨by rintro⟨y,a,b,e,q⟩;cases e;exact q,Sy⟩
theorem Qd {d:Bool}{K:List Fr}{E:aA}{H:ab}:WL S n0 d [] K E H Q↔WP S n0 Q K .normal E H:=Qe
def mw (S:AProg)(n0:Nat)(d:Bool)(dst:Option Nat)(x:X)(xs:List X)(sy:Bool)(l:List AOper)(K:List Fr)(E:aA)(H:ab)(Q:AX->aA->ab->Prop):Prop:=
 rk S n0 d dst x xs none sy l E H (fun E H=>WP S n0 Q K .normal E H)
def iU (S:AProg)(n0:Nat)(d:Bool)(dst:Option Nat)(op:AOp)(gu:Option (Nat × Bool))(sy:Bool)(l:List AOper)(K:List Fr)(E:aA)(H:ab)(Q:AX->aA->ab->Prop):Prop:=
 match gd ⟨dst,op,gu,sy⟩ E with
 |some false=>WL S n0 d l K (put E dst .undef) H Q
 |some true=>
  match op with
  | .call x xs=>mw S n0 d dst x xs sy l K E H Q
  |op=>
   match aS n0 op E H with
   |some (v,H1)=>((d&&!sy)=true->H <+: H1)/\WL S n0 d l K (put E dst v) H1 Q
   |none=>False
 |none=>False
theorem u0 {d:Bool}{dst:Option Nat}{op:AOp}{a:Option (Nat × Bool)}{b:Bool}{l:List AOper}{K:List Fr}{E:aA}{H:ab}:WL S n0 d (⟨dst,op,a,b⟩ :: l) K E H Q↔iU S n0 d dst op a b l K E H Q:=SE
theorem ak {d:Bool}{dst:Option Nat}{f:Bool}{l:List AOper}{K:List Fr}{E:aA}{H:ab}{x:X}{args caps vs:List V}{a:List X}{g:Nat}{v:V}(e:am E x=.fn g caps)
 (b:a.map (am E)++caps=args) (c:prep S g H args=some (vs,H)) (h:CQ S g vs v) (k:WL S n0 d l K (put E dst v) H Q):mw S n0 d dst x a f l K E H Q:=
 qy e b c (h.ct ⟨fun _=>VJ H,k⟩)
theorem zq {d:Bool}{dst:Option Nat}{f:Bool}{l:List AOper}{K:List Fr}{E:aA}{H:ab}{x:X}{args caps vs:List V}{a:List X}{g:Nat}{v:V}(h:CQ S g vs v) (k:WL S n0 d l K (put E dst v) H Q)(e:am E x=.fn g caps:=by exact rfl)(b:a.map (am E)++caps=args:=by exact rfl)(c:prep S g H args=some (vs,H):=by exact rfl):mw S n0 d dst x a f l K E H Q:=ak e b c h k
theorem pL {d:Bool}{dst:Option Nat}{b:Bool}{l:List AOper}{K:List Fr}{E:aA}{H H1:ab}{x:X}{args caps vs:List V}{c:List X}{g:Nat}(i:am E x=.fn g caps)
 (e:c.map (am E)++caps=args) (f:prep S g H args=some (vs,H1)) (h:CT S g vs H1 (fun v a=>((d&&!b)=true->H <+: a)/\WL S n0 d l K (put E dst v) a Q)):mw S n0 d dst x c b l K E H Q:=
 qy i e f h
theorem e9 {c:AC}{K:List Fr}{E:aA}{H:ab}(I:Nat->aA->ab->Prop)(k:Nat)(e:I k E H)
 (a:∀k E H,I k E H->WC S n0 c E H (AX.thn (fun b d=>∃j,j<k/\I j b d) (fun x E H=>WP S n0 Q K x E H))):WK S n0 (.loop c) K E H Q:=Kg I k e a
theorem b9 {c:AC}{E:aA}{H:ab}{J:aA->ab->Prop}{R:AX->aA->ab->Prop}(h:WK S n0 c [] E H (AX.thn J R)):WC S n0 c E H (AX.thn J R):=h
theorem QP {J:aA->ab->Prop}{R:AX->aA->ab->Prop}{E:aA}{H:ab}:AX.thn J R .normal E H↔J E H:=Xo
theorem OH {J:aA->ab->Prop}{R:AX->aA->ab->Prop}{id:Nat}{E:aA}{H:ab}:AX.thn J R (.exit id) E H↔R (.exit id) E H:=Xo
theorem Mr {J:aA->ab->Prop}{R:AX->aA->ab->Prop}{E:aA}{H:ab}:AX.thn J R .ret E H↔R .ret E H:=Xo
theorem ap {g:Nat}{f:AFn}{args:List V}{v:V}(d:S.fn g=some f)
 (h:∀H,WK S H.length f.body [] (E0 args) H (fun x c a=>(x=.normal\/x=.ret)/\∃b,d8 c a f.results=some b/\fin f.own H.length a b=some (v,H))):CQ S g args v:=jj d h
end
theorem SX {n:Nat}{H:ab}{l:List V}:fin false n H (.sl l)=some (.sl l,H.take n):=rfl
theorem KE {n:Nat}{H:ab}{k:IntKind}{i:Int}:fin false n H (.int k i)=some (.int k i,H.take n):=rfl
theorem MX {n:Nat}{H:ab}{b:Bool}:fin false n H (.bool b)=some (.bool b,H.take n):=rfl
@[simp] theorem qfV {cs:List V}:(V.agg cs).cells=cs:=rfl
@[simp] theorem qgM {b:Bool}:(V.bool b).cells=[.bool b]:=rfl
@[simp] theorem qfW {k:IntKind}{n:Int}:(V.int k n).cells=[.int k n]:=rfl
@[simp] theorem qgC {l:List V}:(V.sl l).cells=[.sl l]:=rfl
@[simp] theorem qfX : V.nil.cells=[.nil]:=rfl
@[simp] theorem qfZ {b z off len:Nat}:(V.ref b z off len).cells=[.ref b z off len]:=rfl
@[simp] theorem qfY {b i off:Nat}:(V.ptr b i off).cells=[.ptr b i off]:=rfl
@[simp] theorem qgB {g:Nat}{cs:List V}:(V.fn g cs).cells=[.fn g cs]:=rfl
@[simp] theorem qhU {cs:List V}:(V.agg cs).isTup=false:=rfl
@[simp] theorem qgE {b:Bool}:(V.bool b).isTup=false:=rfl
@[simp] theorem qhV {k:IntKind}{n:Int}:(V.int k n).isTup=false:=rfl
@[simp] theorem qhH {l:List V}:(V.sl l).isTup=false:=rfl
@[simp] theorem qhW : V.nil.isTup=false:=rfl
@[simp] theorem qhL {b z off len:Nat}:(V.ref b z off len).isTup=false:=rfl
@[simp] theorem qhK {b i off:Nat}:(V.ptr b i off).isTup=false:=rfl
@[simp] theorem qhG {g:Nat}{cs:List V}:(V.fn g cs).isTup=false:=rfl
attribute [simp] SX KE MX S5 S6 Rp Qf WP_blk QL RM RN q9r Ro Rn QK Qd QP OH Mr
attribute [simp] am put P1 E0 AX.outOf dP fW tu uy ck d9 nd cA V.isNil d8 ia iY
end Go.Abs
namespace Go.Abs
section
variable {S : AProg} {n0 : Nat} {Q : AX → aA → ab → Prop}
def uv (S:AProg)(n0:Nat)(v:V)(a b:AC)(K:List Fr)(E:aA)(H:ab)(Q:AX->aA->ab->Prop):Prop:=
 match v with
 | .bool true=>WK S n0 a K E H Q
 | .bool false=>WK S n0 b K E H Q
 |_=>False
theorem MK {t:Bool}{a b:AC}{K:List Fr}{E:aA}{H:ab}:uv S n0 (.bool t) a b K E H Q↔(t=true->WK S n0 a K E H Q)/\(t=false->WK S n0 b K E H Q):=by cases t<;>simp[uv]
theorem ML {a b:AC}{K:List Fr}{E:aA}{H:ab}:uv S n0 (.bool true) a b K E H Q↔WK S n0 a K E H Q:=Xo
theorem OW {a b:AC}{K:List Fr}{E:aA}{H:ab}:uv S n0 (.bool false) a b K E H Q↔WK S n0 b K E H Q:=Xo
theorem OV {x:X}{a b:AC}{K:List Fr}{E:aA}{H:ab}:WK S n0 (.cond x a b) K E H Q↔uv S n0 (am E x) a b K E H Q:=by
 rw[CC];unfold uv;split<;>simp_all
def fT (S:AProg)(n0:Nat)(d:Bool)(dst:Option Nat)(op:AOp)(sy:Bool)(l:List AOper)(K:List Fr)(E:aA)(H:ab)(Q:AX->aA->ab->Prop):Prop:=
 match op with
 | .call x xs=>mw S n0 d dst x xs sy l K E H Q
 |op=>
  match aS n0 op E H with
  |some (v,H1)=>((d&&!sy)=true->H <+: H1)/\WL S n0 d l K (put E dst v) H1 Q
  |none=>False
theorem KL {d:Bool}{dst:Option Nat}{op:AOp}{sy:Bool}{l:List AOper}{K:List Fr}{E:aA}{H:ab} :
 WL S n0 d (⟨dst,op,none,sy⟩ :: l) K E H Q↔fT S n0 d dst op sy l K E H Q:=u0
theorem Om {E:aA}{t:Nat}{v:V}(h:E t=v):iL E t v=E:=by
 funext i;unfold iL;split
 ·rename_i e;rw[e,h]
 ·rfl
def kQ (S:AProg)(n0:Nat)(v:V)(t:Nat)(want d:Bool)(dst:Option Nat)(op:AOp)(sy:Bool)(l:List AOper)(K:List Fr)(E:aA)(H:ab)(Q:AX->aA->ab->Prop):Prop:=
 match v with
 | .bool b=>if b=want then fT S n0 d dst op sy l K (iL E t (.bool b)) H Q else WL S n0 d l K (put (iL E t (.bool b)) dst .undef) H Q
 | .tup _=>WL S n0 d l K (put E dst .undef) H Q
 |_=>False
theorem KM {d:Bool}{dst:Option Nat}{op:AOp}{sy:Bool}{l:List AOper}{K:List Fr}{E:aA}{H:ab}{t:Nat}{a:Bool} :
 WL S n0 d (⟨dst,op,some (t,a),sy⟩ :: l) K E H Q↔kQ S n0 (E t) t a d dst op sy l K E H Q:=by
 rw[u0];unfold iU kQ gd;simp only;cases hv:E t with
 |bool b=>cases b<;>cases a<;>(simp only[Om hv];exact Xo)
 |tup c=>exact Xo
 |_=>exact Xo
variable {t : Nat} {d : Bool} {dst : Option Nat} {op : AOp} {sy : Bool} {l : List AOper} {K : List Fr} {E : aA} {H : ab}
theorem BW {b:Bool}:kQ S n0 (.bool b) t true d dst op sy l K E H Q↔(b=true->fT S n0 d dst op sy l K (iL E t (.bool true)) H Q)/\(b=false->WL S n0 d l K (put (iL E t (.bool false)) dst .undef) H Q):=by
 cases b<;>simp[kQ]
theorem BX {b:Bool}:kQ S n0 (.bool b) t false d dst op sy l K E H Q↔(b=true->WL S n0 d l K (put (iL E t (.bool true)) dst .undef) H Q)/\(b=false->fT S n0 d dst op sy l K (iL E t (.bool false)) H Q):=by
 cases b<;>simp[kQ]
theorem SD : kQ S n0 (.bool true) t true d dst op sy l K E H Q↔fT S n0 d dst op sy l K (iL E t (.bool true)) H Q:=Xo
theorem SB : kQ S n0 (.bool false) t true d dst op sy l K E H Q↔WL S n0 d l K (put (iL E t (.bool false)) dst .undef) H Q:=Xo
theorem SC : kQ S n0 (.bool true) t false d dst op sy l K E H Q↔WL S n0 d l K (put (iL E t (.bool true)) dst .undef) H Q:=Xo
theorem SA : kQ S n0 (.bool false) t false d dst op sy l K E H Q↔fT S n0 d dst op sy l K (iL E t (.bool false)) H Q:=Xo
theorem KN {a:Bool}{vs:List V}:kQ S n0 (.tup vs) t a d dst op sy l K E H Q↔WL S n0 d l K (put E dst .undef) H Q:=Xo
theorem OY {a:Bool}:kQ S n0 .undef t a d dst op sy l K E H Q↔WL S n0 d l K (put E dst .undef) H Q:=Xo
end
theorem aJ {S:AProg}{n0:Nat}{Q:AX->aA->ab->Prop}{c:AC}{K:List Fr}{E:aA}{H:ab}(I:Nat->aA->ab->Prop)(n:Nat)(g:I 0 E H)
 (a:∀i E H,i<=n->I i E H->WK S n0 c [] E H (AX.thn (fun e f=>i<n/\I (i+1) e f) (fun x E H=>WP S n0 Q K x E H))):WK S n0 (.loop c) K E H Q:=by
 refine e9 (fun k E H=>∃i,i+k=n/\I i E H) n ⟨0,by omega,g⟩ ?_;rintro k E H ⟨i,hi,h⟩;refine fw (a i E H (by omega) h) ?_;intro x e f b;cases x with
 |normal=>exact⟨k-1,by have:=b.1;omega,i+1,by have:=b.1;omega,b.2⟩
 |exit id=>exact b
 |ret=>exact b
theorem za {a:Type}(H l:List a)(k:Nat):(H++l)[H.length+k]?=l[k]?:=by
 rw[VD (by omega)];congr 1;omega
theorem Pq {a:Type}(H l:List a):(H++l)[H.length]?=l[0]?:=za H l 0
theorem yd {a:Type}(H l:List a)(k:Nat)(v:a):(H++l).set (H.length+k) v=H++l.set k v:=by
 rw[aae _ _ (by omega)];congr 2;omega
theorem NP {a:Type}(H l:List a)(v:a):(H++l).set H.length v=H++l.set 0 v:=yd H l 0 v
attribute [simp low] MK BW BX
attribute [simp] OV ML OW fT KL KM SD SB SC SA KN OY za Pq yd NP
end Go.Abs
namespace Go.Abs
def aa : List Nat->Nat
 | []=>0
 |x :: l=>x+4294967296*aa l
def Li (l:List Nat):Prop:=∀x ∈ l,x<4294967296
theorem Li.cons {x:Nat}{l:List Nat}(h:Li (x :: l)):x<4294967296/\Li l:=⟨h x (by simp),fun y a=>h y (by simp[a])⟩
theorem Li.take {l:List Nat}(h:Li l)(n:Nat):Li (l.take n):=fun x a=>h x (W4 a)
theorem Li.drop {l:List Nat}(h:Li l)(n:Nat):Li (l.drop n):=fun x a=>h x (Xk a)
theorem Li.append {l m:List Nat}(h:Li l)(k:Li m):Li (l++m):=fun x a=>(V6.1 a).elim (h x) (k x)
theorem lF : ∀(l m:List Nat),aa (l++m)=aa l+4294967296^l.length*aa m
 | [],m=>by simp[aa]
 |x :: l,m=>by
  simp only[List.cons_append,aa,lF l m,Xh,VH];rw[VM,<-Vt,VE 4294967296 (4294967296^l.length)];omega
theorem bz : ∀{l:List Nat},Li l->aa l<4294967296^l.length
 | [],_=>by simp[aa]
 |x :: l,h=>by
  have a:=bz h.cons.2;have b:=h.cons.1;simp only[aa,Xh,VH];omega
theorem qW (n:Nat):aa (List.replicate n 0)=0:=by
 induction n with
 |zero=>rfl
 |succ n a=>simp[aat,aa,a]
def a9 (l:List Nat):Nat->Nat
 |0=>0
 |n+1=>if l[n]?=some 0 then a9 l n else n+1
def trimL (l:List Nat):List Nat:=l.take (a9 l l.length)
theorem z5 (l:List Nat):∀n,a9 l n<=n
 |0=>Vo _
 |n+1=>by unfold a9;split;exact abF (z5 l n);exact Vo _
theorem q52 (l:List Nat):∀n,n<=l.length->aa (l.take (a9 l n))=aa (l.take n)
 |0,_=>by simp[a9]
 |n+1,h=>by
  unfold a9;split
  ·rename_i a;rw[q52 l n (by omega),aaH,a,lF];simp[aa]
  ·rfl
theorem uX (l:List Nat):aa (trimL l)=aa l:=by rw[trimL,q52 l _ (Vo _),List.take_length]
theorem Li.trimL {l:List Nat}(h:Li l):Li (trimL l):=h.take _
def Trim (l:List Nat):Prop:=∀x,l.getLast?=some x->x≠0
theorem ZG (l:List Nat):∀n,n<=l.length->∀m,a9 l n=m+1->l[m]?≠some 0
 |0,_,m,h=>by simp[a9]at h
 |n+1,b,m,h=>by
  unfold a9 at h;split at h
  ·exact ZG l n (by omega) m h
  ·rename_i a;have:n=m:=by omega
   subst this;exact a
theorem Cy (l:List Nat):Trim (trimL l):=by
 intro x a;unfold trimL at a;have b:=z5 l l.length;rw[Yd,Xt,WW b]at a;cases c:a9 l l.length with
 |zero=>rw[c]at a;simp at a
 |succ m=>
  rw[c]at a;have e:=ZG l l.length (Vo _) m c;have f:(l.take (m+1))[m+1-1]?=l[m]?:=by rw[WQ];simp
  rw[f]at a;intro d;subst d;exact e a
theorem q61 {l:List Nat}(h:Trim l):trimL l=l:=by
 unfold trimL;cases a:l.length with
 |zero=>rw[VK a];rfl
 |succ n=>
  have c:l[n]?≠some 0:=by
   intro b;exact h 0 (by rw[Yd,a];exact b) rfl
  unfold a9;rw[Vk c,<-a,List.take_length]
theorem x9 {l:List Nat}(h:Trim l)(b:l≠[]):4294967296^(l.length-1)<=aa l:=by
 have⟨x,a⟩:∃x,l.getLast?=some x:=by
  cases c:l.getLast? with
  |none=>exact absurd (List.getLast?_eq_none_iff.1 c) b
  |some x=>exact⟨x,rfl⟩
 have d:=h x a;have:l=l.dropLast++[x]:=by
  have:=aan b;rw[W9 b]at a;injection a with a
  rw[a]at this;exact this.symm
 rw[this,lF];simp only[aa,Xc,List.length_dropLast,Xx,WS,VF];have e:l.length-1+1-1=l.length-1:=by omega
 rw[e];have:4294967296^(l.length-1)*1<=4294967296^(l.length-1)*x:=VN _ (by omega);omega
theorem u9 {a b:List Nat}(c:Li a)(d:Trim b)(h:a.length<b.length):aa a<aa b:=by
 have f:=bz c;have g:=x9 d (fun e=>by rw[e]at h;simp at h);have i:4294967296^a.length<=4294967296^(b.length-1):=Vg (by omega) (by omega);omega
theorem CY {a b:List Nat}(i:Li a){k:Nat}(c:k<a.length)(d:k<b.length)(j:a.drop (k+1)=b.drop (k+1))(h:a[k]<b[k]):aa a<aa b:=by
 have e:a=a.take k++(a[k] :: a.drop (k+1)):=by rw[<-Wo c,Xy]
 have f:b=b.take k++(b[k] :: b.drop (k+1)):=by rw[<-Wo d,Xy]
 have g:=bz (i.take k);rw[e,f,lF,lF];simp only[Xt,WW (W6 c),WW (W6 d),aa]at g ⊢;rw[j];have l:4294967296^k*(a[k]+4294967296*aa (b.drop (k+1)))+4294967296^k<=4294967296^k*(b[k]+4294967296*aa (b.drop (k+1))):=by
  rw[<-aaY];exact VN _ (by omega)
 omega
def aL (x y:Nat):Int:=if x<y then -1 else if y<x then 1 else 0
set_option maxHeartbeats 4000000
attribute [local simp] CC u0 iU gd
def u32 (x:Nat):V:=.int .u32 (x:Int)
def lim (l:List Nat):V:=.sl (l.map u32)
def i64 (n:Int):V:=.int .i64 n
@[simp] theorem qiB {x:Nat}:(u32 x).cells=[u32 x]:=rfl
@[simp] theorem qhZ {l:List Nat}:(lim l).cells=[lim l]:=rfl
@[simp] theorem qhX {n:Int}:(i64 n).cells=[i64 n]:=rfl
@[simp] theorem qiG {x:Nat}:(u32 x).isTup=false:=rfl
@[simp] theorem qiE {l:List Nat}:(lim l).isTup=false:=rfl
@[simp] theorem qiC {n:Int}:(i64 n).isTup=false:=rfl
theorem q2z : prog.fn Ze=some u6:=by rfl
theorem gj (l:List Nat)(j:l.length<=9223372036854775807):CQ prog Ze [lim l] (lim (trimL l)):=by
 refine ap q2z fun H=>?_
 simp[u6,lim];refine e9 (fun k E f=>f=H/\E 0=lim l/\k<=l.length/\E 3=.int .i64 k/\a9 l k=a9 l l.length) l.length ?_ ?_
 ·simp[lim]
 ·rintro n E f ⟨rfl,b,h,d,e⟩;refine b9 ?_;simp only[lim]at b;rcases n with _|n
  ·simp[Dg,b,d,trimL,<-e,a9]
  ·have g:IntKind.i64.wrap (n:Int)=n:=by rw[wrap_i64]<;>omega
   have a:n<l.length:=by omega
   have i:(0:Int)<=(n:Int)+1:=by omega
   by_cases c:l[n]=0
   ·simp[Dg,b,d,g,a,c,u32];refine⟨n,by omega,rfl,by omega,rfl,?_⟩;rw[<-e,a9,Vh (by rw[k9 a,c])]
   ·simp[Dg,b,d,g,a,c,u32,i,h];rw[trimL,<-e,a9,Vk (by rw[k9 a];simpa using c),aaL]
@[simp] theorem qiK (H:ab)(l:List Nat)(vs:List V):ah H (lim l :: vs)=(ah H vs).bind fun p=>some (lim l :: p.1,p.2):=rfl
@[simp] theorem qiJ (H:ab)(k:IntKind)(n:Int)(vs:List V):ah H (.int k n :: vs)=(ah H vs).bind fun p=>some (.int k n :: p.1,p.2):=rfl
@[simp] theorem qgF (H:ab)(b:Bool)(vs:List V):ah H (.bool b :: vs)=(ah H vs).bind fun p=>some (.bool b :: p.1,p.2):=rfl
@[simp] theorem qiL (H:ab):ah H []=some ([],H):=rfl
theorem q44 : prog.fn Y2=some CN:=by rfl
theorem Vf (H:ab)(l:List Nat):prep prog 111 H [lim l]=some ([lim l],H):=rfl
theorem my (a b:List Nat)(v:a.length<=9223372036854775807)(w:b.length<=9223372036854775807)(A:Li a)(B:Li b):CQ prog Y2 [lim a,lim b] (i64 (aL (aa a) (aa b))):=by
 refine ap q44 fun H=>?_
 simp;refine ak rfl rfl (Vf H a) (gj a v) ?_;simp;refine ak rfl rfl (Vf H b) (gj b w) ?_;rw[<-uX a,<-uX b];have C:=Cy a;have D:=Cy b;have l:=A.trimL;have m:=B.trimL;have z:(trimL a).length<=9223372036854775807:=by unfold trimL;simp;omega
 generalize trimL a=x at *
 generalize trimL b=y at *
 by_cases c:x.length<y.length
 ·have e:¬((x.length:Int)=(y.length:Int)):=by omega
  have g:=u9 l D c;simp[lim,c,e,aL,g,i64]
 ·by_cases d:y.length<x.length
  ·have e:¬((x.length:Int)=(y.length:Int)):=by omega
   have g:=u9 m C d;have p:¬aa x<aa y:=by omega
   simp[lim,c,e,aL,g,p,i64]
  ·have h:x.length=y.length:=by omega
   simp[lim,h];refine e9 (fun k E u=>u=H/\E 0=lim x/\E 1=lim y/\k<=x.length/\E 5=.int .i64 ((k:Int)-1)/\x.drop k=y.drop k) x.length ?_ ?_
   ·have f:IntKind.i64.wrap ((y.length:Int)-1)=(y.length:Int)-1:=by rw[wrap_i64]<;>omega
    have s:y.drop x.length=[]:=by rw[h];exact List.drop_length
    simp[lim,f,h]
   ·rintro n E u ⟨rfl,o,e,F,q,r⟩;refine b9 ?_;simp only[lim]at o e;rcases n with _|n
    ·have f:x=y:=by simpa using r
     have s:¬((0:Int)<=-1):=by omega
     simp[vd,q,f,aL,i64]
    ·have f:(n+1:Int)-1=n:=by omega
     have i:n<x.length:=by omega
     have j:n<y.length:=by omega
     have t:((0:Int)<=n):=by omega
     by_cases c:x[n]<y[n]
     ·have g:=CY l i j r c;have p:((x[n]:Int)<(y[n]:Int)):=by omega
      simp[vd,o,e,q,f,t,i,j,u32,c,aL,g,i64]
     ·by_cases d:y[n]<x[n]
      ·have g:=CY m j i r.symm d;have p:¬aa x<aa y:=by omega
       simp[vd,o,e,q,f,t,i,j,u32,c,d,aL,g,p,i64]
      ·have s:IntKind.i64.wrap ((n:Int)-1)=(n:Int)-1:=by rw[wrap_i64]<;>omega
       simp[vd,o,e,q,f,t,i,j,u32,c,d,s];refine⟨n,by omega,rfl,rfl,by omega,rfl,?_⟩;rw[Wo i,Wo j,r]
       congr 1
       omega
end Go.Abs
namespace Go.Abs
theorem MZ : prog.fn Zr=some De:=by rfl
def ac (n:Nat):Nat:=if n=0 then 0 else Nat.log2 n+1
theorem Mp : ∀i:Fin 256,kR[i.val]?=some (UInt8.ofNat (ac i.val)):=by decide +kernel
theorem oA {i:Nat}(h:i<256):kR[i]?=some (UInt8.ofNat (ac i)):=Mp ⟨i,h⟩
theorem wY {i:Nat}(h:i<256):ac i<=8:=by
 have:∀i:Fin 256,ac i.val<=8:=by decide +kernel
 exact this ⟨i,h⟩
theorem uc {n k:Nat}(h:2^k<=n):ac n=ac (n/2^k)+k:=by
 have a:0<2^k:=Vl k;have b:n≠0:=by omega
 have c:n/2^k≠0:=by
  have:=(Wq a (x:=1) (y:=n)).2 (by omega);omega
 unfold ac;rw[Vk b,Vk c];have:Nat.log2 n=Nat.log2 (n/2^k)+k:=by
  rw[aao b];have d:=(aao c).1 rfl;rw[Vs,show Nat.log2 (n/2^k)+k+1=(Nat.log2 (n/2^k)+1)+k by omega,Vs];exact⟨(Wq a).1 d.1,(VW a).1 d.2⟩
 omega
theorem Dv {n b:Nat}(a:n≠0)(c:2^b<=n)(d:n<2^(b+1)):ac n=b+1:=by
 unfold ac;rw[Vk a,(aao a).2 ⟨c,d⟩]
theorem eF {n:Nat}(h:n≠0):2^(ac n-1)<=n/\n<2^ac n/\0<ac n:=by
 unfold ac;rw[Vk h];have:=(aao h).1 rfl;exact⟨this.1,this.2,by omega⟩
theorem bB (n:Nat):4294967296^n=2^(32*n):=by rw[abP]
theorem zj {l:List Nat}{t:Nat}(g:Li l)(h:t≠0):ac (aa (l++[t]))=32*l.length+ac t:=by
 have d:=bz g;obtain⟨e,f,i⟩:=eF h;rw[lF];simp only[aa,WS,VF];rw[bB]at d ⊢;have c:2^(32*l.length)*t ≥ 2^(32*l.length)*2^(ac t-1):=VN _ e;have a:2^(32*l.length)*(t+1)<=2^(32*l.length)*2^ac t:=VN _ f;rw[<-Vs]at c a;rw[VM,XN]at a;have j:=Vl (32*l.length+(ac t-1));have:=Dv (n:=aa l+2^(32*l.length)*t) (b:=32*l.length+(ac t-1)) (by omega) (by omega) (by rw[show 32*l.length+(ac t-1)+1=32*l.length+ac t by omega];omega);omega
theorem tG {t:Nat}(h:t<4294967296):ac t<=32:=by
 unfold ac;split
 ·omega
 ·rename_i a;have:=(Nat.log2_lt a (k:=32)).2 (by omega);omega
attribute [local simp] CC u0 iU gd cH
theorem Cc (x k:Nat):Int.fdiv (x:Int) (k:Int)=((x/k:Nat):Int):=by
 rw[Int.fdiv_eq_ediv_of_nonneg _ (by omega)];rfl
theorem Qq (x:Nat):Int.fdiv (x:Int) 65536=((x/65536:Nat):Int):=Cc x 65536
theorem yX (x:Nat):Int.fdiv (x:Int) 256=((x/256:Nat):Int):=Cc x 256
theorem Mh {n:Int}(a:0<=n)(b:n<256):IntKind.wrap .u8 n=n:=by
 simp only[IntKind.wrap,IntKind.bits,IntKind.signed];simp;omega
theorem Nd {y:Nat}(h:y<256):((UInt8.ofNat (ac y)).toNat:Int)=ac y:=by
 have:=wY h;simp;omega
@[simp] theorem Ul : IntKind.u32.bits=32:=rfl
@[simp] theorem zk : IntKind.u64.bits=64:=rfl
@[simp] theorem qhI : IntKind.i64.bits=64:=rfl
theorem w8 : IntKind.i64.wrap 8=8:=by decide
theorem w24 : IntKind.i64.wrap 24=24:=by decide
set_option maxHeartbeats 1000000 in
theorem yE (x:Nat)(p:x<4294967296):CQ prog Zr [u32 x] (i64 (ac x)):=by
 refine ap MZ fun H=>?_
 have a:∀(y k:Nat),y<256->k<=24->ac x=ac y+k->IntKind.i64.wrap ((k:Int)+IntKind.i64.wrap (((UInt8.ofNat (ac y)).toNat:Nat):Int))=ac x:=by
  intro y k b o i;have:=wY b;rw[Nd b,wrap_i64 (n:=(ac y:Int)) (by omega) (by omega),wrap_i64 (by omega) (by omega),i];omega
 have c:∀y:Nat,y<256->IntKind.u8.wrap (y:Int)=y:=fun y b=>Mh (by omega) (by omega)
 by_cases m:x<65536
 ·have g:¬((65536:Int)<=x):=by omega
  by_cases e:x<256
  ·have d:¬((256:Int)<=x):=by omega
   have:=a x 0 e (by omega) rfl;simp[u32,g,d,c x e,oA e,i64];simpa using this
  ·have d:((256:Int)<=x):=by omega
   have⟨y,b⟩:∃y,y=x/256:=⟨_,rfl⟩
   have h:Int.fdiv (x:Int) 256=(y:Int):=by rw[b];exact yX x
   have f:y<256:=by omega
   have:=a y 8 f (by omega) (by rw[b];exact uc (k:=8) (by omega));simp[u32,g,d,h,w8,c _ f,oA f,i64];simpa using this
 ·have g:((65536:Int)<=x):=by omega
  have⟨y,b⟩:∃y,y=x/65536:=⟨_,rfl⟩
  have h:Int.fdiv (x:Int) 65536=(y:Int):=by rw[b];exact Qq x
  have i:ac x=ac y+16:=by rw[b];exact uc (k:=16) (by omega)
  by_cases e:y<256
  ·have d:¬((256:Int)<=y):=by omega
   have:=a y 16 e (by omega) i;simp[u32,g,d,h,c _ e,oA e,i64];simpa using this
  ·have d:((256:Int)<=y):=by omega
   have⟨z,hz⟩:∃z,z=y/256:=⟨_,rfl⟩
   have l:Int.fdiv (y:Int) 256=(z:Int):=by rw[hz];exact yX y
   have f:z<256:=by omega
   have j:ac y=ac z+8:=by rw[hz];exact uc (k:=8) (by omega)
   have:=a z 24 f (by omega) (by rw[i,j]);simp[u32,g,d,h,l,w24,c _ f,oA f,i64];simpa using this
attribute [local simp] CC u0 iU gd
theorem q20 : prog.fn Zd=some CS:=by rfl
@[simp] theorem qhS (g:Nat)(hg:(prog.fn g).elim true (fun f=>!f.raw)=true)(H:ab)(l:List Nat):prep prog g H [lim l]=some ([lim l],H):=by
 unfold prep;cases hq:prog.fn g with
 |none=>rfl
 |some f=>rw[hq]at hg;simp at hg;simp[hg]
theorem q5d (l:List Nat):l=[]\/∃k t,l=k++[t]:=by
 cases l with
 |nil=>exact .inl rfl
 |cons x a=>exact .inr ⟨(x :: a).dropLast,(x :: a).getLast (by simp),(aan (by simp)).symm⟩
set_option maxHeartbeats 1000000 in
theorem po (a:List Nat)(o:a.length<=100000000)(l:Li a):CQ prog Zd [lim a] (i64 (ac (aa a))):=by
 refine ap q20 fun H=>?_
 simp;refine ak rfl rfl (Vf H a) (gj a (by omega)) ?_;rw[<-uX a];have n:=Cy a;have c:=l.trimL;have d:(trimL a).length<=100000000:=by unfold trimL;simp;omega
 generalize trimL a=x at *
 rcases q5d x with rfl|⟨k,t,rfl⟩
 ·simp[lim,aa,ac,i64]
 ·have p:k.length<=100000000:=by simp at d;omega
  have i:t≠0:=n t (by simp);have b:t<4294967296:=c t (by simp);have m:Li k:=fun y j=>c y (by simp[j])
  have e:¬((k.length:Int)+1=0):=by omega
  have f:IntKind.i64.wrap (k.length:Int)=k.length:=by rw[wrap_i64]<;>omega
  have g:IntKind.i64.wrap (32*(k.length:Int))=32*k.length:=by rw[wrap_i64]<;>omega
  simp[lim,e,f,g];refine ak rfl rfl (vs:=[u32 t]) rfl (yE t b) ?_;have h:IntKind.i64.wrap (32*(k.length:Int)+ac t)=ac (aa (k++[t])):=by
   have:=tG b;rw[zj m i,wrap_i64]<;>omega
  simp[i64,h]
