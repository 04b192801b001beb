/- Parts of the proof: FpCode2, FpCode3, FpFuns, FpRules, FpProg, FpStpEq, FpWK, FpWX, FpNum, FpNat, FpLen, FpLen2, FpBits. -/
import Derived.Test.YtmhloagengcelaaGreatDoorFa
import Derived.Test.YtmhloagengcelaaGreatDoorF0
/- MADE BY A PROGRAM (wip/tools/dump.sh, mkcode.py): the abstract code of the functions that this seat reaches. -/
namespace Go.Abs

/- interval_Abs -/
@[simp] def c_interval_Abs : AFn := ⟨[(.cell 2 true 7)],
 (.seq (.region false [⟨some 1, .box 7 (.t 0), none, false⟩,
 ⟨some 2, .new 7 (.agg [(.bool false), .nil, (.int .i64 0), (.bool false), .nil, (.int .i64 0), (.bool false)]), none, false⟩]) (.seq (.seq (.region false [⟨some 7, .load true 7 (.t 1), none, false⟩,
 ⟨some 8, .bslice 7 1 (.agg [(.bool false), .nil, (.int .i64 0), (.bool false), .nil, (.int .i64 0), (.bool false)]) [(0, (.t 7))], none, false⟩,
 ⟨some 9, .call (.f 106) [(.t 8)], none, false⟩,
 ⟨some 10, .un .not (.t 9), none, false⟩]) (.cond (.t 10) (.seq (.region false [⟨some 11, .call (.f 107) [], none, false⟩,
 ⟨none, .store 7 (.t 2) (.t 11), none, false⟩]) .ret) .skip)) (.seq (.region false [⟨some 13, .load true 7 (.t 1), none, false⟩,
 ⟨some 14, .call (.f 165) [(.t 13)], none, false⟩,
 ⟨some 12, .mv (.t 14), none, false⟩,
 ⟨some 15, .extract 0 (.t 12), none, false⟩,
 ⟨some 16, .extract 1 (.t 12), none, false⟩,
 ⟨some 3, .new 3 (.agg [(.bool false), .nil, (.int .i64 0)]), none, false⟩,
 ⟨none, .store 3 (.t 3) (.t 15), none, false⟩,
 ⟨some 4, .mv (.t 16), none, false⟩]) (.seq (.region false [⟨some 18, .load true 7 (.t 1), none, false⟩,
 ⟨some 19, .call (.f 164) [(.t 18)], none, false⟩,
 ⟨some 17, .mv (.t 19), none, false⟩,
 ⟨some 20, .extract 0 (.t 17), none, false⟩,
 ⟨some 21, .extract 1 (.t 17), none, false⟩,
 ⟨some 5, .new 3 (.agg [(.bool false), .nil, (.int .i64 0)]), none, false⟩,
 ⟨none, .store 3 (.t 5) (.t 20), none, false⟩,
 ⟨some 6, .mv (.t 21), none, false⟩]) (.seq (.region false [⟨some 22, .load true 3 (.t 3), none, false⟩,
 ⟨some 23, .load true 3 (.t 5), none, false⟩,
 ⟨some 24, .build [(.bool false), .nil, (.int .i64 0), (.bool false), .nil, (.int .i64 0), (.bool false)] [(0, 3, (.t 22)), (3, 3, (.t 23))], none, false⟩,
 ⟨none, .store 7 (.t 2) (.t 24), none, false⟩]) .ret))))),
 false, false⟩

/- interval_Mag -/
@[simp] def c_interval_Mag : AFn := ⟨[(.cell 2 true 3), (.tmp 3)],
 (.seq (.region false [⟨some 1, .box 7 (.t 0), none, false⟩,
 ⟨some 2, .new 3 (.agg [(.bool false), .nil, (.int .i64 0)]), none, false⟩,
 ⟨some 3, .mv (.c (.bool false)), none, false⟩]) (.seq (.seq (.region false [⟨some 4, .load true 7 (.t 1), none, false⟩,
 ⟨some 5, .bslice 7 1 (.agg [(.bool false), .nil, (.int .i64 0), (.bool false), .nil, (.int .i64 0), (.bool false)]) [(0, (.t 4))], none, false⟩,
 ⟨some 6, .call (.f 106) [(.t 5)], none, false⟩,
 ⟨some 7, .un .not (.t 6), none, false⟩]) (.cond (.t 7) (.seq (.region false [⟨some 8, .build [(.bool false), .nil, (.int .i64 0)] [], none, false⟩,
 ⟨none, .store 3 (.t 2) (.t 8), none, false⟩,
 ⟨some 3, .mv (.c (.bool false)), none, false⟩]) .ret) .skip)) (.seq (.region true [⟨some 9, .faddr 0 (.t 1), none, false⟩,
 ⟨some 10, .load true 3 (.t 9), none, false⟩,
 ⟨some 11, .call (.f 205) [(.t 10)], none, false⟩,
 ⟨some 12, .faddr 3 (.t 1), none, false⟩,
 ⟨some 13, .load true 3 (.t 12), none, false⟩,
 ⟨some 14, .call (.f 205) [(.t 13)], none, true⟩,
 ⟨some 15, .call (.f 104) [(.t 11), (.t 14)], none, true⟩,
 ⟨none, .store 3 (.t 2) (.t 15), none, true⟩,
 ⟨some 3, .mv (.c (.bool true)), none, false⟩]) .ret))),
 false, false⟩

/- interval_Mig -/
@[simp] def c_interval_Mig : AFn := ⟨[(.cell 2 true 3), (.tmp 3)],
 (.seq (.region false [⟨some 1, .box 7 (.t 0), none, false⟩,
 ⟨some 2, .new 3 (.agg [(.bool false), .nil, (.int .i64 0)]), none, false⟩,
 ⟨some 3, .mv (.c (.bool false)), none, false⟩]) (.seq (.seq (.region false [⟨some 4, .load true 7 (.t 1), none, false⟩,
 ⟨some 5, .bslice 7 1 (.agg [(.bool false), .nil, (.int .i64 0), (.bool false), .nil, (.int .i64 0), (.bool false)]) [(0, (.t 4))], none, false⟩,
 ⟨some 6, .call (.f 106) [(.t 5)], none, false⟩,
 ⟨some 7, .un .not (.t 6), none, false⟩]) (.cond (.t 7) (.seq (.region false [⟨some 8, .build [(.bool false), .nil, (.int .i64 0)] [], none, false⟩,
 ⟨none, .store 3 (.t 2) (.t 8), none, false⟩,
 ⟨some 3, .mv (.c (.bool false)), none, false⟩]) .ret) .skip)) (.seq (.seq (.region false [⟨some 9, .load true 7 (.t 1), none, false⟩,
 ⟨some 10, .call (.f 173) [(.t 9)], none, false⟩,
 ⟨some 11, .bin .num .eql (.t 10) (.c (.int .i64 0)), none, false⟩]) (.cond (.t 11) (.seq (.region false [⟨some 12, .build [(.bool false), .nil, (.int .i64 0)] [], none, false⟩,
 ⟨none, .store 3 (.t 2) (.t 12), none, false⟩,
 ⟨some 3, .mv (.c (.bool true)), none, false⟩]) .ret) .skip)) (.seq (.region true [⟨some 13, .faddr 0 (.t 1), none, false⟩,
 ⟨some 14, .load true 3 (.t 13), none, false⟩,
 ⟨some 15, .call (.f 205) [(.t 14)], none, false⟩,
 ⟨some 16, .faddr 3 (.t 1), none, false⟩,
 ⟨some 17, .load true 3 (.t 16), none, false⟩,
 ⟨some 18, .call (.f 205) [(.t 17)], none, true⟩,
 ⟨some 19, .call (.f 105) [(.t 15), (.t 18)], none, true⟩,
 ⟨none, .store 3 (.t 2) (.t 19), none, true⟩,
 ⟨some 3, .mv (.c (.bool true)), none, false⟩]) .ret)))),
 false, false⟩

/- interval_Sign -/
@[simp] def c_interval_Sign : AFn := ⟨[(.tmp 2)],
 (.seq (.region false [⟨some 1, .box 7 (.t 0), none, false⟩,
 ⟨some 2, .mv (.c (.int .i64 0)), none, false⟩]) (.seq (.block 0 (.seq (.region false [⟨some 4, .load true 7 (.t 1), none, false⟩,
 ⟨some 5, .bslice 7 1 (.agg [(.bool false), .nil, (.int .i64 0), (.bool false), .nil, (.int .i64 0), (.bool false)]) [(0, (.t 4))], none, false⟩,
 ⟨some 6, .call (.f 106) [(.t 5)], none, false⟩,
 ⟨some 7, .un .not (.t 6), none, false⟩,
 ⟨some 3, .mv (.t 7), none, false⟩]) (.cond (.t 3) (.seq (.region false [⟨some 2, .mv (.c (.int .i64 0)), none, false⟩]) .ret) (.seq (.region false [⟨some 9, .faddr 0 (.t 1), none, false⟩,
 ⟨some 10, .load true 3 (.t 9), none, false⟩,
 ⟨some 11, .call (.f 79) [(.t 10)], none, false⟩,
 ⟨some 12, .bin .num .gtr (.t 11) (.c (.int .i64 0)), none, false⟩,
 ⟨some 8, .mv (.t 12), none, false⟩]) (.cond (.t 8) (.seq (.region false [⟨some 2, .mv (.c (.int .i64 1)), none, false⟩]) .ret) (.seq (.region false [⟨some 14, .faddr 3 (.t 1), none, false⟩,
 ⟨some 15, .load true 3 (.t 14), none, false⟩,
 ⟨some 16, .call (.f 79) [(.t 15)], none, false⟩,
 ⟨some 17, .bin .num .lss (.t 16) (.c (.int .i64 0)), none, false⟩,
 ⟨some 13, .mv (.t 17), none, false⟩]) (.cond (.t 13) (.seq (.region false [⟨some 2, .mv (.c (.int .i64 (-1))), none, false⟩]) .ret) .skip))))))) (.seq (.region false [⟨some 2, .mv (.c (.int .i64 0)), none, false⟩]) .ret))),
 false, false⟩

/- fplaw05_of -/
@[simp] def c_fplaw05_of : AFn := ⟨[(.cell 4 true 7)],
 (.seq (.region false [⟨some 4, .new 7 (.agg [(.bool false), .nil, (.int .i64 0), (.bool false), .nil, (.int .i64 0), (.bool false)]), none, false⟩]) (.seq (.region false [⟨some 5, .mv (.t 0), none, false⟩,
 ⟨some 6, .call (.f 183) [(.t 5)], none, false⟩,
 ⟨some 7, .mv (.t 1), none, false⟩,
 ⟨some 8, .call (.f 183) [(.t 7)], none, false⟩,
 ⟨some 9, .build [(.bool false), .nil, (.int .i64 0), (.bool false), .nil, (.int .i64 0), (.bool false)] [(0, 3, (.t 6)), (3, 3, (.t 8))], none, false⟩,
 ⟨none, .store 7 (.t 4) (.t 9), none, false⟩]) .ret)),
 false, false⟩

/- fpref02_Scale -/
@[simp] def c_fpref02_Scale : AFn := ⟨[(.cell 4 true 3), (.tmp 5)],
 (.seq (.region false [⟨some 2, .box 3 (.t 0), none, false⟩,
 ⟨some 4, .new 3 (.agg [(.bool false), .nil, (.int .i64 0)]), none, false⟩,
 ⟨some 5, .mv (.c (.int .i64 0)), none, false⟩]) (.seq (.seq (.region false [⟨some 6, .load true 3 (.t 2), none, false⟩,
 ⟨some 7, .call (.f 12) [(.t 6)], none, false⟩,
 ⟨some 8, .un .not (.t 7), none, false⟩,
 ⟨some 9, .mv (.t 8), none, false⟩,
 ⟨some 10, .mv (.t 1), some (9, false), false⟩,
 ⟨some 11, .call (.f 214) [(.t 10)], some (9, false), false⟩,
 ⟨some 12, .un .not (.t 11), some (9, false), false⟩,
 ⟨some 13, .pick (.t 9) (.c (.bool true)) (.t 12), none, false⟩]) (.cond (.t 13) (.seq (.region false [⟨some 14, .build [(.bool false), .nil, (.int .i64 0)] [], none, false⟩,
 ⟨none, .store 3 (.t 4) (.t 14), none, false⟩,
 ⟨some 5, .mv (.c (.int .i64 1)), none, false⟩]) .ret) .skip)) (.seq (.region false [⟨some 15, .faddr 0 (.t 2), none, false⟩,
 ⟨some 16, .load false 1 (.t 15), none, false⟩,
 ⟨some 17, .faddr 1 (.t 2), none, false⟩,
 ⟨some 18, .load false 1 (.t 17), none, false⟩,
 ⟨some 19, .faddr 2 (.t 2), none, false⟩,
 ⟨some 20, .load false 1 (.t 19), none, false⟩,
 ⟨some 21, .mv (.t 1), none, false⟩,
 ⟨some 22, .bin .num .add (.t 20) (.t 21), none, false⟩,
 ⟨some 23, .call (.f 85) [(.t 16), (.t 18), (.t 22)], none, false⟩,
 ⟨some 24, .call (.f 184) [(.t 23)], none, false⟩,
 ⟨some 25, .extract 0 (.t 24), none, false⟩,
 ⟨some 26, .extract 1 (.t 24), none, false⟩,
 ⟨none, .store 3 (.t 4) (.t 25), none, false⟩,
 ⟨some 5, .mv (.t 26), none, false⟩]) .ret))),
 false, false⟩

/- fplaw05_n -/
@[simp] def c_fplaw05_n : AFn := ⟨[(.cell 2 true 3)],
 (.seq (.region false [⟨some 2, .new 3 (.agg [(.bool false), .nil, (.int .i64 0)]), none, false⟩]) (.seq (.region false [⟨some 3, .mv (.t 0), none, false⟩,
 ⟨some 4, .call (.f 74) [(.t 3)], none, false⟩,
 ⟨none, .store 3 (.t 2) (.t 4), none, false⟩]) .ret)),
 false, false⟩

/- fpref02_Checked -/
@[simp] def c_fpref02_Checked : AFn := ⟨[(.cell 2 true 3), (.tmp 3)],
 (.seq (.region false [⟨some 1, .box 3 (.t 0), none, false⟩,
 ⟨some 2, .new 3 (.agg [(.bool false), .nil, (.int .i64 0)]), none, false⟩,
 ⟨some 3, .mv (.c (.int .i64 0)), none, false⟩]) (.seq (.seq (.region false [⟨some 4, .load true 3 (.t 1), none, false⟩,
 ⟨some 5, .call (.f 12) [(.t 4)], none, false⟩,
 ⟨some 6, .un .not (.t 5), none, false⟩]) (.cond (.t 6) (.seq (.region false [⟨some 7, .build [(.bool false), .nil, (.int .i64 0)] [], none, false⟩,
 ⟨none, .store 3 (.t 2) (.t 7), none, false⟩,
 ⟨some 3, .mv (.c (.int .i64 9)), none, false⟩]) .ret) .skip)) (.seq (.region false [⟨some 8, .load true 3 (.t 1), none, false⟩,
 ⟨none, .store 3 (.t 2) (.t 8), none, false⟩,
 ⟨some 3, .mv (.c (.int .i64 0)), none, false⟩]) .ret))),
 false, false⟩

/- fpref02_Product -/
@[simp] def c_fpref02_Product : AFn := ⟨[(.cell 4 true 3)],
 (.seq (.region false [⟨some 2, .box 3 (.t 0), none, false⟩,
 ⟨some 3, .box 3 (.t 1), none, false⟩,
 ⟨some 4, .new 3 (.agg [(.bool false), .nil, (.int .i64 0)]), none, false⟩]) (.seq (.region true [⟨some 5, .faddr 0 (.t 2), none, false⟩,
 ⟨some 6, .load false 1 (.t 5), none, false⟩,
 ⟨some 7, .faddr 0 (.t 3), none, false⟩,
 ⟨some 8, .load false 1 (.t 7), none, false⟩,
 ⟨some 9, .bin .bool .neq (.t 6) (.t 8), none, false⟩,
 ⟨some 10, .faddr 1 (.t 2), none, false⟩,
 ⟨some 11, .load false 1 (.t 10), none, false⟩,
 ⟨some 12, .faddr 1 (.t 3), none, false⟩,
 ⟨some 13, .load false 1 (.t 12), none, false⟩,
 ⟨some 14, .call (.f 215) [(.t 11), (.t 13)], none, false⟩,
 ⟨some 15, .faddr 2 (.t 2), none, false⟩,
 ⟨some 16, .load false 1 (.t 15), none, false⟩,
 ⟨some 17, .faddr 2 (.t 3), none, false⟩,
 ⟨some 18, .load false 1 (.t 17), none, false⟩,
 ⟨some 19, .bin .num .add (.t 16) (.t 18), none, false⟩,
 ⟨some 20, .call (.f 85) [(.t 9), (.t 14), (.t 19)], none, true⟩,
 ⟨none, .store 3 (.t 4) (.t 20), none, true⟩]) .ret)),
 false, false⟩

/- interval_permitted -/
@[simp] def c_interval_permitted : AFn := ⟨[(.tmp 2)],
 (.seq (.region false [⟨some 2, .mv (.c (.bool false)), none, false⟩]) (.seq (.region false [⟨some 3, .mv (.t 0), none, false⟩,
 ⟨some 4, .bin .num .geq (.t 3) (.c (.int .i64 8)), none, false⟩,
 ⟨some 5, .mv (.t 4), none, false⟩,
 ⟨some 6, .mv (.t 0), some (5, true), false⟩,
 ⟨some 7, .bin .num .leq (.t 6) (.c (.int .i64 512)), some (5, true), false⟩,
 ⟨some 8, .pick (.t 5) (.t 7) (.c (.bool false)), none, false⟩,
 ⟨some 2, .mv (.t 8), none, false⟩]) .ret)),
 false, false⟩

/- round_AddDown -/
@[simp] def c_round_AddDown : AFn := ⟨[(.cell 6 true 3), (.tmp 7)],
 (.seq (.region false [⟨some 3, .box 3 (.t 0), none, false⟩,
 ⟨some 4, .box 3 (.t 1), none, false⟩,
 ⟨some 6, .new 3 (.agg [(.bool false), .nil, (.int .i64 0)]), none, false⟩,
 ⟨some 7, .mv (.c (.int .i64 0)), none, false⟩]) (.seq (.region false [⟨some 8, .load true 3 (.t 3), none, false⟩,
 ⟨some 9, .load true 3 (.t 4), none, false⟩,
 ⟨some 10, .mv (.t 2), none, false⟩,
 ⟨some 11, .call (.f 216) [(.t 8), (.t 9), (.t 10), (.c (.bool false))], none, false⟩,
 ⟨some 12, .extract 0 (.t 11), none, false⟩,
 ⟨some 13, .extract 1 (.t 11), none, false⟩,
 ⟨none, .store 3 (.t 6) (.t 12), none, false⟩,
 ⟨some 7, .mv (.t 13), none, false⟩]) .ret)),
 false, false⟩

/- round_AddUp -/
@[simp] def c_round_AddUp : AFn := ⟨[(.cell 6 true 3), (.tmp 7)],
 (.seq (.region false [⟨some 3, .box 3 (.t 0), none, false⟩,
 ⟨some 4, .box 3 (.t 1), none, false⟩,
 ⟨some 6, .new 3 (.agg [(.bool false), .nil, (.int .i64 0)]), none, false⟩,
 ⟨some 7, .mv (.c (.int .i64 0)), none, false⟩]) (.seq (.region false [⟨some 8, .load true 3 (.t 3), none, false⟩,
 ⟨some 9, .load true 3 (.t 4), none, false⟩,
 ⟨some 10, .mv (.t 2), none, false⟩,
 ⟨some 11, .call (.f 216) [(.t 8), (.t 9), (.t 10), (.c (.bool true))], none, false⟩,
 ⟨some 12, .extract 0 (.t 11), none, false⟩,
 ⟨some 13, .extract 1 (.t 11), none, false⟩,
 ⟨none, .store 3 (.t 6) (.t 12), none, false⟩,
 ⟨some 7, .mv (.t 13), none, false⟩]) .ret)),
 false, false⟩

/- interval_made -/
@[simp] def c_interval_made : AFn := ⟨[(.cell 8 true 7)],
 (.seq (.region false [⟨some 4, .box 3 (.t 0), none, false⟩,
 ⟨some 6, .box 3 (.t 2), none, false⟩,
 ⟨some 8, .new 7 (.agg [(.bool false), .nil, (.int .i64 0), (.bool false), .nil, (.int .i64 0), (.bool false)]), none, false⟩]) (.seq (.seq (.region false [⟨some 9, .mv (.t 1), none, false⟩,
 ⟨some 10, .bin .num .neq (.t 9) (.c (.int .i64 0)), none, false⟩,
 ⟨some 11, .mv (.t 10), none, false⟩,
 ⟨some 12, .mv (.t 3), some (11, false), false⟩,
 ⟨some 13, .bin .num .neq (.t 12) (.c (.int .i64 0)), some (11, false), false⟩,
 ⟨some 14, .pick (.t 11) (.c (.bool true)) (.t 13), none, false⟩]) (.cond (.t 14) (.seq (.region false [⟨some 15, .call (.f 107) [], none, false⟩,
 ⟨none, .store 7 (.t 8) (.t 15), none, false⟩]) .ret) .skip)) (.seq (.region false [⟨some 16, .load true 3 (.t 4), none, false⟩,
 ⟨some 17, .load true 3 (.t 6), none, false⟩,
 ⟨some 18, .build [(.bool false), .nil, (.int .i64 0), (.bool false), .nil, (.int .i64 0), (.bool false)] [(0, 3, (.t 16)), (3, 3, (.t 17))], none, false⟩,
 ⟨none, .store 7 (.t 8) (.t 18), none, false⟩]) .ret))),
 false, false⟩

/- interval_four -/
def c_interval_four_l0 : AC := (.seq (.region false [⟨some 42, .bin .num .lss (.t 41) (.c (.int .i64 4)), none, false⟩]) (.seq (.cond (.t 42) .skip (.exit 0)) (.seq (.block 1 (.seq (.region false [⟨some 43, .mv (.t 41), none, false⟩,
 ⟨some 44, .index true 4 6 (.t 40) (.t 41), none, false⟩,
 ⟨some 14, .new 6 (.agg [(.bool false), .nil, (.int .i64 0), (.bool false), .nil, (.int .i64 0)]), none, false⟩,
 ⟨some 13, .mv (.t 43), none, false⟩,
 ⟨none, .store 6 (.t 14) (.t 44), none, false⟩]) (.seq (.region false [⟨some 46, .mv (.t 3), none, false⟩,
 ⟨some 47, .aiaddr 2 3 (.t 14) (.c (.int .i64 0)), none, false⟩,
 ⟨some 48, .load true 3 (.t 47), none, false⟩,
 ⟨some 49, .aiaddr 2 3 (.t 14) (.c (.int .i64 1)), none, false⟩,
 ⟨some 50, .load true 3 (.t 49), none, false⟩,
 ⟨some 51, .mv (.t 2), none, false⟩,
 ⟨some 52, .call (.t 46) [(.t 48), (.t 50), (.t 51)], none, false⟩,
 ⟨some 45, .mv (.t 52), none, false⟩,
 ⟨some 53, .extract 0 (.t 45), none, false⟩,
 ⟨some 54, .extract 1 (.t 45), none, false⟩,
 ⟨some 15, .new 3 (.agg [(.bool false), .nil, (.int .i64 0)]), none, false⟩,
 ⟨none, .store 3 (.t 15) (.t 53), none, false⟩,
 ⟨some 16, .mv (.t 54), none, false⟩]) (.seq (.region false [⟨some 56, .mv (.t 4), none, false⟩,
 ⟨some 57, .aiaddr 2 3 (.t 14) (.c (.int .i64 0)), none, false⟩,
 ⟨some 58, .load true 3 (.t 57), none, false⟩,
 ⟨some 59, .aiaddr 2 3 (.t 14) (.c (.int .i64 1)), none, false⟩,
 ⟨some 60, .load true 3 (.t 59), none, false⟩,
 ⟨some 61, .mv (.t 2), none, false⟩,
 ⟨some 62, .call (.t 56) [(.t 58), (.t 60), (.t 61)], none, false⟩,
 ⟨some 55, .mv (.t 62), none, false⟩,
 ⟨some 63, .extract 0 (.t 55), none, false⟩,
 ⟨some 64, .extract 1 (.t 55), none, false⟩,
 ⟨some 17, .new 3 (.agg [(.bool false), .nil, (.int .i64 0)]), none, false⟩,
 ⟨none, .store 3 (.t 17) (.t 63), none, false⟩,
 ⟨some 18, .mv (.t 64), none, false⟩]) (.seq (.seq (.region false [⟨some 65, .mv (.t 16), none, false⟩,
 ⟨some 66, .bin .num .neq (.t 65) (.c (.int .i64 0)), none, false⟩,
 ⟨some 67, .mv (.t 66), none, false⟩,
 ⟨some 68, .mv (.t 18), some (67, false), false⟩,
 ⟨some 69, .bin .num .neq (.t 68) (.c (.int .i64 0)), some (67, false), false⟩,
 ⟨some 70, .pick (.t 67) (.c (.bool true)) (.t 69), none, false⟩]) (.cond (.t 70) (.seq (.region false [⟨some 71, .call (.f 107) [], none, false⟩,
 ⟨none, .store 7 (.t 10) (.t 71), none, false⟩]) .ret) .skip)) (.seq (.seq (.region false [⟨some 72, .mv (.t 13), none, false⟩,
 ⟨some 73, .bin .num .eql (.t 72) (.c (.int .i64 0)), none, false⟩,
 ⟨some 74, .mv (.t 73), none, false⟩,
 ⟨some 75, .load true 3 (.t 15), some (74, false), false⟩,
 ⟨some 76, .faddr 0 (.t 12), some (74, false), false⟩,
 ⟨some 77, .load true 3 (.t 76), some (74, false), false⟩,
 ⟨some 78, .call (.f 52) [(.t 75), (.t 77)], some (74, false), false⟩,
 ⟨some 79, .bin .num .lss (.t 78) (.c (.int .i64 0)), some (74, false), false⟩,
 ⟨some 80, .pick (.t 74) (.c (.bool true)) (.t 79), none, false⟩]) (.cond (.t 80) (.region false [⟨some 81, .load true 3 (.t 15), none, false⟩,
 ⟨some 82, .faddr 0 (.t 12), none, false⟩,
 ⟨none, .store 3 (.t 82) (.t 81), none, false⟩]) .skip)) (.seq (.region false [⟨some 83, .mv (.t 13), none, false⟩,
 ⟨some 84, .bin .num .eql (.t 83) (.c (.int .i64 0)), none, false⟩,
 ⟨some 85, .mv (.t 84), none, false⟩,
 ⟨some 86, .load true 3 (.t 17), some (85, false), false⟩,
 ⟨some 87, .faddr 3 (.t 12), some (85, false), false⟩,
 ⟨some 88, .load true 3 (.t 87), some (85, false), false⟩,
 ⟨some 89, .call (.f 52) [(.t 86), (.t 88)], some (85, false), false⟩,
 ⟨some 90, .bin .num .gtr (.t 89) (.c (.int .i64 0)), some (85, false), false⟩,
 ⟨some 91, .pick (.t 85) (.c (.bool true)) (.t 90), none, false⟩]) (.cond (.t 91) (.region false [⟨some 92, .load true 3 (.t 17), none, false⟩,
 ⟨some 93, .faddr 3 (.t 12), none, false⟩,
 ⟨none, .store 3 (.t 93) (.t 92), none, false⟩]) .skip)))))))) (.region false [⟨some 94, .bin .num .add (.t 41) (.c (.int .i64 1)), none, false⟩,
 ⟨some 41, .mv (.t 94), none, false⟩]))))
@[simp] def c_interval_four : AFn := ⟨[(.cell 10 true 7)],
 (.seq (.region false [⟨some 5, .box 7 (.t 0), none, false⟩,
 ⟨some 6, .box 7 (.t 1), none, false⟩,
 ⟨some 10, .new 7 (.agg [(.bool false), .nil, (.int .i64 0), (.bool false), .nil, (.int .i64 0), (.bool false)]), none, false⟩]) (.seq (.region false [⟨some 19, .faddr 0 (.t 5), none, false⟩,
 ⟨some 20, .load true 3 (.t 19), none, false⟩,
 ⟨some 21, .faddr 0 (.t 6), none, false⟩,
 ⟨some 22, .load true 3 (.t 21), none, false⟩,
 ⟨some 23, .build [(.bool false), .nil, (.int .i64 0), (.bool false), .nil, (.int .i64 0)] [(0, 3, (.t 20)), (3, 3, (.t 22))], none, false⟩,
 ⟨some 24, .faddr 0 (.t 5), none, false⟩,
 ⟨some 25, .load true 3 (.t 24), none, false⟩,
 ⟨some 26, .faddr 3 (.t 6), none, false⟩,
 ⟨some 27, .load true 3 (.t 26), none, false⟩,
 ⟨some 28, .build [(.bool false), .nil, (.int .i64 0), (.bool false), .nil, (.int .i64 0)] [(0, 3, (.t 25)), (3, 3, (.t 27))], none, false⟩,
 ⟨some 29, .faddr 3 (.t 5), none, false⟩,
 ⟨some 30, .load true 3 (.t 29), none, false⟩,
 ⟨some 31, .faddr 0 (.t 6), none, false⟩,
 ⟨some 32, .load true 3 (.t 31), none, false⟩,
 ⟨some 33, .build [(.bool false), .nil, (.int .i64 0), (.bool false), .nil, (.int .i64 0)] [(0, 3, (.t 30)), (3, 3, (.t 32))], none, false⟩,
 ⟨some 34, .faddr 3 (.t 5), none, false⟩,
 ⟨some 35, .load true 3 (.t 34), none, false⟩,
 ⟨some 36, .faddr 3 (.t 6), none, false⟩,
 ⟨some 37, .load true 3 (.t 36), none, false⟩,
 ⟨some 38, .build [(.bool false), .nil, (.int .i64 0), (.bool false), .nil, (.int .i64 0)] [(0, 3, (.t 35)), (3, 3, (.t 37))], none, false⟩,
 ⟨some 39, .build [(.bool false), .nil, (.int .i64 0), (.bool false), .nil, (.int .i64 0), (.bool false), .nil, (.int .i64 0), (.bool false), .nil, (.int .i64 0), (.bool false), .nil, (.int .i64 0), (.bool false), .nil, (.int .i64 0), (.bool false), .nil, (.int .i64 0), (.bool false), .nil, (.int .i64 0)] [(0, 6, (.t 23)), (6, 6, (.t 28)), (12, 6, (.t 33)), (18, 6, (.t 38))], none, false⟩,
 ⟨some 11, .new 24 (.agg [(.bool false), .nil, (.int .i64 0), (.bool false), .nil, (.int .i64 0), (.bool false), .nil, (.int .i64 0), (.bool false), .nil, (.int .i64 0), (.bool false), .nil, (.int .i64 0), (.bool false), .nil, (.int .i64 0), (.bool false), .nil, (.int .i64 0), (.bool false), .nil, (.int .i64 0)]), none, false⟩,
 ⟨none, .store 24 (.t 11) (.t 39), none, false⟩]) (.seq (.region false [⟨some 12, .new 7 (.agg [(.bool false), .nil, (.int .i64 0), (.bool false), .nil, (.int .i64 0), (.bool false)]), none, false⟩]) (.seq (.seq (.region false [⟨some 40, .load true 24 (.t 11), none, false⟩,
 ⟨some 41, .mv (.c (.int .i64 0)), none, false⟩]) (.block 0 (.loop c_interval_four_l0))) (.seq (.region false [⟨some 95, .load true 7 (.t 12), none, false⟩,
 ⟨none, .store 7 (.t 10) (.t 95), none, false⟩]) .ret))))),
 false, false⟩

/- round_MulDown -/
@[simp] def c_round_MulDown : AFn := ⟨[(.cell 6 true 3), (.tmp 7)],
 (.seq (.region false [⟨some 3, .box 3 (.t 0), none, false⟩,
 ⟨some 4, .box 3 (.t 1), none, false⟩,
 ⟨some 6, .new 3 (.agg [(.bool false), .nil, (.int .i64 0)]), none, false⟩,
 ⟨some 7, .mv (.c (.int .i64 0)), none, false⟩]) (.seq (.region false [⟨some 8, .load true 3 (.t 3), none, false⟩,
 ⟨some 9, .load true 3 (.t 4), none, false⟩,
 ⟨some 10, .mv (.t 2), none, false⟩,
 ⟨some 11, .call (.f 217) [(.t 8), (.t 9), (.t 10), (.c (.bool false))], none, false⟩,
 ⟨some 12, .extract 0 (.t 11), none, false⟩,
 ⟨some 13, .extract 1 (.t 11), none, false⟩,
 ⟨none, .store 3 (.t 6) (.t 12), none, false⟩,
 ⟨some 7, .mv (.t 13), none, false⟩]) .ret)),
 false, false⟩

/- round_MulUp -/
@[simp] def c_round_MulUp : AFn := ⟨[(.cell 6 true 3), (.tmp 7)],
 (.seq (.region false [⟨some 3, .box 3 (.t 0), none, false⟩,
 ⟨some 4, .box 3 (.t 1), none, false⟩,
 ⟨some 6, .new 3 (.agg [(.bool false), .nil, (.int .i64 0)]), none, false⟩,
 ⟨some 7, .mv (.c (.int .i64 0)), none, false⟩]) (.seq (.region false [⟨some 8, .load true 3 (.t 3), none, false⟩,
 ⟨some 9, .load true 3 (.t 4), none, false⟩,
 ⟨some 10, .mv (.t 2), none, false⟩,
 ⟨some 11, .call (.f 217) [(.t 8), (.t 9), (.t 10), (.c (.bool true))], none, false⟩,
 ⟨some 12, .extract 0 (.t 11), none, false⟩,
 ⟨some 13, .extract 1 (.t 11), none, false⟩,
 ⟨none, .store 3 (.t 6) (.t 12), none, false⟩,
 ⟨some 7, .mv (.t 13), none, false⟩]) .ret)),
 false, false⟩

/- round_DivDown -/
@[simp] def c_round_DivDown : AFn := ⟨[(.cell 6 true 3), (.tmp 7)],
 (.seq (.region false [⟨some 3, .box 3 (.t 0), none, false⟩,
 ⟨some 4, .box 3 (.t 1), none, false⟩,
 ⟨some 6, .new 3 (.agg [(.bool false), .nil, (.int .i64 0)]), none, false⟩,
 ⟨some 7, .mv (.c (.int .i64 0)), none, false⟩]) (.seq (.region false [⟨some 8, .load true 3 (.t 3), none, false⟩,
 ⟨some 9, .load true 3 (.t 4), none, false⟩,
 ⟨some 10, .mv (.t 2), none, false⟩,
 ⟨some 11, .call (.f 218) [(.t 8), (.t 9), (.t 10), (.c (.bool false))], none, false⟩,
 ⟨some 12, .extract 0 (.t 11), none, false⟩,
 ⟨some 13, .extract 1 (.t 11), none, false⟩,
 ⟨none, .store 3 (.t 6) (.t 12), none, false⟩,
 ⟨some 7, .mv (.t 13), none, false⟩]) .ret)),
 false, false⟩

/- round_DivUp -/
@[simp] def c_round_DivUp : AFn := ⟨[(.cell 6 true 3), (.tmp 7)],
 (.seq (.region false [⟨some 3, .box 3 (.t 0), none, false⟩,
 ⟨some 4, .box 3 (.t 1), none, false⟩,
 ⟨some 6, .new 3 (.agg [(.bool false), .nil, (.int .i64 0)]), none, false⟩,
 ⟨some 7, .mv (.c (.int .i64 0)), none, false⟩]) (.seq (.region false [⟨some 8, .load true 3 (.t 3), none, false⟩,
 ⟨some 9, .load true 3 (.t 4), none, false⟩,
 ⟨some 10, .mv (.t 2), none, false⟩,
 ⟨some 11, .call (.f 218) [(.t 8), (.t 9), (.t 10), (.c (.bool true))], none, false⟩,
 ⟨some 12, .extract 0 (.t 11), none, false⟩,
 ⟨some 13, .extract 1 (.t 11), none, false⟩,
 ⟨none, .store 3 (.t 6) (.t 12), none, false⟩,
 ⟨some 7, .mv (.t 13), none, false⟩]) .ret)),
 false, false⟩

/- dyadic_Neg -/
@[simp] def c_dyadic_Neg : AFn := ⟨[(.cell 2 true 3)],
 (.seq (.region false [⟨some 1, .box 3 (.t 0), none, false⟩,
 ⟨some 2, .new 3 (.agg [(.bool false), .nil, (.int .i64 0)]), none, false⟩]) (.seq (.seq (.region false [⟨some 3, .load true 3 (.t 1), none, false⟩,
 ⟨some 4, .call (.f 51) [(.t 3)], none, false⟩,
 ⟨some 5, .un .not (.t 4), none, false⟩,
 ⟨some 6, .mv (.t 5), none, false⟩,
 ⟨some 7, .faddr 1 (.t 1), some (6, false), false⟩,
 ⟨some 8, .load false 1 (.t 7), some (6, false), false⟩,
 ⟨some 9, .len (.t 8), some (6, false), false⟩,
 ⟨some 10, .bin .num .eql (.t 9) (.c (.int .i64 0)), some (6, false), false⟩,
 ⟨some 11, .pick (.t 6) (.c (.bool true)) (.t 10), none, false⟩]) (.cond (.t 11) (.seq (.region false [⟨some 12, .build [(.bool false), .nil, (.int .i64 0)] [], none, false⟩,
 ⟨none, .store 3 (.t 2) (.t 12), none, false⟩]) .ret) .skip)) (.seq (.region true [⟨some 13, .faddr 0 (.t 1), none, false⟩,
 ⟨some 14, .load false 1 (.t 13), none, false⟩,
 ⟨some 15, .un .not (.t 14), none, false⟩,
 ⟨some 16, .faddr 1 (.t 1), none, false⟩,
 ⟨some 17, .load false 1 (.t 16), none, false⟩,
 ⟨some 18, .call (.f 221) [(.t 17)], none, false⟩,
 ⟨some 19, .faddr 2 (.t 1), none, false⟩,
 ⟨some 20, .load false 1 (.t 19), none, false⟩,
 ⟨some 21, .build [(.bool false), .nil, (.int .i64 0)] [(0, 1, (.t 15)), (1, 1, (.t 18)), (2, 1, (.t 20))], none, false⟩,
 ⟨none, .store 3 (.t 2) (.t 21), none, true⟩]) .ret))),
 false, false⟩

/- dyadic_Abs -/
@[simp] def c_dyadic_Abs : AFn := ⟨[(.cell 2 true 3)],
 (.seq (.region false [⟨some 1, .box 3 (.t 0), none, false⟩,
 ⟨some 2, .new 3 (.agg [(.bool false), .nil, (.int .i64 0)]), none, false⟩]) (.seq (.seq (.region false [⟨some 3, .load true 3 (.t 1), none, false⟩,
 ⟨some 4, .call (.f 51) [(.t 3)], none, false⟩,
 ⟨some 5, .un .not (.t 4), none, false⟩,
 ⟨some 6, .mv (.t 5), none, false⟩,
 ⟨some 7, .faddr 1 (.t 1), some (6, false), false⟩,
 ⟨some 8, .load false 1 (.t 7), some (6, false), false⟩,
 ⟨some 9, .len (.t 8), some (6, false), false⟩,
 ⟨some 10, .bin .num .eql (.t 9) (.c (.int .i64 0)), some (6, false), false⟩,
 ⟨some 11, .pick (.t 6) (.c (.bool true)) (.t 10), none, false⟩]) (.cond (.t 11) (.seq (.region false [⟨some 12, .build [(.bool false), .nil, (.int .i64 0)] [], none, false⟩,
 ⟨none, .store 3 (.t 2) (.t 12), none, false⟩]) .ret) .skip)) (.seq (.region true [⟨some 13, .faddr 1 (.t 1), none, false⟩,
 ⟨some 14, .load false 1 (.t 13), none, false⟩,
 ⟨some 15, .call (.f 221) [(.t 14)], none, false⟩,
 ⟨some 16, .faddr 2 (.t 1), none, false⟩,
 ⟨some 17, .load false 1 (.t 16), none, false⟩,
 ⟨some 18, .build [(.bool false), .nil, (.int .i64 0)] [(1, 1, (.t 15)), (2, 1, (.t 17))], none, false⟩,
 ⟨none, .store 3 (.t 2) (.t 18), none, true⟩]) .ret))),
 false, false⟩

/- fpref02_exponent -/
@[simp] def c_fpref02_exponent : AFn := ⟨[(.tmp 2)],
 (.seq (.region false [⟨some 2, .mv (.c (.bool false)), none, false⟩]) (.seq (.region false [⟨some 3, .mv (.t 0), none, false⟩,
 ⟨some 4, .bin .num .geq (.t 3) (.c (.int .i64 (-32768))), none, false⟩,
 ⟨some 5, .mv (.t 4), none, false⟩,
 ⟨some 6, .mv (.t 0), some (5, true), false⟩,
 ⟨some 7, .bin .num .leq (.t 6) (.c (.int .i64 32768)), some (5, true), false⟩,
 ⟨some 8, .pick (.t 5) (.t 7) (.c (.bool false)), none, false⟩,
 ⟨some 2, .mv (.t 8), none, false⟩]) .ret)),
 false, false⟩

/- fpref02_times -/
def c_fpref02_times_l0 : AC := (.seq (.seq (.region false [⟨some 25, .mv (.t 8), none, false⟩,
 ⟨some 26, .mv (.t 1), none, false⟩,
 ⟨some 27, .len (.t 26), none, false⟩,
 ⟨some 28, .bin .num .lss (.t 25) (.t 27), none, false⟩]) (.cond (.t 28) .skip (.exit 2))) (.seq (.block 3 (.seq (.region true [⟨some 31, .mv (.t 0), none, false⟩,
 ⟨some 32, .mv (.t 6), none, false⟩,
 ⟨some 33, .iaddr 1 (.t 31) (.t 32), none, false⟩,
 ⟨some 34, .load false 1 (.t 33), none, false⟩,
 ⟨some 35, .conv .u64 (.t 34), none, false⟩,
 ⟨some 36, .mv (.t 1), none, false⟩,
 ⟨some 37, .mv (.t 8), none, false⟩,
 ⟨some 38, .iaddr 1 (.t 36) (.t 37), none, false⟩,
 ⟨some 39, .load false 1 (.t 38), none, false⟩,
 ⟨some 40, .conv .u64 (.t 39), none, false⟩,
 ⟨some 41, .bin .num .mul (.t 35) (.t 40), none, false⟩,
 ⟨some 42, .mv (.t 5), none, false⟩,
 ⟨some 43, .mv (.t 6), none, false⟩,
 ⟨some 44, .mv (.t 8), none, false⟩,
 ⟨some 45, .bin .num .add (.t 43) (.t 44), none, false⟩,
 ⟨some 46, .iaddr 1 (.t 42) (.t 45), none, false⟩,
 ⟨some 47, .load false 1 (.t 46), none, false⟩,
 ⟨some 48, .conv .u64 (.t 47), none, false⟩,
 ⟨some 49, .bin .num .add (.t 41) (.t 48), none, false⟩,
 ⟨some 50, .mv (.t 7), none, false⟩,
 ⟨some 51, .bin .num .add (.t 49) (.t 50), none, false⟩,
 ⟨some 9, .mv (.t 51), none, false⟩]) (.seq (.region false [⟨some 52, .mv (.t 5), none, false⟩,
 ⟨some 53, .mv (.t 6), none, false⟩,
 ⟨some 54, .mv (.t 8), none, false⟩,
 ⟨some 55, .bin .num .add (.t 53) (.t 54), none, false⟩,
 ⟨some 56, .mv (.t 9), none, false⟩,
 ⟨some 57, .bin .num .and (.t 56) (.c (.int .u64 4294967295)), none, false⟩,
 ⟨some 58, .conv .u32 (.t 57), none, false⟩,
 ⟨some 59, .iaddr 1 (.t 52) (.t 55), none, false⟩,
 ⟨none, .store 1 (.t 59) (.t 58), none, false⟩]) (.region false [⟨some 60, .mv (.t 9), none, false⟩,
 ⟨some 61, .bin .num .shr (.t 60) (.c (.int .u64 32)), none, false⟩,
 ⟨some 7, .mv (.t 61), none, false⟩])))) (.region false [⟨some 29, .mv (.t 8), none, false⟩,
 ⟨some 30, .bin .num .add (.t 29) (.c (.int .i64 1)), none, false⟩,
 ⟨some 8, .mv (.t 30), none, false⟩])))
def c_fpref02_times_l1 : AC := (.seq (.seq (.region false [⟨some 66, .mv (.t 7), none, false⟩,
 ⟨some 67, .bin .num .gtr (.t 66) (.c (.int .u64 0)), none, false⟩]) (.cond (.t 67) .skip (.exit 4))) (.seq (.block 5 (.seq (.region false [⟨some 70, .mv (.t 5), none, false⟩,
 ⟨some 71, .mv (.t 10), none, false⟩,
 ⟨some 72, .iaddr 1 (.t 70) (.t 71), none, false⟩,
 ⟨some 73, .load false 1 (.t 72), none, false⟩,
 ⟨some 74, .conv .u64 (.t 73), none, false⟩,
 ⟨some 75, .mv (.t 7), none, false⟩,
 ⟨some 76, .bin .num .add (.t 74) (.t 75), none, false⟩,
 ⟨some 11, .mv (.t 76), none, false⟩]) (.seq (.region false [⟨some 77, .mv (.t 5), none, false⟩,
 ⟨some 78, .mv (.t 10), none, false⟩,
 ⟨some 79, .mv (.t 11), none, false⟩,
 ⟨some 80, .bin .num .and (.t 79) (.c (.int .u64 4294967295)), none, false⟩,
 ⟨some 81, .conv .u32 (.t 80), none, false⟩,
 ⟨some 82, .iaddr 1 (.t 77) (.t 78), none, false⟩,
 ⟨none, .store 1 (.t 82) (.t 81), none, false⟩]) (.region false [⟨some 83, .mv (.t 11), none, false⟩,
 ⟨some 84, .bin .num .shr (.t 83) (.c (.int .u64 32)), none, false⟩,
 ⟨some 7, .mv (.t 84), none, false⟩])))) (.region false [⟨some 68, .mv (.t 10), none, false⟩,
 ⟨some 69, .bin .num .add (.t 68) (.c (.int .i64 1)), none, false⟩,
 ⟨some 10, .mv (.t 69), none, false⟩])))
def c_fpref02_times_l2 : AC := (.seq (.seq (.region false [⟨some 19, .mv (.t 6), none, false⟩,
 ⟨some 20, .mv (.t 0), none, false⟩,
 ⟨some 21, .len (.t 20), none, false⟩,
 ⟨some 22, .bin .num .lss (.t 19) (.t 21), none, false⟩]) (.cond (.t 22) .skip (.exit 0))) (.seq (.block 1 (.seq (.region false [⟨some 7, .mv (.c (.int .u64 0)), none, false⟩]) (.seq (.seq (.region false [⟨some 8, .mv (.c (.int .i64 0)), none, false⟩]) (.block 2 (.loop c_fpref02_times_l0))) (.seq (.region false [⟨some 62, .mv (.t 6), none, false⟩,
 ⟨some 63, .mv (.t 1), none, false⟩,
 ⟨some 64, .len (.t 63), none, false⟩,
 ⟨some 65, .bin .num .add (.t 62) (.t 64), none, false⟩,
 ⟨some 10, .mv (.t 65), none, false⟩]) (.block 4 (.loop c_fpref02_times_l1)))))) (.region false [⟨some 23, .mv (.t 6), none, false⟩,
 ⟨some 24, .bin .num .add (.t 23) (.c (.int .i64 1)), none, false⟩,
 ⟨some 6, .mv (.t 24), none, false⟩])))
@[simp] def c_fpref02_times : AFn := ⟨[(.tmp 4)],
 (.seq (.region false [⟨some 4, .mv (.c .nil), none, false⟩]) (.seq (.region false [⟨some 12, .mv (.t 0), none, false⟩,
 ⟨some 13, .len (.t 12), none, false⟩,
 ⟨some 14, .mv (.t 1), none, false⟩,
 ⟨some 15, .len (.t 14), none, false⟩,
 ⟨some 16, .bin .num .add (.t 13) (.t 15), none, false⟩,
 ⟨some 17, .bin .num .add (.t 16) (.c (.int .i64 1)), none, false⟩,
 ⟨some 18, .mkslice 1 4 (.int .u32 0) (.t 17) (.t 17), none, false⟩,
 ⟨some 5, .mv (.t 18), none, false⟩]) (.seq (.seq (.region false [⟨some 6, .mv (.c (.int .i64 0)), none, false⟩]) (.block 0 (.loop c_fpref02_times_l2))) (.seq (.region false [⟨some 85, .mv (.t 5), none, false⟩,
 ⟨some 86, .call (.f 101) [(.t 85)], none, false⟩,
 ⟨some 4, .mv (.t 86), none, false⟩]) .ret)))),
 false, false⟩

/- round_add -/
@[simp] def c_round_add : AFn := ⟨[(.cell 8 true 3), (.tmp 9)],
 (.seq (.region false [⟨some 4, .box 3 (.t 0), none, false⟩,
 ⟨some 5, .box 3 (.t 1), none, false⟩,
 ⟨some 8, .new 3 (.agg [(.bool false), .nil, (.int .i64 0)]), none, false⟩,
 ⟨some 9, .mv (.c (.int .i64 0)), none, false⟩]) (.seq (.seq (.region false [⟨some 13, .mv (.t 2), none, false⟩,
 ⟨some 14, .load true 3 (.t 4), none, false⟩,
 ⟨some 15, .load true 3 (.t 5), none, false⟩,
 ⟨some 16, .bslice 3 2 (.agg [(.bool false), .nil, (.int .i64 0)]) [(0, (.t 14)), (1, (.t 15))], none, false⟩,
 ⟨some 17, .call (.f 235) [(.t 13), (.t 16)], none, false⟩,
 ⟨some 10, .mv (.t 17), none, false⟩]) (.seq (.region false [⟨some 18, .mv (.t 10), none, false⟩,
 ⟨some 19, .bin .num .neq (.t 18) (.c (.int .i64 0)), none, false⟩]) (.cond (.t 19) (.seq (.region false [⟨some 20, .build [(.bool false), .nil, (.int .i64 0)] [], none, false⟩,
 ⟨some 21, .mv (.t 10), none, false⟩,
 ⟨none, .store 3 (.t 8) (.t 20), none, false⟩,
 ⟨some 9, .mv (.t 21), none, false⟩]) .ret) .skip))) (.seq (.block 0 (.seq (.region false [⟨some 23, .faddr 1 (.t 4), none, false⟩,
 ⟨some 24, .load false 1 (.t 23), none, false⟩,
 ⟨some 25, .len (.t 24), none, false⟩,
 ⟨some 26, .bin .num .eql (.t 25) (.c (.int .i64 0)), none, false⟩,
 ⟨some 22, .mv (.t 26), none, false⟩]) (.cond (.t 22) (.seq (.region false [⟨some 27, .load true 3 (.t 5), none, false⟩,
 ⟨some 28, .mv (.t 2), none, false⟩,
 ⟨some 29, .mv (.t 3), none, false⟩,
 ⟨some 30, .call (.f 222) [(.t 27), (.t 28), (.t 29)], none, false⟩,
 ⟨some 31, .extract 0 (.t 30), none, false⟩,
 ⟨some 32, .extract 1 (.t 30), none, false⟩,
 ⟨none, .store 3 (.t 8) (.t 31), none, false⟩,
 ⟨some 9, .mv (.t 32), none, false⟩]) .ret) (.seq (.region false [⟨some 34, .faddr 1 (.t 5), none, false⟩,
 ⟨some 35, .load false 1 (.t 34), none, false⟩,
 ⟨some 36, .len (.t 35), none, false⟩,
 ⟨some 37, .bin .num .eql (.t 36) (.c (.int .i64 0)), none, false⟩,
 ⟨some 33, .mv (.t 37), none, false⟩]) (.cond (.t 33) (.seq (.region false [⟨some 38, .load true 3 (.t 4), none, false⟩,
 ⟨some 39, .mv (.t 2), none, false⟩,
 ⟨some 40, .mv (.t 3), none, false⟩,
 ⟨some 41, .call (.f 222) [(.t 38), (.t 39), (.t 40)], none, false⟩,
 ⟨some 42, .extract 0 (.t 41), none, false⟩,
 ⟨some 43, .extract 1 (.t 41), none, false⟩,
 ⟨none, .store 3 (.t 8) (.t 42), none, false⟩,
 ⟨some 9, .mv (.t 43), none, false⟩]) .ret) .skip))))) (.seq (.seq (.region true [⟨some 44, .load true 3 (.t 4), none, false⟩,
 ⟨some 45, .call (.f 98) [(.t 44)], none, false⟩,
 ⟨some 46, .load true 3 (.t 5), none, false⟩,
 ⟨some 47, .call (.f 98) [(.t 46)], none, true⟩,
 ⟨some 48, .bin .num .lss (.t 45) (.t 47), none, false⟩]) (.cond (.t 48) (.region false [⟨some 49, .load true 3 (.t 5), none, false⟩,
 ⟨some 50, .load true 3 (.t 4), none, false⟩,
 ⟨none, .store 3 (.t 4) (.t 49), none, false⟩,
 ⟨none, .store 3 (.t 5) (.t 50), none, false⟩]) .skip)) (.seq (.region false [⟨some 52, .load true 3 (.t 4), none, false⟩,
 ⟨some 53, .load true 3 (.t 5), none, false⟩,
 ⟨some 54, .mv (.t 2), none, false⟩,
 ⟨some 55, .call (.f 236) [(.t 52), (.t 53), (.t 54)], none, false⟩,
 ⟨some 51, .mv (.t 55), none, false⟩,
 ⟨some 56, .extract 0 (.t 51), none, false⟩,
 ⟨some 57, .extract 1 (.t 51), none, false⟩,
 ⟨some 11, .new 3 (.agg [.nil, (.int .i64 0), (.bool false)]), none, false⟩,
 ⟨none, .store 3 (.t 11) (.t 56), none, false⟩,
 ⟨some 12, .mv (.t 57), none, false⟩]) (.seq (.seq (.region false [⟨some 58, .faddr 0 (.t 11), none, false⟩,
 ⟨some 59, .load false 1 (.t 58), none, false⟩,
 ⟨some 60, .len (.t 59), none, false⟩,
 ⟨some 61, .bin .num .eql (.t 60) (.c (.int .i64 0)), none, false⟩,
 ⟨some 62, .mv (.t 61), none, false⟩,
 ⟨some 63, .faddr 2 (.t 11), some (62, true), false⟩,
 ⟨some 64, .load false 1 (.t 63), some (62, true), false⟩,
 ⟨some 65, .un .not (.t 64), some (62, true), false⟩,
 ⟨some 66, .pick (.t 62) (.t 65) (.c (.bool false)), none, false⟩]) (.cond (.t 66) (.seq (.region false [⟨some 67, .build [(.bool false), .nil, (.int .i64 0)] [], none, false⟩,
 ⟨none, .store 3 (.t 8) (.t 67), none, false⟩,
 ⟨some 9, .mv (.c (.int .i64 0)), none, false⟩]) .ret) .skip)) (.seq (.region false [⟨some 68, .faddr 0 (.t 4), none, false⟩,
 ⟨some 69, .load false 1 (.t 68), none, false⟩,
 ⟨some 70, .mv (.t 12), none, false⟩,
 ⟨some 71, .bin .bool .neq (.t 69) (.t 70), none, false⟩,
 ⟨some 72, .load true 3 (.t 11), none, false⟩,
 ⟨some 73, .mv (.t 2), none, false⟩,
 ⟨some 74, .mv (.t 3), none, false⟩,
 ⟨some 75, .call (.f 237) [(.t 71), (.t 72), (.t 73), (.t 74)], none, false⟩,
 ⟨some 76, .extract 0 (.t 75), none, false⟩,
 ⟨some 77, .extract 1 (.t 75), none, false⟩,
 ⟨none, .store 3 (.t 8) (.t 76), none, false⟩,
 ⟨some 9, .mv (.t 77), none, false⟩]) .ret))))))),
 false, false⟩

/- round_mul -/
@[simp] def c_round_mul : AFn := ⟨[(.cell 8 true 3), (.tmp 9)],
 (.seq (.region false [⟨some 4, .box 3 (.t 0), none, false⟩,
 ⟨some 5, .box 3 (.t 1), none, false⟩,
 ⟨some 8, .new 3 (.agg [(.bool false), .nil, (.int .i64 0)]), none, false⟩,
 ⟨some 9, .mv (.c (.int .i64 0)), none, false⟩]) (.seq (.seq (.region false [⟨some 13, .mv (.t 2), none, false⟩,
 ⟨some 14, .load true 3 (.t 4), none, false⟩,
 ⟨some 15, .load true 3 (.t 5), none, false⟩,
 ⟨some 16, .bslice 3 2 (.agg [(.bool false), .nil, (.int .i64 0)]) [(0, (.t 14)), (1, (.t 15))], none, false⟩,
 ⟨some 17, .call (.f 235) [(.t 13), (.t 16)], none, false⟩,
 ⟨some 10, .mv (.t 17), none, false⟩]) (.seq (.region false [⟨some 18, .mv (.t 10), none, false⟩,
 ⟨some 19, .bin .num .neq (.t 18) (.c (.int .i64 0)), none, false⟩]) (.cond (.t 19) (.seq (.region false [⟨some 20, .build [(.bool false), .nil, (.int .i64 0)] [], none, false⟩,
 ⟨some 21, .mv (.t 10), none, false⟩,
 ⟨none, .store 3 (.t 8) (.t 20), none, false⟩,
 ⟨some 9, .mv (.t 21), none, false⟩]) .ret) .skip))) (.seq (.seq (.region false [⟨some 22, .faddr 1 (.t 4), none, false⟩,
 ⟨some 23, .load false 1 (.t 22), none, false⟩,
 ⟨some 24, .len (.t 23), none, false⟩,
 ⟨some 25, .bin .num .eql (.t 24) (.c (.int .i64 0)), none, false⟩,
 ⟨some 26, .mv (.t 25), none, false⟩,
 ⟨some 27, .faddr 1 (.t 5), some (26, false), false⟩,
 ⟨some 28, .load false 1 (.t 27), some (26, false), false⟩,
 ⟨some 29, .len (.t 28), some (26, false), false⟩,
 ⟨some 30, .bin .num .eql (.t 29) (.c (.int .i64 0)), some (26, false), false⟩,
 ⟨some 31, .pick (.t 26) (.c (.bool true)) (.t 30), none, false⟩]) (.cond (.t 31) (.seq (.region false [⟨some 32, .build [(.bool false), .nil, (.int .i64 0)] [], none, false⟩,
 ⟨none, .store 3 (.t 8) (.t 32), none, false⟩,
 ⟨some 9, .mv (.c (.int .i64 0)), none, false⟩]) .ret) .skip)) (.seq (.region false [⟨some 34, .faddr 1 (.t 4), none, false⟩,
 ⟨some 35, .load false 1 (.t 34), none, false⟩,
 ⟨some 36, .faddr 1 (.t 5), none, false⟩,
 ⟨some 37, .load false 1 (.t 36), none, false⟩,
 ⟨some 38, .call (.f 238) [(.t 35), (.t 37)], none, false⟩,
 ⟨some 33, .mv (.t 38), none, false⟩,
 ⟨some 39, .extract 0 (.t 33), none, false⟩,
 ⟨some 40, .extract 1 (.t 33), none, false⟩,
 ⟨some 11, .mv (.t 39), none, false⟩,
 ⟨some 12, .mv (.t 40), none, false⟩]) (.seq (.region false [⟨some 41, .faddr 0 (.t 4), none, false⟩,
 ⟨some 42, .load false 1 (.t 41), none, false⟩,
 ⟨some 43, .faddr 0 (.t 5), none, false⟩,
 ⟨some 44, .load false 1 (.t 43), none, false⟩,
 ⟨some 45, .bin .bool .neq (.t 42) (.t 44), none, false⟩,
 ⟨some 46, .mv (.t 11), none, false⟩,
 ⟨some 47, .faddr 2 (.t 4), none, false⟩,
 ⟨some 48, .load false 1 (.t 47), none, false⟩,
 ⟨some 49, .faddr 2 (.t 5), none, false⟩,
 ⟨some 50, .load false 1 (.t 49), none, false⟩,
 ⟨some 51, .bin .num .add (.t 48) (.t 50), none, false⟩,
 ⟨some 52, .build [.nil, (.int .i64 0), (.bool false)] [(0, 1, (.t 46)), (1, 1, (.t 51))], none, false⟩,
 ⟨some 53, .mv (.t 2), none, false⟩,
 ⟨some 54, .mv (.t 3), none, false⟩,
 ⟨some 55, .call (.f 237) [(.t 45), (.t 52), (.t 53), (.t 54)], none, false⟩,
 ⟨some 56, .extract 0 (.t 55), none, false⟩,
 ⟨some 57, .extract 1 (.t 55), none, false⟩,
 ⟨none, .store 3 (.t 8) (.t 56), none, false⟩,
 ⟨some 9, .mv (.t 57), none, false⟩]) .ret))))),
 false, false⟩

/- round_div -/
@[simp] def c_round_div : AFn := ⟨[(.cell 8 true 3), (.tmp 9)],
 (.seq (.region false [⟨some 4, .box 3 (.t 0), none, false⟩,
 ⟨some 5, .box 3 (.t 1), none, false⟩,
 ⟨some 8, .new 3 (.agg [(.bool false), .nil, (.int .i64 0)]), none, false⟩,
 ⟨some 9, .mv (.c (.int .i64 0)), none, false⟩]) (.seq (.seq (.region false [⟨some 15, .mv (.t 2), none, false⟩,
 ⟨some 16, .load true 3 (.t 4), none, false⟩,
 ⟨some 17, .load true 3 (.t 5), none, false⟩,
 ⟨some 18, .bslice 3 2 (.agg [(.bool false), .nil, (.int .i64 0)]) [(0, (.t 16)), (1, (.t 17))], none, false⟩,
 ⟨some 19, .call (.f 235) [(.t 15), (.t 18)], none, false⟩,
 ⟨some 10, .mv (.t 19), none, false⟩]) (.seq (.region false [⟨some 20, .mv (.t 10), none, false⟩,
 ⟨some 21, .bin .num .neq (.t 20) (.c (.int .i64 0)), none, false⟩]) (.cond (.t 21) (.seq (.region false [⟨some 22, .build [(.bool false), .nil, (.int .i64 0)] [], none, false⟩,
 ⟨some 23, .mv (.t 10), none, false⟩,
 ⟨none, .store 3 (.t 8) (.t 22), none, false⟩,
 ⟨some 9, .mv (.t 23), none, false⟩]) .ret) .skip))) (.seq (.block 0 (.seq (.region false [⟨some 25, .faddr 1 (.t 5), none, false⟩,
 ⟨some 26, .load false 1 (.t 25), none, false⟩,
 ⟨some 27, .len (.t 26), none, false⟩,
 ⟨some 28, .bin .num .eql (.t 27) (.c (.int .i64 0)), none, false⟩,
 ⟨some 24, .mv (.t 28), none, false⟩]) (.cond (.t 24) (.seq (.region false [⟨some 29, .build [(.bool false), .nil, (.int .i64 0)] [], none, false⟩,
 ⟨none, .store 3 (.t 8) (.t 29), none, false⟩,
 ⟨some 9, .mv (.c (.int .i64 10)), none, false⟩]) .ret) (.seq (.region false [⟨some 31, .faddr 1 (.t 4), none, false⟩,
 ⟨some 32, .load false 1 (.t 31), none, false⟩,
 ⟨some 33, .len (.t 32), none, false⟩,
 ⟨some 34, .bin .num .eql (.t 33) (.c (.int .i64 0)), none, false⟩,
 ⟨some 30, .mv (.t 34), none, false⟩]) (.cond (.t 30) (.seq (.region false [⟨some 35, .build [(.bool false), .nil, (.int .i64 0)] [], none, false⟩,
 ⟨none, .store 3 (.t 8) (.t 35), none, false⟩,
 ⟨some 9, .mv (.c (.int .i64 0)), none, false⟩]) .ret) .skip))))) (.seq (.region true [⟨some 36, .mv (.t 2), none, false⟩,
 ⟨some 37, .bin .num .add (.t 36) (.c (.int .i64 3)), none, false⟩,
 ⟨some 38, .load true 3 (.t 5), none, false⟩,
 ⟨some 39, .call (.f 239) [(.t 38)], none, false⟩,
 ⟨some 40, .bin .num .add (.t 37) (.t 39), none, false⟩,
 ⟨some 41, .load true 3 (.t 4), none, false⟩,
 ⟨some 42, .call (.f 239) [(.t 41)], none, true⟩,
 ⟨some 43, .bin .num .sub (.t 40) (.t 42), none, false⟩,
 ⟨some 44, .max (.c (.int .i64 0)) (.t 43), none, false⟩,
 ⟨some 11, .mv (.t 44), none, false⟩]) (.seq (.region true [⟨some 46, .faddr 1 (.t 4), none, false⟩,
 ⟨some 47, .load false 1 (.t 46), none, false⟩,
 ⟨some 48, .mv (.t 11), none, false⟩,
 ⟨some 49, .call (.f 241) [(.t 47), (.t 48)], none, false⟩,
 ⟨some 50, .faddr 1 (.t 5), none, false⟩,
 ⟨some 51, .load false 1 (.t 50), none, false⟩,
 ⟨some 52, .call (.f 240) [(.t 49), (.t 51)], none, true⟩,
 ⟨some 45, .mv (.t 52), none, false⟩,
 ⟨some 53, .extract 0 (.t 45), none, false⟩,
 ⟨some 54, .extract 1 (.t 45), none, false⟩,
 ⟨some 55, .extract 2 (.t 45), none, false⟩,
 ⟨some 12, .mv (.t 53), none, false⟩,
 ⟨some 13, .mv (.t 54), none, false⟩,
 ⟨some 14, .mv (.t 55), none, false⟩]) (.seq (.region true [⟨some 56, .faddr 0 (.t 4), none, false⟩,
 ⟨some 57, .load false 1 (.t 56), none, false⟩,
 ⟨some 58, .faddr 0 (.t 5), none, false⟩,
 ⟨some 59, .load false 1 (.t 58), none, false⟩,
 ⟨some 60, .bin .bool .neq (.t 57) (.t 59), none, false⟩,
 ⟨some 61, .mv (.t 12), none, false⟩,
 ⟨some 62, .faddr 2 (.t 4), none, false⟩,
 ⟨some 63, .load false 1 (.t 62), none, false⟩,
 ⟨some 64, .mv (.t 11), none, false⟩,
 ⟨some 65, .bin .num .sub (.t 63) (.t 64), none, false⟩,
 ⟨some 66, .faddr 2 (.t 5), none, false⟩,
 ⟨some 67, .load false 1 (.t 66), none, false⟩,
 ⟨some 68, .bin .num .sub (.t 65) (.t 67), none, false⟩,
 ⟨some 69, .mv (.t 13), none, false⟩,
 ⟨some 70, .call (.f 110) [(.t 69)], none, false⟩,
 ⟨some 71, .bin .num .gtr (.t 70) (.c (.int .i64 0)), none, false⟩,
 ⟨some 72, .build [.nil, (.int .i64 0), (.bool false)] [(0, 1, (.t 61)), (1, 1, (.t 68)), (2, 1, (.t 71))], none, false⟩,
 ⟨some 73, .mv (.t 2), none, false⟩,
 ⟨some 74, .mv (.t 3), none, false⟩,
 ⟨some 75, .call (.f 237) [(.t 60), (.t 72), (.t 73), (.t 74)], none, true⟩,
 ⟨some 76, .extract 0 (.t 75), none, false⟩,
 ⟨some 77, .extract 1 (.t 75), none, false⟩,
 ⟨none, .store 3 (.t 8) (.t 76), none, true⟩,
 ⟨some 9, .mv (.t 77), none, false⟩]) .ret)))))),
 false, false⟩

/- slices_Clone_uint32 -/
@[simp] def c_slices_Clone_uint32 : AFn := ⟨[(.tmp 2)],
 (.seq (.region false [⟨some 2, .mv (.c .nil), none, false⟩]) (.seq (.seq (.region false [⟨some 3, .mv (.t 0), none, false⟩,
 ⟨some 4, .bin .slice .eql (.t 3) (.c .nil), none, false⟩]) (.cond (.t 4) (.seq (.region false [⟨some 2, .mv (.c .nil), none, false⟩]) .ret) .skip)) (.seq (.region false [⟨some 5, .bslice 1 0 (.int .u32 0) [], none, false⟩,
 ⟨some 6, .mv (.t 0), none, false⟩,
 ⟨some 7, .append 1 4 (.t 5) (.t 6), none, false⟩,
 ⟨some 2, .mv (.t 7), none, false⟩]) .ret))),
 false, false⟩

/- round_round -/
@[simp] def c_round_round : AFn := ⟨[(.cell 6 true 3), (.tmp 7)],
 (.seq (.region false [⟨some 3, .box 3 (.t 0), none, false⟩,
 ⟨some 6, .new 3 (.agg [(.bool false), .nil, (.int .i64 0)]), none, false⟩,
 ⟨some 7, .mv (.c (.int .i64 0)), none, false⟩]) (.seq (.seq (.region false [⟨some 9, .mv (.t 1), none, false⟩,
 ⟨some 10, .load true 3 (.t 3), none, false⟩,
 ⟨some 11, .bslice 3 1 (.agg [(.bool false), .nil, (.int .i64 0)]) [(0, (.t 10))], none, false⟩,
 ⟨some 12, .call (.f 235) [(.t 9), (.t 11)], none, false⟩,
 ⟨some 8, .mv (.t 12), none, false⟩]) (.seq (.region false [⟨some 13, .mv (.t 8), none, false⟩,
 ⟨some 14, .bin .num .neq (.t 13) (.c (.int .i64 0)), none, false⟩]) (.cond (.t 14) (.seq (.region false [⟨some 15, .build [(.bool false), .nil, (.int .i64 0)] [], none, false⟩,
 ⟨some 16, .mv (.t 8), none, false⟩,
 ⟨none, .store 3 (.t 6) (.t 15), none, false⟩,
 ⟨some 7, .mv (.t 16), none, false⟩]) .ret) .skip))) (.seq (.region true [⟨some 17, .faddr 0 (.t 3), none, false⟩,
 ⟨some 18, .load false 1 (.t 17), none, false⟩,
 ⟨some 19, .load true 3 (.t 3), none, false⟩,
 ⟨some 20, .call (.f 243) [(.t 19)], none, false⟩,
 ⟨some 21, .mv (.t 1), none, false⟩,
 ⟨some 22, .mv (.t 2), none, false⟩,
 ⟨some 23, .call (.f 237) [(.t 18), (.t 20), (.t 21), (.t 22)], none, true⟩,
 ⟨some 24, .extract 0 (.t 23), none, false⟩,
 ⟨some 25, .extract 1 (.t 23), none, false⟩,
 ⟨none, .store 3 (.t 6) (.t 24), none, true⟩,
 ⟨some 7, .mv (.t 25), none, false⟩]) .ret))),
 false, false⟩

/- dyadic_exponent -/
@[simp] def c_dyadic_exponent : AFn := ⟨[(.tmp 2)],
 (.seq (.region false [⟨some 2, .mv (.c (.bool false)), none, false⟩]) (.seq (.region false [⟨some 3, .mv (.t 0), none, false⟩,
 ⟨some 4, .bin .num .geq (.t 3) (.c (.int .i64 (-32768))), none, false⟩,
 ⟨some 5, .mv (.t 4), none, false⟩,
 ⟨some 6, .mv (.t 0), some (5, true), false⟩,
 ⟨some 7, .bin .num .leq (.t 6) (.c (.int .i64 32768)), some (5, true), false⟩,
 ⟨some 8, .pick (.t 5) (.t 7) (.c (.bool false)), none, false⟩,
 ⟨some 2, .mv (.t 8), none, false⟩]) .ret)),
 false, false⟩

/- dyadic_checked -/
@[simp] def c_dyadic_checked : AFn := ⟨[(.cell 2 true 3), (.tmp 3)],
 (.seq (.region false [⟨some 1, .box 3 (.t 0), none, false⟩,
 ⟨some 2, .new 3 (.agg [(.bool false), .nil, (.int .i64 0)]), none, false⟩,
 ⟨some 3, .mv (.c (.int .i64 0)), none, false⟩]) (.seq (.seq (.region false [⟨some 4, .load true 3 (.t 1), none, false⟩,
 ⟨some 5, .call (.f 78) [(.t 4)], none, false⟩,
 ⟨some 6, .un .not (.t 5), none, false⟩]) (.cond (.t 6) (.seq (.region false [⟨some 7, .build [(.bool false), .nil, (.int .i64 0)] [], none, false⟩,
 ⟨none, .store 3 (.t 2) (.t 7), none, false⟩,
 ⟨some 3, .mv (.c (.int .i64 9)), none, false⟩]) .ret) .skip)) (.seq (.region false [⟨some 8, .load true 3 (.t 1), none, false⟩,
 ⟨none, .store 3 (.t 2) (.t 8), none, false⟩,
 ⟨some 3, .mv (.c (.int .i64 0)), none, false⟩]) .ret))),
 false, false⟩

/- dyadic_canonical -/
@[simp] def c_dyadic_canonical : AFn := ⟨[(.cell 6 true 3)],
 (.seq (.region false [⟨some 6, .new 3 (.agg [(.bool false), .nil, (.int .i64 0)]), none, false⟩]) (.seq (.region false [⟨some 10, .mv (.t 1), none, false⟩,
 ⟨some 11, .call (.f 244) [(.t 10)], none, false⟩,
 ⟨some 1, .mv (.t 11), none, false⟩]) (.seq (.seq (.region false [⟨some 12, .mv (.t 1), none, false⟩,
 ⟨some 13, .len (.t 12), none, false⟩,
 ⟨some 14, .bin .num .eql (.t 13) (.c (.int .i64 0)), none, false⟩]) (.cond (.t 14) (.seq (.region false [⟨some 15, .build [(.bool false), .nil, (.int .i64 0)] [], none, false⟩,
 ⟨none, .store 3 (.t 6) (.t 15), none, false⟩]) .ret) .skip)) (.seq (.region false [⟨some 16, .mv (.t 1), none, false⟩,
 ⟨some 17, .call (.f 245) [(.t 16)], none, false⟩,
 ⟨some 7, .mv (.t 17), none, false⟩]) (.seq (.region false [⟨some 19, .mv (.t 1), none, false⟩,
 ⟨some 20, .mv (.t 7), none, false⟩,
 ⟨some 21, .call (.f 246) [(.t 19), (.t 20)], none, false⟩,
 ⟨some 18, .mv (.t 21), none, false⟩,
 ⟨some 22, .extract 0 (.t 18), none, false⟩,
 ⟨some 23, .extract 1 (.t 18), none, false⟩,
 ⟨some 8, .mv (.t 22), none, false⟩,
 ⟨some 9, .mv (.t 23), none, false⟩]) (.seq (.region false [⟨some 24, .mv (.t 0), none, false⟩,
 ⟨some 25, .mv (.t 8), none, false⟩,
 ⟨some 26, .call (.f 221) [(.t 25)], none, false⟩,
 ⟨some 27, .call (.f 119) [(.t 26)], none, false⟩,
 ⟨some 28, .mv (.t 2), none, false⟩,
 ⟨some 29, .mv (.t 7), none, false⟩,
 ⟨some 30, .bin .num .add (.t 28) (.t 29), none, false⟩,
 ⟨some 31, .build [(.bool false), .nil, (.int .i64 0)] [(0, 1, (.t 24)), (1, 1, (.t 27)), (2, 1, (.t 30))], none, false⟩,
 ⟨none, .store 3 (.t 6) (.t 31), none, false⟩]) .ret)))))),
 false, false⟩

end Go.Abs
/- MADE BY A PROGRAM (wip/tools/dump.sh, mkcode.py): the abstract code of the functions that this seat reaches. -/
namespace Go.Abs

/- round_fault -/
def c_round_fault_l0 : AC := (.seq (.region false [⟨some 10, .bin .num .lss (.t 9) (.t 8), none, false⟩]) (.seq (.cond (.t 10) .skip (.exit 0)) (.seq (.block 1 (.seq (.region false [⟨some 11, .iaddr 3 (.t 7) (.t 9), none, false⟩,
 ⟨some 12, .load true 3 (.t 11), none, false⟩,
 ⟨some 6, .new 3 (.agg [(.bool false), .nil, (.int .i64 0)]), none, false⟩,
 ⟨none, .store 3 (.t 6) (.t 12), none, false⟩]) (.seq (.region false [⟨some 13, .load true 3 (.t 6), none, false⟩,
 ⟨some 14, .call (.f 51) [(.t 13)], none, false⟩,
 ⟨some 15, .un .not (.t 14), none, false⟩]) (.cond (.t 15) (.seq (.region false [⟨some 4, .mv (.c (.int .i64 1)), none, false⟩]) .ret) .skip)))) (.region false [⟨some 16, .bin .num .add (.t 9) (.c (.int .i64 1)), none, false⟩,
 ⟨some 9, .mv (.t 16), none, false⟩]))))
@[simp] def c_round_fault : AFn := ⟨[(.tmp 4)],
 (.seq (.region false [⟨some 4, .mv (.c (.int .i64 0)), none, false⟩]) (.seq (.seq (.region false [⟨some 7, .mv (.t 1), none, false⟩,
 ⟨some 8, .len (.t 7), none, false⟩,
 ⟨some 9, .mv (.c (.int .i64 0)), none, false⟩]) (.block 0 (.loop c_round_fault_l0))) (.seq (.seq (.region false [⟨some 17, .mv (.t 0), none, false⟩,
 ⟨some 18, .call (.f 255) [(.t 17)], none, false⟩,
 ⟨some 19, .un .not (.t 18), none, false⟩]) (.cond (.t 19) (.seq (.region false [⟨some 4, .mv (.c (.int .i64 2)), none, false⟩]) .ret) .skip)) (.seq (.region false [⟨some 4, .mv (.c (.int .i64 0)), none, false⟩]) .ret)))),
 false, false⟩

/- round_sum -/
@[simp] def c_round_sum : AFn := ⟨[(.cell 6 true 3), (.tmp 7)],
 (.seq (.region false [⟨some 3, .box 3 (.t 0), none, false⟩,
 ⟨some 4, .box 3 (.t 1), none, false⟩,
 ⟨some 6, .new 3 (.agg [.nil, (.int .i64 0), (.bool false)]), none, false⟩,
 ⟨some 7, .mv (.c (.bool false)), none, false⟩]) (.seq (.region true [⟨some 18, .faddr 2 (.t 3), none, false⟩,
 ⟨some 19, .load false 1 (.t 18), none, false⟩,
 ⟨some 20, .load true 3 (.t 3), none, false⟩,
 ⟨some 21, .call (.f 98) [(.t 20)], none, false⟩,
 ⟨some 22, .mv (.t 2), none, false⟩,
 ⟨some 23, .bin .num .sub (.t 21) (.t 22), none, false⟩,
 ⟨some 24, .bin .num .sub (.t 23) (.c (.int .i64 8)), none, false⟩,
 ⟨some 25, .min (.t 19) (.t 24), none, false⟩,
 ⟨some 8, .mv (.t 25), none, false⟩]) (.seq (.seq (.region true [⟨some 26, .load true 3 (.t 3), none, false⟩,
 ⟨some 27, .call (.f 98) [(.t 26)], none, false⟩,
 ⟨some 28, .load true 3 (.t 4), none, false⟩,
 ⟨some 29, .call (.f 98) [(.t 28)], none, true⟩,
 ⟨some 30, .bin .num .sub (.t 27) (.t 29), none, false⟩,
 ⟨some 31, .bin .num .leq (.t 30) (.c (.int .i64 2)), none, false⟩]) (.cond (.t 31) (.region false [⟨some 32, .mv (.t 8), none, false⟩,
 ⟨some 33, .faddr 2 (.t 4), none, false⟩,
 ⟨some 34, .load false 1 (.t 33), none, false⟩,
 ⟨some 35, .min (.t 32) (.t 34), none, false⟩,
 ⟨some 8, .mv (.t 35), none, false⟩]) .skip)) (.seq (.region false [⟨some 36, .faddr 1 (.t 3), none, false⟩,
 ⟨some 37, .load false 1 (.t 36), none, false⟩,
 ⟨some 38, .faddr 2 (.t 3), none, false⟩,
 ⟨some 39, .load false 1 (.t 38), none, false⟩,
 ⟨some 40, .mv (.t 8), none, false⟩,
 ⟨some 41, .bin .num .sub (.t 39) (.t 40), none, false⟩,
 ⟨some 42, .call (.f 241) [(.t 37), (.t 41)], none, false⟩,
 ⟨some 9, .mv (.t 42), none, false⟩]) (.seq (.region false [⟨some 10, .mv (.c .nil), none, false⟩]) (.seq (.region false [⟨some 11, .mv (.c (.bool false)), none, false⟩]) (.seq (.seq (.region false [⟨some 43, .faddr 2 (.t 4), none, false⟩,
 ⟨some 44, .load false 1 (.t 43), none, false⟩,
 ⟨some 45, .mv (.t 8), none, false⟩,
 ⟨some 46, .bin .num .geq (.t 44) (.t 45), none, false⟩]) (.cond (.t 46) (.region false [⟨some 47, .faddr 1 (.t 4), none, false⟩,
 ⟨some 48, .load false 1 (.t 47), none, false⟩,
 ⟨some 49, .faddr 2 (.t 4), none, false⟩,
 ⟨some 50, .load false 1 (.t 49), none, false⟩,
 ⟨some 51, .mv (.t 8), none, false⟩,
 ⟨some 52, .bin .num .sub (.t 50) (.t 51), none, false⟩,
 ⟨some 53, .call (.f 241) [(.t 48), (.t 52)], none, false⟩,
 ⟨some 10, .mv (.t 53), none, false⟩]) (.region false [⟨some 55, .faddr 1 (.t 4), none, false⟩,
 ⟨some 56, .load false 1 (.t 55), none, false⟩,
 ⟨some 57, .mv (.t 8), none, false⟩,
 ⟨some 58, .faddr 2 (.t 4), none, false⟩,
 ⟨some 59, .load false 1 (.t 58), none, false⟩,
 ⟨some 60, .bin .num .sub (.t 57) (.t 59), none, false⟩,
 ⟨some 61, .call (.f 256) [(.t 56), (.t 60)], none, false⟩,
 ⟨some 54, .mv (.t 61), none, false⟩,
 ⟨some 62, .extract 0 (.t 54), none, false⟩,
 ⟨some 63, .extract 1 (.t 54), none, false⟩,
 ⟨some 10, .mv (.t 62), none, false⟩,
 ⟨some 11, .mv (.t 63), none, false⟩]))) (.seq (.seq (.region false [⟨some 64, .faddr 0 (.t 3), none, false⟩,
 ⟨some 65, .load false 1 (.t 64), none, false⟩,
 ⟨some 66, .faddr 0 (.t 4), none, false⟩,
 ⟨some 67, .load false 1 (.t 66), none, false⟩,
 ⟨some 68, .bin .bool .eql (.t 65) (.t 67), none, false⟩]) (.cond (.t 68) (.seq (.region false [⟨some 70, .mv (.t 9), none, false⟩,
 ⟨some 71, .mv (.t 10), none, false⟩,
 ⟨some 72, .call (.f 257) [(.t 70), (.t 71)], none, false⟩,
 ⟨some 69, .mv (.t 72), none, false⟩,
 ⟨some 73, .extract 0 (.t 69), none, false⟩,
 ⟨some 74, .extract 1 (.t 69), none, false⟩,
 ⟨some 12, .mv (.t 73), none, false⟩,
 ⟨some 13, .mv (.t 74), none, false⟩]) (.seq (.region false [⟨some 75, .mv (.t 12), none, false⟩,
 ⟨some 76, .mv (.t 8), none, false⟩,
 ⟨some 77, .mv (.t 11), none, false⟩,
 ⟨some 78, .build [.nil, (.int .i64 0), (.bool false)] [(0, 1, (.t 75)), (1, 1, (.t 76)), (2, 1, (.t 77))], none, false⟩,
 ⟨none, .store 3 (.t 6) (.t 78), none, false⟩,
 ⟨some 7, .mv (.c (.bool false)), none, false⟩]) .ret)) .skip)) (.seq (.seq (.region false [⟨some 79, .mv (.t 11), none, false⟩]) (.cond (.t 79) (.region false [⟨some 81, .mv (.t 10), none, false⟩,
 ⟨some 82, .bslice 1 1 (.int .u32 0) [(0, (.c (.int .u32 1)))], none, false⟩,
 ⟨some 83, .call (.f 257) [(.t 81), (.t 82)], none, false⟩,
 ⟨some 80, .mv (.t 83), none, false⟩,
 ⟨some 84, .extract 0 (.t 80), none, false⟩,
 ⟨some 85, .extract 1 (.t 80), none, false⟩,
 ⟨some 10, .mv (.t 84), none, false⟩]) .skip)) (.seq (.seq (.region false [⟨some 86, .mv (.t 9), none, false⟩,
 ⟨some 87, .mv (.t 10), none, false⟩,
 ⟨some 88, .call (.f 99) [(.t 86), (.t 87)], none, false⟩,
 ⟨some 89, .bin .num .lss (.t 88) (.c (.int .i64 0)), none, false⟩]) (.cond (.t 89) (.seq (.region false [⟨some 91, .mv (.t 10), none, false⟩,
 ⟨some 92, .mv (.t 9), none, false⟩,
 ⟨some 93, .call (.f 258) [(.t 91), (.t 92)], none, false⟩,
 ⟨some 90, .mv (.t 93), none, false⟩,
 ⟨some 94, .extract 0 (.t 90), none, false⟩,
 ⟨some 95, .extract 1 (.t 90), none, false⟩,
 ⟨some 14, .mv (.t 94), none, false⟩,
 ⟨some 15, .mv (.t 95), none, false⟩]) (.seq (.region false [⟨some 96, .mv (.t 14), none, false⟩,
 ⟨some 97, .mv (.t 8), none, false⟩,
 ⟨some 98, .build [.nil, (.int .i64 0), (.bool false)] [(0, 1, (.t 96)), (1, 1, (.t 97)), (2, 1, (.c (.bool false)))], none, false⟩,
 ⟨none, .store 3 (.t 6) (.t 98), none, false⟩,
 ⟨some 7, .mv (.c (.bool true)), none, false⟩]) .ret)) .skip)) (.seq (.region false [⟨some 100, .mv (.t 9), none, false⟩,
 ⟨some 101, .mv (.t 10), none, false⟩,
 ⟨some 102, .call (.f 258) [(.t 100), (.t 101)], none, false⟩,
 ⟨some 99, .mv (.t 102), none, false⟩,
 ⟨some 103, .extract 0 (.t 99), none, false⟩,
 ⟨some 104, .extract 1 (.t 99), none, false⟩,
 ⟨some 16, .mv (.t 103), none, false⟩,
 ⟨some 17, .mv (.t 104), none, false⟩]) (.seq (.region false [⟨some 105, .mv (.t 16), none, false⟩,
 ⟨some 106, .mv (.t 8), none, false⟩,
 ⟨some 107, .mv (.t 11), none, false⟩,
 ⟨some 108, .build [.nil, (.int .i64 0), (.bool false)] [(0, 1, (.t 105)), (1, 1, (.t 106)), (2, 1, (.t 107))], none, false⟩,
 ⟨none, .store 3 (.t 6) (.t 108), none, false⟩,
 ⟨some 7, .mv (.c (.bool false)), none, false⟩]) .ret)))))))))))),
 false, false⟩

/- round_signed -/
@[simp] def c_round_signed : AFn := ⟨[(.cell 8 true 3), (.tmp 9)],
 (.seq (.region false [⟨some 5, .box 3 (.t 1), none, false⟩,
 ⟨some 8, .new 3 (.agg [(.bool false), .nil, (.int .i64 0)]), none, false⟩,
 ⟨some 9, .mv (.c (.int .i64 0)), none, false⟩]) (.seq (.region false [⟨some 13, .load true 3 (.t 5), none, false⟩,
 ⟨some 14, .mv (.t 2), none, false⟩,
 ⟨some 15, .mv (.t 3), none, false⟩,
 ⟨some 16, .mv (.t 0), none, false⟩,
 ⟨some 17, .bin .bool .neq (.t 15) (.t 16), none, false⟩,
 ⟨some 18, .call (.f 254) [(.t 13), (.t 14), (.t 17)], none, false⟩,
 ⟨some 12, .mv (.t 18), none, false⟩,
 ⟨some 19, .extract 0 (.t 12), none, false⟩,
 ⟨some 20, .extract 1 (.t 12), none, false⟩,
 ⟨some 10, .new 3 (.agg [(.bool false), .nil, (.int .i64 0)]), none, false⟩,
 ⟨none, .store 3 (.t 10) (.t 19), none, false⟩,
 ⟨some 11, .mv (.t 20), none, false⟩]) (.seq (.seq (.region false [⟨some 21, .mv (.t 11), none, false⟩,
 ⟨some 22, .bin .num .eql (.t 21) (.c (.int .i64 0)), none, false⟩,
 ⟨some 23, .mv (.t 22), none, false⟩,
 ⟨some 24, .mv (.t 0), some (23, true), false⟩,
 ⟨some 25, .pick (.t 23) (.t 24) (.c (.bool false)), none, false⟩]) (.cond (.t 25) (.region false [⟨some 26, .load true 3 (.t 10), none, false⟩,
 ⟨some 27, .call (.f 198) [(.t 26)], none, false⟩,
 ⟨none, .store 3 (.t 10) (.t 27), none, false⟩]) .skip)) (.seq (.region false [⟨some 28, .load true 3 (.t 10), none, false⟩,
 ⟨some 29, .mv (.t 11), none, false⟩,
 ⟨none, .store 3 (.t 8) (.t 28), none, false⟩,
 ⟨some 9, .mv (.t 29), none, false⟩]) .ret)))),
 false, false⟩

/- natural_Mul -/
@[simp] def c_natural_Mul : AFn := ⟨[(.tmp 4), (.tmp 5)],
 (.seq (.region false [⟨some 4, .mv (.c .nil), none, false⟩,
 ⟨some 5, .mv (.c (.int .i64 0)), none, false⟩]) (.seq (.seq (.region false [⟨some 6, .mv (.t 0), none, false⟩,
 ⟨some 7, .mv (.t 1), none, false⟩,
 ⟨some 8, .bslice 1 2 .nil [(0, (.t 6)), (1, (.t 7))], none, false⟩,
 ⟨some 9, .call (.f 114) [(.t 8)], none, false⟩]) (.cond (.t 9) (.seq (.region false [⟨some 4, .mv (.c .nil), none, false⟩,
 ⟨some 5, .mv (.c (.int .i64 9)), none, false⟩]) .ret) .skip)) (.seq (.region false [⟨some 10, .mv (.t 0), none, false⟩,
 ⟨some 11, .call (.f 111) [(.t 10)], none, false⟩,
 ⟨some 12, .mv (.t 1), none, false⟩,
 ⟨some 13, .call (.f 111) [(.t 12)], none, false⟩,
 ⟨some 14, .call (.f 259) [(.t 11), (.t 13)], none, false⟩,
 ⟨some 15, .call (.f 115) [(.t 14)], none, false⟩,
 ⟨some 16, .extract 0 (.t 15), none, false⟩,
 ⟨some 17, .extract 1 (.t 15), none, false⟩,
 ⟨some 4, .mv (.t 16), none, false⟩,
 ⟨some 5, .mv (.t 17), none, false⟩]) .ret))),
 false, false⟩

/- dyadic_Bits -/
@[simp] def c_dyadic_Bits : AFn := ⟨[(.tmp 2)],
 (.seq (.region false [⟨some 1, .box 3 (.t 0), none, false⟩,
 ⟨some 2, .mv (.c (.int .i64 0)), none, false⟩]) (.seq (.seq (.region false [⟨some 3, .load true 3 (.t 1), none, false⟩,
 ⟨some 4, .call (.f 51) [(.t 3)], none, false⟩,
 ⟨some 5, .un .not (.t 4), none, false⟩]) (.cond (.t 5) (.seq (.region false [⟨some 2, .mv (.c (.int .i64 0)), none, false⟩]) .ret) .skip)) (.seq (.region false [⟨some 6, .faddr 1 (.t 1), none, false⟩,
 ⟨some 7, .load false 1 (.t 6), none, false⟩,
 ⟨some 8, .call (.f 97) [(.t 7)], none, false⟩,
 ⟨some 2, .mv (.t 8), none, false⟩]) .ret))),
 false, false⟩

/- natural_DivMod -/
@[simp] def c_natural_DivMod : AFn := ⟨[(.tmp 4), (.tmp 5), (.tmp 6)],
 (.seq (.region false [⟨some 4, .mv (.c .nil), none, false⟩,
 ⟨some 5, .mv (.c .nil), none, false⟩,
 ⟨some 6, .mv (.c (.int .i64 0)), none, false⟩]) (.seq (.block 0 (.seq (.region false [⟨some 10, .mv (.t 0), none, false⟩,
 ⟨some 11, .mv (.t 1), none, false⟩,
 ⟨some 12, .bslice 1 2 .nil [(0, (.t 10)), (1, (.t 11))], none, false⟩,
 ⟨some 13, .call (.f 114) [(.t 12)], none, false⟩,
 ⟨some 9, .mv (.t 13), none, false⟩]) (.cond (.t 9) (.seq (.region false [⟨some 4, .mv (.c .nil), none, false⟩,
 ⟨some 5, .mv (.c .nil), none, false⟩,
 ⟨some 6, .mv (.c (.int .i64 9)), none, false⟩]) .ret) (.seq (.region false [⟨some 15, .mv (.t 1), none, false⟩,
 ⟨some 16, .call (.f 111) [(.t 15)], none, false⟩,
 ⟨some 17, .len (.t 16), none, false⟩,
 ⟨some 18, .bin .num .eql (.t 17) (.c (.int .i64 0)), none, false⟩,
 ⟨some 14, .mv (.t 18), none, false⟩]) (.cond (.t 14) (.seq (.region false [⟨some 4, .mv (.c .nil), none, false⟩,
 ⟨some 5, .mv (.c .nil), none, false⟩,
 ⟨some 6, .mv (.c (.int .i64 10)), none, false⟩]) .ret) .skip))))) (.seq (.region false [⟨some 20, .mv (.t 0), none, false⟩,
 ⟨some 21, .mv (.t 1), none, false⟩,
 ⟨some 22, .call (.f 260) [(.t 20), (.t 21)], none, false⟩,
 ⟨some 19, .mv (.t 22), none, false⟩,
 ⟨some 23, .extract 0 (.t 19), none, false⟩,
 ⟨some 24, .extract 1 (.t 19), none, false⟩,
 ⟨some 7, .mv (.t 23), none, false⟩,
 ⟨some 8, .mv (.t 24), none, false⟩]) (.seq (.region false [⟨some 25, .mv (.t 7), none, false⟩,
 ⟨some 26, .call (.f 111) [(.t 25)], none, false⟩,
 ⟨some 27, .call (.f 119) [(.t 26)], none, false⟩,
 ⟨some 28, .mv (.t 8), none, false⟩,
 ⟨some 29, .call (.f 111) [(.t 28)], none, false⟩,
 ⟨some 30, .call (.f 119) [(.t 29)], none, false⟩,
 ⟨some 4, .mv (.t 27), none, false⟩,
 ⟨some 5, .mv (.t 30), none, false⟩,
 ⟨some 6, .mv (.c (.int .i64 0)), none, false⟩]) .ret)))),
 false, false⟩

/- round_shl -/
@[simp] def c_round_shl : AFn := ⟨[(.tmp 4)],
 (.seq (.region false [⟨some 4, .mv (.c .nil), none, false⟩]) (.seq (.region false [⟨some 8, .mv (.t 0), none, false⟩,
 ⟨some 9, .mv (.t 1), none, false⟩,
 ⟨some 10, .call (.f 112) [(.t 8), (.t 9)], none, false⟩,
 ⟨some 7, .mv (.t 10), none, false⟩,
 ⟨some 11, .extract 0 (.t 7), none, false⟩,
 ⟨some 12, .extract 1 (.t 7), none, false⟩,
 ⟨some 5, .mv (.t 11), none, false⟩,
 ⟨some 6, .mv (.t 12), none, false⟩]) (.seq (.region false [⟨some 13, .mv (.t 5), none, false⟩,
 ⟨some 4, .mv (.t 13), none, false⟩]) .ret))),
 false, false⟩

/- round_of -/
@[simp] def c_round_of : AFn := ⟨[(.cell 2 true 3)],
 (.seq (.region false [⟨some 1, .box 3 (.t 0), none, false⟩,
 ⟨some 2, .new 3 (.agg [.nil, (.int .i64 0), (.bool false)]), none, false⟩]) (.seq (.region false [⟨some 3, .faddr 1 (.t 1), none, false⟩,
 ⟨some 4, .load false 1 (.t 3), none, false⟩,
 ⟨some 5, .faddr 2 (.t 1), none, false⟩,
 ⟨some 6, .load false 1 (.t 5), none, false⟩,
 ⟨some 7, .build [.nil, (.int .i64 0), (.bool false)] [(0, 1, (.t 4)), (1, 1, (.t 6))], none, false⟩,
 ⟨none, .store 3 (.t 2) (.t 7), none, false⟩]) .ret)),
 false, false⟩

/- dyadic_trimmed -/
def c_dyadic_trimmed_l0 : AC := (.seq (.seq (.region false [⟨some 6, .mv (.t 3), none, false⟩,
 ⟨some 7, .bin .num .gtr (.t 6) (.c (.int .i64 0)), none, false⟩,
 ⟨some 8, .mv (.t 7), none, false⟩,
 ⟨some 9, .mv (.t 0), some (8, true), false⟩,
 ⟨some 10, .mv (.t 3), some (8, true), false⟩,
 ⟨some 11, .bin .num .sub (.t 10) (.c (.int .i64 1)), some (8, true), false⟩,
 ⟨some 12, .iaddr 1 (.t 9) (.t 11), some (8, true), false⟩,
 ⟨some 13, .load false 1 (.t 12), some (8, true), false⟩,
 ⟨some 14, .bin .num .eql (.t 13) (.c (.int .u32 0)), some (8, true), false⟩,
 ⟨some 15, .pick (.t 8) (.t 14) (.c (.bool false)), none, false⟩]) (.cond (.t 15) .skip (.exit 0))) (.block 1 (.region false [⟨some 16, .mv (.t 3), none, false⟩,
 ⟨some 17, .bin .num .sub (.t 16) (.c (.int .i64 1)), none, false⟩,
 ⟨some 3, .mv (.t 17), none, false⟩])))
@[simp] def c_dyadic_trimmed : AFn := ⟨[(.tmp 2)],
 (.seq (.region false [⟨some 2, .mv (.c .nil), none, false⟩]) (.seq (.region false [⟨some 4, .mv (.t 0), none, false⟩,
 ⟨some 5, .len (.t 4), none, false⟩,
 ⟨some 3, .mv (.t 5), none, false⟩]) (.seq (.block 0 (.loop c_dyadic_trimmed_l0)) (.seq (.region false [⟨some 18, .mv (.t 0), none, false⟩,
 ⟨some 19, .mv (.t 3), none, false⟩,
 ⟨some 20, .slice 1 (.t 18) none (some (.t 19)) none, none, false⟩,
 ⟨some 2, .mv (.t 20), none, false⟩]) .ret)))),
 false, false⟩

/- dyadic_low -/
def c_dyadic_low_l0 : AC := (.seq (.region false [⟨some 9, .bin .num .lss (.t 8) (.t 7), none, false⟩]) (.seq (.cond (.t 9) .skip (.exit 0)) (.seq (.block 1 (.seq (.region false [⟨some 10, .iaddr 1 (.t 6) (.t 8), none, false⟩,
 ⟨some 11, .load false 1 (.t 10), none, false⟩,
 ⟨some 5, .mv (.t 11), none, false⟩]) (.seq (.seq (.region false [⟨some 12, .mv (.t 5), none, false⟩,
 ⟨some 13, .bin .num .neq (.t 12) (.c (.int .u32 0)), none, false⟩]) (.cond (.t 13) (.seq (.region false [⟨some 14, .mv (.t 3), none, false⟩,
 ⟨some 15, .mv (.t 5), none, false⟩,
 ⟨some 16, .call (.f 261) [(.t 15)], none, false⟩,
 ⟨some 17, .bin .num .add (.t 14) (.t 16), none, false⟩,
 ⟨some 2, .mv (.t 17), none, false⟩]) .ret) .skip)) (.region false [⟨some 18, .mv (.t 3), none, false⟩,
 ⟨some 19, .bin .num .add (.t 18) (.c (.int .i64 32)), none, false⟩,
 ⟨some 3, .mv (.t 19), none, false⟩])))) (.region false [⟨some 20, .bin .num .add (.t 8) (.c (.int .i64 1)), none, false⟩,
 ⟨some 8, .mv (.t 20), none, false⟩]))))
@[simp] def c_dyadic_low : AFn := ⟨[(.tmp 2)],
 (.seq (.region false [⟨some 2, .mv (.c (.int .i64 0)), none, false⟩]) (.seq (.region false [⟨some 3, .mv (.c (.int .i64 0)), none, false⟩]) (.seq (.seq (.region false [⟨some 6, .mv (.t 0), none, false⟩,
 ⟨some 7, .len (.t 6), none, false⟩,
 ⟨some 8, .mv (.c (.int .i64 0)), none, false⟩]) (.block 0 (.loop c_dyadic_low_l0))) (.seq (.region false [⟨some 21, .mv (.t 3), none, false⟩,
 ⟨some 2, .mv (.t 21), none, false⟩]) .ret)))),
 false, false⟩

/- natural_Shr -/
@[simp] def c_natural_Shr : AFn := ⟨[(.tmp 4), (.tmp 5)],
 (.seq (.region false [⟨some 4, .mv (.c .nil), none, false⟩,
 ⟨some 5, .mv (.c (.int .i64 0)), none, false⟩]) (.seq (.block 0 (.seq (.region false [⟨some 7, .mv (.t 0), none, false⟩,
 ⟨some 8, .bslice 1 1 .nil [(0, (.t 7))], none, false⟩,
 ⟨some 9, .call (.f 114) [(.t 8)], none, false⟩,
 ⟨some 6, .mv (.t 9), none, false⟩]) (.cond (.t 6) (.seq (.region false [⟨some 4, .mv (.c .nil), none, false⟩,
 ⟨some 5, .mv (.c (.int .i64 9)), none, false⟩]) .ret) (.seq (.region false [⟨some 11, .mv (.t 1), none, false⟩,
 ⟨some 12, .bin .num .lss (.t 11) (.c (.int .i64 0)), none, false⟩,
 ⟨some 13, .mv (.t 12), none, false⟩,
 ⟨some 14, .mv (.t 1), some (13, false), false⟩,
 ⟨some 15, .bin .num .gtr (.t 14) (.c (.int .i64 65536)), some (13, false), false⟩,
 ⟨some 16, .pick (.t 13) (.c (.bool true)) (.t 15), none, false⟩,
 ⟨some 10, .mv (.t 16), none, false⟩]) (.cond (.t 10) (.seq (.region false [⟨some 4, .mv (.c .nil), none, false⟩,
 ⟨some 5, .mv (.c (.int .i64 2)), none, false⟩]) .ret) .skip))))) (.seq (.region false [⟨some 17, .mv (.t 0), none, false⟩,
 ⟨some 18, .mv (.t 1), none, false⟩,
 ⟨some 19, .call (.f 262) [(.t 17), (.t 18)], none, false⟩,
 ⟨some 20, .call (.f 115) [(.t 19)], none, false⟩,
 ⟨some 21, .extract 0 (.t 20), none, false⟩,
 ⟨some 22, .extract 1 (.t 20), none, false⟩,
 ⟨some 4, .mv (.t 21), none, false⟩,
 ⟨some 5, .mv (.t 22), none, false⟩]) .ret))),
 false, false⟩

/- round_cut -/
@[simp] def c_round_cut : AFn := ⟨[(.cell 6 true 3), (.tmp 7)],
 (.seq (.region false [⟨some 3, .box 3 (.t 0), none, false⟩,
 ⟨some 6, .new 3 (.agg [(.bool false), .nil, (.int .i64 0)]), none, false⟩,
 ⟨some 7, .mv (.c (.int .i64 0)), none, false⟩]) (.seq (.region true [⟨some 13, .faddr 1 (.t 3), none, false⟩,
 ⟨some 14, .load false 1 (.t 13), none, false⟩,
 ⟨some 15, .faddr 0 (.t 3), none, false⟩,
 ⟨some 16, .load false 1 (.t 15), none, false⟩,
 ⟨some 17, .call (.f 110) [(.t 16)], none, false⟩,
 ⟨some 18, .bin .num .add (.t 14) (.t 17), none, false⟩,
 ⟨some 19, .mv (.t 1), none, false⟩,
 ⟨some 20, .bin .num .sub (.t 18) (.t 19), none, false⟩,
 ⟨some 21, .max (.t 20) (.c (.int .i64 (-16384))), none, false⟩,
 ⟨some 8, .mv (.t 21), none, false⟩]) (.seq (.region true [⟨some 22, .faddr 0 (.t 3), none, false⟩,
 ⟨some 23, .load false 1 (.t 22), none, false⟩,
 ⟨some 24, .faddr 2 (.t 3), none, false⟩,
 ⟨some 25, .load false 1 (.t 24), none, false⟩,
 ⟨some 9, .mv (.t 23), none, false⟩,
 ⟨some 10, .mv (.t 25), none, false⟩]) (.seq (.seq (.region false [⟨some 26, .faddr 1 (.t 3), none, false⟩,
 ⟨some 27, .load false 1 (.t 26), none, false⟩,
 ⟨some 28, .mv (.t 8), none, false⟩,
 ⟨some 29, .bin .num .geq (.t 27) (.t 28), none, false⟩]) (.cond (.t 29) (.region false [⟨some 30, .faddr 0 (.t 3), none, false⟩,
 ⟨some 31, .load false 1 (.t 30), none, false⟩,
 ⟨some 32, .faddr 1 (.t 3), none, false⟩,
 ⟨some 33, .load false 1 (.t 32), none, false⟩,
 ⟨some 34, .mv (.t 8), none, false⟩,
 ⟨some 35, .bin .num .sub (.t 33) (.t 34), none, false⟩,
 ⟨some 36, .call (.f 241) [(.t 31), (.t 35)], none, false⟩,
 ⟨some 9, .mv (.t 36), none, false⟩]) (.seq (.region false [⟨some 38, .faddr 0 (.t 3), none, false⟩,
 ⟨some 39, .load false 1 (.t 38), none, false⟩,
 ⟨some 40, .mv (.t 8), none, false⟩,
 ⟨some 41, .faddr 1 (.t 3), none, false⟩,
 ⟨some 42, .load false 1 (.t 41), none, false⟩,
 ⟨some 43, .bin .num .sub (.t 40) (.t 42), none, false⟩,
 ⟨some 44, .call (.f 256) [(.t 39), (.t 43)], none, false⟩,
 ⟨some 37, .mv (.t 44), none, false⟩,
 ⟨some 45, .extract 0 (.t 37), none, false⟩,
 ⟨some 46, .extract 1 (.t 37), none, false⟩,
 ⟨some 11, .mv (.t 45), none, false⟩,
 ⟨some 12, .mv (.t 46), none, false⟩]) (.region false [⟨some 47, .mv (.t 11), none, false⟩,
 ⟨some 48, .mv (.t 10), none, false⟩,
 ⟨some 49, .mv (.t 48), none, false⟩,
 ⟨some 50, .mv (.t 12), some (49, false), false⟩,
 ⟨some 51, .pick (.t 49) (.c (.bool true)) (.t 50), none, false⟩,
 ⟨some 9, .mv (.t 47), none, false⟩,
 ⟨some 10, .mv (.t 51), none, false⟩])))) (.seq (.seq (.region false [⟨some 52, .mv (.t 2), none, false⟩,
 ⟨some 53, .mv (.t 52), none, false⟩,
 ⟨some 54, .mv (.t 10), some (53, true), false⟩,
 ⟨some 55, .pick (.t 53) (.t 54) (.c (.bool false)), none, false⟩]) (.cond (.t 55) (.region false [⟨some 57, .mv (.t 9), none, false⟩,
 ⟨some 58, .bslice 1 1 (.int .u32 0) [(0, (.c (.int .u32 1)))], none, false⟩,
 ⟨some 59, .call (.f 257) [(.t 57), (.t 58)], none, false⟩,
 ⟨some 56, .mv (.t 59), none, false⟩,
 ⟨some 60, .extract 0 (.t 56), none, false⟩,
 ⟨some 61, .extract 1 (.t 56), none, false⟩,
 ⟨some 9, .mv (.t 60), none, false⟩]) .skip)) (.seq (.seq (.region false [⟨some 62, .mv (.t 9), none, false⟩,
 ⟨some 63, .call (.f 110) [(.t 62)], none, false⟩,
 ⟨some 64, .mv (.t 8), none, false⟩,
 ⟨some 65, .bin .num .add (.t 63) (.t 64), none, false⟩,
 ⟨some 66, .bin .num .gtr (.t 65) (.c (.int .i64 16384)), none, false⟩]) (.cond (.t 66) (.seq (.seq (.region false [⟨some 67, .mv (.t 2), none, false⟩]) (.cond (.t 67) (.seq (.region false [⟨some 68, .build [(.bool false), .nil, (.int .i64 0)] [], none, false⟩,
 ⟨none, .store 3 (.t 6) (.t 68), none, false⟩,
 ⟨some 7, .mv (.c (.int .i64 9)), none, false⟩]) .ret) .skip)) (.seq (.region false [⟨some 70, .bslice 1 1 (.int .u32 0) [(0, (.c (.int .u32 1)))], none, false⟩,
 ⟨some 71, .mv (.t 1), none, false⟩,
 ⟨some 72, .call (.f 241) [(.t 70), (.t 71)], none, false⟩,
 ⟨some 73, .bslice 1 1 (.int .u32 0) [(0, (.c (.int .u32 1)))], none, false⟩,
 ⟨some 74, .call (.f 258) [(.t 72), (.t 73)], none, false⟩,
 ⟨some 69, .mv (.t 74), none, false⟩,
 ⟨some 75, .extract 0 (.t 69), none, false⟩,
 ⟨some 76, .extract 1 (.t 69), none, false⟩,
 ⟨some 9, .mv (.t 75), none, false⟩]) (.region false [⟨some 77, .mv (.t 1), none, false⟩,
 ⟨some 78, .bin .num .sub (.c (.int .i64 16384)) (.t 77), none, false⟩,
 ⟨some 8, .mv (.t 78), none, false⟩]))) .skip)) (.seq (.region false [⟨some 79, .mv (.t 9), none, false⟩,
 ⟨some 80, .mv (.t 8), none, false⟩,
 ⟨some 81, .call (.f 265) [(.c (.bool false)), (.t 79), (.t 80)], none, false⟩,
 ⟨some 82, .extract 0 (.t 81), none, false⟩,
 ⟨some 83, .extract 1 (.t 81), none, false⟩,
 ⟨none, .store 3 (.t 6) (.t 82), none, false⟩,
 ⟨some 7, .mv (.t 83), none, false⟩]) .ret))))))),
 false, false⟩

/- round_precise -/
@[simp] def c_round_precise : AFn := ⟨[(.tmp 2)],
 (.seq (.region false [⟨some 2, .mv (.c (.bool false)), none, false⟩]) (.seq (.region false [⟨some 3, .mv (.t 0), none, false⟩,
 ⟨some 4, .bin .num .geq (.t 3) (.c (.int .i64 8)), none, false⟩,
 ⟨some 5, .mv (.t 4), none, false⟩,
 ⟨some 6, .mv (.t 0), some (5, true), false⟩,
 ⟨some 7, .bin .num .leq (.t 6) (.c (.int .i64 512)), some (5, true), false⟩,
 ⟨some 8, .pick (.t 5) (.t 7) (.c (.bool false)), none, false⟩,
 ⟨some 2, .mv (.t 8), none, false⟩]) .ret)),
 false, false⟩

/- round_shr -/
@[simp] def c_round_shr : AFn := ⟨[(.tmp 4), (.tmp 5)],
 (.seq (.region false [⟨some 4, .mv (.c .nil), none, false⟩,
 ⟨some 5, .mv (.c (.bool false)), none, false⟩]) (.seq (.seq (.region false [⟨some 8, .mv (.t 1), none, false⟩,
 ⟨some 9, .mv (.t 0), none, false⟩,
 ⟨some 10, .call (.f 110) [(.t 9)], none, false⟩,
 ⟨some 11, .bin .num .gtr (.t 8) (.t 10), none, false⟩]) (.cond (.t 11) (.region false [⟨some 12, .mv (.t 0), none, false⟩,
 ⟨some 13, .call (.f 110) [(.t 12)], none, false⟩,
 ⟨some 1, .mv (.t 13), none, false⟩]) .skip)) (.seq (.region false [⟨some 15, .mv (.t 0), none, false⟩,
 ⟨some 16, .mv (.t 1), none, false⟩,
 ⟨some 17, .call (.f 246) [(.t 15), (.t 16)], none, false⟩,
 ⟨some 14, .mv (.t 17), none, false⟩,
 ⟨some 18, .extract 0 (.t 14), none, false⟩,
 ⟨some 19, .extract 1 (.t 14), none, false⟩,
 ⟨some 6, .mv (.t 18), none, false⟩,
 ⟨some 7, .mv (.t 19), none, false⟩]) (.seq (.region false [⟨some 20, .mv (.t 6), none, false⟩,
 ⟨some 21, .mv (.t 6), none, false⟩,
 ⟨some 22, .mv (.t 1), none, false⟩,
 ⟨some 23, .call (.f 241) [(.t 21), (.t 22)], none, false⟩,
 ⟨some 24, .mv (.t 0), none, false⟩,
 ⟨some 25, .call (.f 99) [(.t 23), (.t 24)], none, false⟩,
 ⟨some 26, .bin .num .neq (.t 25) (.c (.int .i64 0)), none, false⟩,
 ⟨some 4, .mv (.t 20), none, false⟩,
 ⟨some 5, .mv (.t 26), none, false⟩]) .ret)))),
 false, false⟩

/- natural_Add -/
@[simp] def c_natural_Add : AFn := ⟨[(.tmp 4), (.tmp 5)],
 (.seq (.region false [⟨some 4, .mv (.c .nil), none, false⟩,
 ⟨some 5, .mv (.c (.int .i64 0)), none, false⟩]) (.seq (.seq (.region false [⟨some 6, .mv (.t 0), none, false⟩,
 ⟨some 7, .mv (.t 1), none, false⟩,
 ⟨some 8, .bslice 1 2 .nil [(0, (.t 6)), (1, (.t 7))], none, false⟩,
 ⟨some 9, .call (.f 114) [(.t 8)], none, false⟩]) (.cond (.t 9) (.seq (.region false [⟨some 4, .mv (.c .nil), none, false⟩,
 ⟨some 5, .mv (.c (.int .i64 9)), none, false⟩]) .ret) .skip)) (.seq (.region false [⟨some 10, .mv (.t 0), none, false⟩,
 ⟨some 11, .mv (.t 1), none, false⟩,
 ⟨some 12, .call (.f 264) [(.t 10), (.t 11)], none, false⟩,
 ⟨some 13, .call (.f 115) [(.t 12)], none, false⟩,
 ⟨some 14, .extract 0 (.t 13), none, false⟩,
 ⟨some 15, .extract 1 (.t 13), none, false⟩,
 ⟨some 4, .mv (.t 14), none, false⟩,
 ⟨some 5, .mv (.t 15), none, false⟩]) .ret))),
 false, false⟩

/- natural_Sub -/
@[simp] def c_natural_Sub : AFn := ⟨[(.tmp 4), (.tmp 5)],
 (.seq (.region false [⟨some 4, .mv (.c .nil), none, false⟩,
 ⟨some 5, .mv (.c (.int .i64 0)), none, false⟩]) (.seq (.block 0 (.seq (.region false [⟨some 7, .mv (.t 0), none, false⟩,
 ⟨some 8, .mv (.t 1), none, false⟩,
 ⟨some 9, .bslice 1 2 .nil [(0, (.t 7)), (1, (.t 8))], none, false⟩,
 ⟨some 10, .call (.f 114) [(.t 9)], none, false⟩,
 ⟨some 6, .mv (.t 10), none, false⟩]) (.cond (.t 6) (.seq (.region false [⟨some 4, .mv (.c .nil), none, false⟩,
 ⟨some 5, .mv (.c (.int .i64 9)), none, false⟩]) .ret) (.seq (.region false [⟨some 12, .mv (.t 0), none, false⟩,
 ⟨some 13, .mv (.t 1), none, false⟩,
 ⟨some 14, .call (.f 99) [(.t 12), (.t 13)], none, false⟩,
 ⟨some 15, .bin .num .lss (.t 14) (.c (.int .i64 0)), none, false⟩,
 ⟨some 11, .mv (.t 15), none, false⟩]) (.cond (.t 11) (.seq (.region false [⟨some 4, .mv (.c .nil), none, false⟩,
 ⟨some 5, .mv (.c (.int .i64 2)), none, false⟩]) .ret) .skip))))) (.seq (.region false [⟨some 16, .mv (.t 0), none, false⟩,
 ⟨some 17, .mv (.t 1), none, false⟩,
 ⟨some 18, .call (.f 266) [(.t 16), (.t 17)], none, false⟩,
 ⟨some 19, .call (.f 115) [(.t 18)], none, false⟩,
 ⟨some 20, .extract 0 (.t 19), none, false⟩,
 ⟨some 21, .extract 1 (.t 19), none, false⟩,
 ⟨some 4, .mv (.t 20), none, false⟩,
 ⟨some 5, .mv (.t 21), none, false⟩]) .ret))),
 false, false⟩

/- natural_mul -/
def c_natural_mul_l0 : AC := (.seq (.region false [⟨some 28, .bin .num .lss (.t 27) (.t 26), none, false⟩]) (.seq (.cond (.t 28) .skip (.exit 2)) (.seq (.block 3 (.seq (.region false [⟨some 29, .mv (.t 27), none, false⟩,
 ⟨some 30, .iaddr 1 (.t 25) (.t 27), none, false⟩,
 ⟨some 31, .load false 1 (.t 30), none, false⟩,
 ⟨some 9, .mv (.t 29), none, false⟩,
 ⟨some 10, .mv (.t 31), none, false⟩]) (.seq (.region false [⟨some 32, .mv (.t 7), none, false⟩,
 ⟨some 33, .conv .u64 (.t 32), none, false⟩,
 ⟨some 34, .mv (.t 10), none, false⟩,
 ⟨some 35, .conv .u64 (.t 34), none, false⟩,
 ⟨some 36, .bin .num .mul (.t 33) (.t 35), none, false⟩,
 ⟨some 37, .mv (.t 5), none, false⟩,
 ⟨some 38, .mv (.t 6), none, false⟩,
 ⟨some 39, .mv (.t 9), none, false⟩,
 ⟨some 40, .bin .num .add (.t 38) (.t 39), none, false⟩,
 ⟨some 41, .iaddr 1 (.t 37) (.t 40), none, false⟩,
 ⟨some 42, .load false 1 (.t 41), none, false⟩,
 ⟨some 43, .conv .u64 (.t 42), none, false⟩,
 ⟨some 44, .bin .num .add (.t 36) (.t 43), none, false⟩,
 ⟨some 45, .mv (.t 8), none, false⟩,
 ⟨some 46, .bin .num .add (.t 44) (.t 45), none, false⟩,
 ⟨some 11, .mv (.t 46), none, false⟩]) (.region false [⟨some 47, .mv (.t 5), none, false⟩,
 ⟨some 48, .mv (.t 6), none, false⟩,
 ⟨some 49, .mv (.t 9), none, false⟩,
 ⟨some 50, .bin .num .add (.t 48) (.t 49), none, false⟩,
 ⟨some 51, .mv (.t 11), none, false⟩,
 ⟨some 52, .conv .u32 (.t 51), none, false⟩,
 ⟨some 53, .mv (.t 11), none, false⟩,
 ⟨some 54, .bin .num .shr (.t 53) (.c (.int .u64 32)), none, false⟩,
 ⟨some 55, .iaddr 1 (.t 47) (.t 50), none, false⟩,
 ⟨none, .store 1 (.t 55) (.t 52), none, false⟩,
 ⟨some 8, .mv (.t 54), none, false⟩])))) (.region false [⟨some 56, .bin .num .add (.t 27) (.c (.int .i64 1)), none, false⟩,
 ⟨some 27, .mv (.t 56), none, false⟩]))))
def c_natural_mul_l1 : AC := (.seq (.region false [⟨some 21, .bin .num .lss (.t 20) (.t 19), none, false⟩]) (.seq (.cond (.t 21) .skip (.exit 0)) (.seq (.block 1 (.seq (.region false [⟨some 22, .mv (.t 20), none, false⟩,
 ⟨some 23, .iaddr 1 (.t 18) (.t 20), none, false⟩,
 ⟨some 24, .load false 1 (.t 23), none, false⟩,
 ⟨some 6, .mv (.t 22), none, false⟩,
 ⟨some 7, .mv (.t 24), none, false⟩]) (.seq (.region false [⟨some 8, .mv (.c (.int .u64 0)), none, false⟩]) (.seq (.seq (.region false [⟨some 25, .mv (.t 1), none, false⟩,
 ⟨some 26, .len (.t 25), none, false⟩,
 ⟨some 27, .mv (.c (.int .i64 0)), none, false⟩]) (.block 2 (.loop c_natural_mul_l0))) (.region false [⟨some 57, .mv (.t 5), none, false⟩,
 ⟨some 58, .mv (.t 6), none, false⟩,
 ⟨some 59, .mv (.t 1), none, false⟩,
 ⟨some 60, .len (.t 59), none, false⟩,
 ⟨some 61, .bin .num .add (.t 58) (.t 60), none, false⟩,
 ⟨some 62, .mv (.t 8), none, false⟩,
 ⟨some 63, .conv .u32 (.t 62), none, false⟩,
 ⟨some 64, .iaddr 1 (.t 57) (.t 61), none, false⟩,
 ⟨none, .store 1 (.t 64) (.t 63), none, false⟩]))))) (.region false [⟨some 65, .bin .num .add (.t 20) (.c (.int .i64 1)), none, false⟩,
 ⟨some 20, .mv (.t 65), none, false⟩]))))
@[simp] def c_natural_mul : AFn := ⟨[(.tmp 4)],
 (.seq (.region false [⟨some 4, .mv (.c .nil), none, false⟩]) (.seq (.region false [⟨some 12, .mv (.t 0), none, false⟩,
 ⟨some 13, .len (.t 12), none, false⟩,
 ⟨some 14, .mv (.t 1), none, false⟩,
 ⟨some 15, .len (.t 14), none, false⟩,
 ⟨some 16, .bin .num .add (.t 13) (.t 15), none, false⟩,
 ⟨some 17, .mkslice 1 4 (.int .u32 0) (.t 16) (.t 16), none, false⟩,
 ⟨some 5, .mv (.t 17), none, false⟩]) (.seq (.seq (.region false [⟨some 18, .mv (.t 0), none, false⟩,
 ⟨some 19, .len (.t 18), none, false⟩,
 ⟨some 20, .mv (.c (.int .i64 0)), none, false⟩]) (.block 0 (.loop c_natural_mul_l1))) (.seq (.region false [⟨some 66, .mv (.t 5), none, false⟩,
 ⟨some 4, .mv (.t 66), none, false⟩]) .ret)))),
 false, false⟩

/- natural_divide -/
def c_natural_divide_l0 : AC := (.seq (.seq (.region false [⟨some 56, .mv (.t 9), none, false⟩,
 ⟨some 57, .len (.t 56), none, false⟩,
 ⟨some 58, .mv (.t 0), none, false⟩,
 ⟨some 59, .len (.t 58), none, false⟩,
 ⟨some 60, .bin .num .leq (.t 57) (.t 59), none, false⟩]) (.cond (.t 60) .skip (.exit 0))) (.block 1 (.region false [⟨some 61, .mv (.t 9), none, false⟩,
 ⟨some 62, .bslice 1 1 (.int .u32 0) [(0, (.c (.int .u32 0)))], none, false⟩,
 ⟨some 63, .append 1 4 (.t 61) (.t 62), none, false⟩,
 ⟨some 9, .mv (.t 63), none, false⟩])))
def c_natural_divide_l1 : AC := (.seq (.region false [⟨some 126, .bin .num .lss (.t 125) (.t 124), none, false⟩]) (.seq (.cond (.t 126) .skip (.exit 4)) (.seq (.block 5 (.seq (.region false [⟨some 127, .mv (.t 125), none, false⟩,
 ⟨some 128, .iaddr 1 (.t 123) (.t 125), none, false⟩,
 ⟨some 129, .load false 1 (.t 128), none, false⟩,
 ⟨some 16, .mv (.t 127), none, false⟩,
 ⟨some 17, .mv (.t 129), none, false⟩]) (.region false [⟨some 131, .mv (.t 9), none, false⟩,
 ⟨some 132, .mv (.t 13), none, false⟩,
 ⟨some 133, .mv (.t 16), none, false⟩,
 ⟨some 134, .bin .num .add (.t 132) (.t 133), none, false⟩,
 ⟨some 135, .mv (.t 9), none, false⟩,
 ⟨some 136, .mv (.t 13), none, false⟩,
 ⟨some 137, .mv (.t 16), none, false⟩,
 ⟨some 138, .bin .num .add (.t 136) (.t 137), none, false⟩,
 ⟨some 139, .iaddr 1 (.t 135) (.t 138), none, false⟩,
 ⟨some 140, .load false 1 (.t 139), none, false⟩,
 ⟨some 141, .mv (.t 17), none, false⟩,
 ⟨some 142, .mv (.t 15), none, false⟩,
 ⟨some 143, .call (.f 271) [(.t 140), (.t 141), (.t 142)], none, false⟩,
 ⟨some 130, .mv (.t 143), none, false⟩,
 ⟨some 144, .extract 0 (.t 130), none, false⟩,
 ⟨some 145, .extract 1 (.t 130), none, false⟩,
 ⟨some 146, .iaddr 1 (.t 131) (.t 134), none, false⟩,
 ⟨none, .store 1 (.t 146) (.t 144), none, false⟩,
 ⟨some 15, .mv (.t 145), none, false⟩]))) (.region false [⟨some 147, .bin .num .add (.t 125) (.c (.int .i64 1)), none, false⟩,
 ⟨some 125, .mv (.t 147), none, false⟩]))))
def c_natural_divide_l2 : AC := (.seq (.seq (.region false [⟨some 76, .mv (.t 13), none, false⟩,
 ⟨some 77, .bin .num .geq (.t 76) (.c (.int .i64 0)), none, false⟩]) (.cond (.t 77) .skip (.exit 2))) (.seq (.block 3 (.seq (.region true [⟨some 80, .mv (.t 9), none, false⟩,
 ⟨some 81, .mv (.t 13), none, false⟩,
 ⟨some 82, .mv (.t 11), none, false⟩,
 ⟨some 83, .bin .num .add (.t 81) (.t 82), none, false⟩,
 ⟨some 84, .iaddr 1 (.t 80) (.t 83), none, false⟩,
 ⟨some 85, .load false 1 (.t 84), none, false⟩,
 ⟨some 86, .mv (.t 9), none, false⟩,
 ⟨some 87, .mv (.t 13), none, false⟩,
 ⟨some 88, .mv (.t 11), none, false⟩,
 ⟨some 89, .bin .num .add (.t 87) (.t 88), none, false⟩,
 ⟨some 90, .bin .num .sub (.t 89) (.c (.int .i64 1)), none, false⟩,
 ⟨some 91, .iaddr 1 (.t 86) (.t 90), none, false⟩,
 ⟨some 92, .load false 1 (.t 91), none, false⟩,
 ⟨some 93, .mv (.t 9), none, false⟩,
 ⟨some 94, .mv (.t 13), none, false⟩,
 ⟨some 95, .mv (.t 11), none, false⟩,
 ⟨some 96, .bin .num .add (.t 94) (.t 95), none, false⟩,
 ⟨some 97, .bin .num .sub (.t 96) (.c (.int .i64 2)), none, false⟩,
 ⟨some 98, .iaddr 1 (.t 93) (.t 97), none, false⟩,
 ⟨some 99, .load false 1 (.t 98), none, false⟩,
 ⟨some 100, .mv (.t 10), none, false⟩,
 ⟨some 101, .mv (.t 11), none, false⟩,
 ⟨some 102, .bin .num .sub (.t 101) (.c (.int .i64 1)), none, false⟩,
 ⟨some 103, .iaddr 1 (.t 100) (.t 102), none, false⟩,
 ⟨some 104, .load false 1 (.t 103), none, false⟩,
 ⟨some 105, .mv (.t 10), none, false⟩,
 ⟨some 106, .mv (.t 11), none, false⟩,
 ⟨some 107, .bin .num .sub (.t 106) (.c (.int .i64 2)), none, false⟩,
 ⟨some 108, .iaddr 1 (.t 105) (.t 107), none, false⟩,
 ⟨some 109, .load false 1 (.t 108), none, false⟩,
 ⟨some 110, .call (.f 269) [(.t 85), (.t 92), (.t 99), (.t 104), (.t 109)], none, true⟩,
 ⟨some 14, .mv (.t 110), none, false⟩]) (.seq (.seq (.region false [⟨some 111, .mv (.t 9), none, false⟩,
 ⟨some 112, .mv (.t 13), none, false⟩,
 ⟨some 113, .mv (.t 13), none, false⟩,
 ⟨some 114, .mv (.t 11), none, false⟩,
 ⟨some 115, .bin .num .add (.t 113) (.t 114), none, false⟩,
 ⟨some 116, .bin .num .add (.t 115) (.c (.int .i64 1)), none, false⟩,
 ⟨some 117, .slice 1 (.t 111) (some (.t 112)) (some (.t 116)) none, none, false⟩,
 ⟨some 118, .mv (.t 10), none, false⟩,
 ⟨some 119, .mv (.t 14), none, false⟩,
 ⟨some 120, .call (.f 270) [(.t 117), (.t 118), (.t 119)], none, false⟩]) (.cond (.t 120) (.seq (.region false [⟨some 121, .mv (.t 14), none, false⟩,
 ⟨some 122, .bin .num .sub (.t 121) (.c (.int .u64 1)), none, false⟩,
 ⟨some 14, .mv (.t 122), none, false⟩]) (.seq (.region false [⟨some 15, .mv (.c (.int .u32 0)), none, false⟩]) (.seq (.seq (.region false [⟨some 123, .mv (.t 10), none, false⟩,
 ⟨some 124, .len (.t 123), none, false⟩,
 ⟨some 125, .mv (.c (.int .i64 0)), none, false⟩]) (.block 4 (.loop c_natural_divide_l1))) (.region false [⟨some 148, .mv (.t 9), none, false⟩,
 ⟨some 149, .mv (.t 13), none, false⟩,
 ⟨some 150, .mv (.t 11), none, false⟩,
 ⟨some 151, .bin .num .add (.t 149) (.t 150), none, false⟩,
 ⟨some 152, .iaddr 1 (.t 148) (.t 151), none, false⟩,
 ⟨some 153, .load false 1 (.t 152), none, false⟩,
 ⟨some 154, .mv (.t 15), none, false⟩,
 ⟨some 155, .bin .num .add (.t 153) (.t 154), none, false⟩,
 ⟨some 156, .iaddr 1 (.t 148) (.t 151), none, false⟩,
 ⟨none, .store 1 (.t 156) (.t 155), none, false⟩])))) .skip)) (.region false [⟨some 157, .mv (.t 12), none, false⟩,
 ⟨some 158, .mv (.t 13), none, false⟩,
 ⟨some 159, .mv (.t 14), none, false⟩,
 ⟨some 160, .conv .u32 (.t 159), none, false⟩,
 ⟨some 161, .iaddr 1 (.t 157) (.t 158), none, false⟩,
 ⟨none, .store 1 (.t 161) (.t 160), none, false⟩])))) (.region false [⟨some 78, .mv (.t 13), none, false⟩,
 ⟨some 79, .bin .num .sub (.t 78) (.c (.int .i64 1)), none, false⟩,
 ⟨some 13, .mv (.t 79), none, false⟩])))
@[simp] def c_natural_divide : AFn := ⟨[(.tmp 4), (.tmp 5)],
 (.seq (.region false [⟨some 4, .mv (.c .nil), none, false⟩,
 ⟨some 5, .mv (.c .nil), none, false⟩]) (.seq (.region false [⟨some 18, .mv (.t 0), none, false⟩,
 ⟨some 19, .call (.f 111) [(.t 18)], none, false⟩,
 ⟨some 20, .mv (.t 1), none, false⟩,
 ⟨some 21, .call (.f 111) [(.t 20)], none, false⟩,
 ⟨some 0, .mv (.t 19), none, false⟩,
 ⟨some 1, .mv (.t 21), none, false⟩]) (.seq (.seq (.region false [⟨some 22, .mv (.t 0), none, false⟩,
 ⟨some 23, .mv (.t 1), none, false⟩,
 ⟨some 24, .call (.f 99) [(.t 22), (.t 23)], none, false⟩,
 ⟨some 25, .bin .num .lss (.t 24) (.c (.int .i64 0)), none, false⟩]) (.cond (.t 25) (.seq (.region false [⟨some 26, .mv (.t 0), none, false⟩,
 ⟨some 27, .call (.f 221) [(.t 26)], none, false⟩,
 ⟨some 4, .mv (.c .nil), none, false⟩,
 ⟨some 5, .mv (.t 27), none, false⟩]) .ret) .skip)) (.seq (.seq (.region false [⟨some 28, .mv (.t 1), none, false⟩,
 ⟨some 29, .len (.t 28), none, false⟩,
 ⟨some 30, .bin .num .eql (.t 29) (.c (.int .i64 1)), none, false⟩]) (.cond (.t 30) (.seq (.region false [⟨some 32, .mv (.t 0), none, false⟩,
 ⟨some 33, .mv (.t 1), none, false⟩,
 ⟨some 34, .iaddr 1 (.t 33) (.c (.int .i64 0)), none, false⟩,
 ⟨some 35, .load false 1 (.t 34), none, false⟩,
 ⟨some 36, .call (.f 267) [(.t 32), (.t 35)], none, false⟩,
 ⟨some 31, .mv (.t 36), none, false⟩,
 ⟨some 37, .extract 0 (.t 31), none, false⟩,
 ⟨some 38, .extract 1 (.t 31), none, false⟩,
 ⟨some 6, .mv (.t 37), none, false⟩,
 ⟨some 7, .mv (.t 38), none, false⟩]) (.seq (.region false [⟨some 39, .mv (.t 6), none, false⟩,
 ⟨some 40, .mv (.t 7), none, false⟩,
 ⟨some 41, .bslice 1 1 (.int .u32 0) [(0, (.t 40))], none, false⟩,
 ⟨some 4, .mv (.t 39), none, false⟩,
 ⟨some 5, .mv (.t 41), none, false⟩]) .ret)) .skip)) (.seq (.region false [⟨some 42, .mv (.t 1), none, false⟩,
 ⟨some 43, .mv (.t 1), none, false⟩,
 ⟨some 44, .len (.t 43), none, false⟩,
 ⟨some 45, .bin .num .sub (.t 44) (.c (.int .i64 1)), none, false⟩,
 ⟨some 46, .iaddr 1 (.t 42) (.t 45), none, false⟩,
 ⟨some 47, .load false 1 (.t 46), none, false⟩,
 ⟨some 48, .call (.f 268) [(.t 47)], none, false⟩,
 ⟨some 8, .mv (.t 48), none, false⟩]) (.seq (.region false [⟨some 49, .mv (.t 0), none, false⟩,
 ⟨some 50, .mv (.t 8), none, false⟩,
 ⟨some 51, .call (.f 116) [(.t 49), (.t 50)], none, false⟩,
 ⟨some 52, .mv (.t 1), none, false⟩,
 ⟨some 53, .mv (.t 8), none, false⟩,
 ⟨some 54, .call (.f 116) [(.t 52), (.t 53)], none, false⟩,
 ⟨some 55, .call (.f 111) [(.t 54)], none, false⟩,
 ⟨some 9, .mv (.t 51), none, false⟩,
 ⟨some 10, .mv (.t 55), none, false⟩]) (.seq (.block 0 (.loop c_natural_divide_l0)) (.seq (.region false [⟨some 64, .mv (.t 10), none, false⟩,
 ⟨some 65, .len (.t 64), none, false⟩,
 ⟨some 11, .mv (.t 65), none, false⟩]) (.seq (.region false [⟨some 66, .mv (.t 9), none, false⟩,
 ⟨some 67, .len (.t 66), none, false⟩,
 ⟨some 68, .mv (.t 11), none, false⟩,
 ⟨some 69, .bin .num .sub (.t 67) (.t 68), none, false⟩,
 ⟨some 70, .mkslice 1 4 (.int .u32 0) (.t 69) (.t 69), none, false⟩,
 ⟨some 12, .mv (.t 70), none, false⟩]) (.seq (.seq (.region false [⟨some 71, .mv (.t 9), none, false⟩,
 ⟨some 72, .len (.t 71), none, false⟩,
 ⟨some 73, .mv (.t 11), none, false⟩,
 ⟨some 74, .bin .num .sub (.t 72) (.t 73), none, false⟩,
 ⟨some 75, .bin .num .sub (.t 74) (.c (.int .i64 1)), none, false⟩,
 ⟨some 13, .mv (.t 75), none, false⟩]) (.block 2 (.loop c_natural_divide_l2))) (.seq (.region false [⟨some 162, .mv (.t 12), none, false⟩,
 ⟨some 163, .mv (.t 9), none, false⟩,
 ⟨some 164, .mv (.t 11), none, false⟩,
 ⟨some 165, .slice 1 (.t 163) none (some (.t 164)) none, none, false⟩,
 ⟨some 166, .mv (.t 8), none, false⟩,
 ⟨some 167, .call (.f 262) [(.t 165), (.t 166)], none, false⟩,
 ⟨some 4, .mv (.t 162), none, false⟩,
 ⟨some 5, .mv (.t 167), none, false⟩]) .ret))))))))))),
 false, false⟩

/- math_bits_TrailingZeros32 -/
@[simp] def c_math_bits_TrailingZeros32 : AFn := ⟨[(.tmp 2)],
 (.seq (.region false [⟨some 2, .mv (.c (.int .i64 0)), none, false⟩]) (.seq (.seq (.region false [⟨some 3, .mv (.t 0), none, false⟩,
 ⟨some 4, .bin .num .eql (.t 3) (.c (.int .u32 0)), none, false⟩]) (.cond (.t 4) (.seq (.region false [⟨some 2, .mv (.c (.int .i64 32)), none, false⟩]) .ret) .skip)) (.seq (.region false [⟨some 5, .mv (.t 0), none, false⟩,
 ⟨some 6, .mv (.t 0), none, false⟩,
 ⟨some 7, .un .neg (.t 6), none, false⟩,
 ⟨some 8, .bin .num .and (.t 5) (.t 7), none, false⟩,
 ⟨some 9, .bin .num .mul (.t 8) (.c (.int .u32 125613361)), none, false⟩,
 ⟨some 10, .bin .num .shr (.t 9) (.c (.int .u64 27)), none, false⟩,
 ⟨some 11, .aiaddr 32 1 (.c (.eptr [(.int .u8 0), (.int .u8 1), (.int .u8 28), (.int .u8 2), (.int .u8 29), (.int .u8 14), (.int .u8 24), (.int .u8 3), (.int .u8 30), (.int .u8 22), (.int .u8 20), (.int .u8 15), (.int .u8 25), (.int .u8 17), (.int .u8 4), (.int .u8 8), (.int .u8 31), (.int .u8 27), (.int .u8 13), (.int .u8 23), (.int .u8 21), (.int .u8 19), (.int .u8 16), (.int .u8 7), (.int .u8 26), (.int .u8 12), (.int .u8 18), (.int .u8 6), (.int .u8 11), (.int .u8 5), (.int .u8 10), (.int .u8 9)])) (.t 10), none, false⟩,
 ⟨some 12, .load false 1 (.t 11), none, false⟩,
 ⟨some 13, .conv .i64 (.t 12), none, false⟩,
 ⟨some 2, .mv (.t 13), none, false⟩]) .ret))),
 false, false⟩

/- natural_shr -/
def c_natural_shr_l0 : AC := (.seq (.region false [⟨some 26, .bin .num .lss (.t 25) (.t 24), none, false⟩]) (.seq (.cond (.t 26) .skip (.exit 0)) (.seq (.block 1 (.seq (.region false [⟨some 27, .mv (.t 25), none, false⟩,
 ⟨some 28, .iaddr 1 (.t 23) (.t 25), none, false⟩,
 ⟨some 29, .load false 1 (.t 28), none, false⟩,
 ⟨some 6, .mv (.t 27), none, false⟩,
 ⟨some 7, .mv (.t 29), none, false⟩]) (.seq (.region false [⟨some 30, .mv (.t 7), none, false⟩,
 ⟨some 31, .conv .u64 (.t 30), none, false⟩,
 ⟨some 8, .mv (.t 31), none, false⟩]) (.seq (.seq (.region false [⟨some 32, .mv (.t 6), none, false⟩,
 ⟨some 33, .bin .num .add (.t 32) (.c (.int .i64 1)), none, false⟩,
 ⟨some 34, .mv (.t 0), none, false⟩,
 ⟨some 35, .len (.t 34), none, false⟩,
 ⟨some 36, .bin .num .lss (.t 33) (.t 35), none, false⟩]) (.cond (.t 36) (.region false [⟨some 37, .mv (.t 8), none, false⟩,
 ⟨some 38, .mv (.t 0), none, false⟩,
 ⟨some 39, .mv (.t 6), none, false⟩,
 ⟨some 40, .bin .num .add (.t 39) (.c (.int .i64 1)), none, false⟩,
 ⟨some 41, .iaddr 1 (.t 38) (.t 40), none, false⟩,
 ⟨some 42, .load false 1 (.t 41), none, false⟩,
 ⟨some 43, .conv .u64 (.t 42), none, false⟩,
 ⟨some 44, .bin .num .shl (.t 43) (.c (.int .u64 32)), none, false⟩,
 ⟨some 45, .bin .num .or (.t 37) (.t 44), none, false⟩,
 ⟨some 8, .mv (.t 45), none, false⟩]) .skip)) (.region false [⟨some 46, .mv (.t 5), none, false⟩,
 ⟨some 47, .mv (.t 6), none, false⟩,
 ⟨some 48, .mv (.t 8), none, false⟩,
 ⟨some 49, .mv (.t 1), none, false⟩,
 ⟨some 50, .bin .num .rem (.t 49) (.c (.int .i64 32)), none, false⟩,
 ⟨some 51, .bin .num .shr (.t 48) (.t 50), none, false⟩,
 ⟨some 52, .conv .u32 (.t 51), none, false⟩,
 ⟨some 53, .iaddr 1 (.t 46) (.t 47), none, false⟩,
 ⟨none, .store 1 (.t 53) (.t 52), none, false⟩]))))) (.region false [⟨some 54, .bin .num .add (.t 25) (.c (.int .i64 1)), none, false⟩,
 ⟨some 25, .mv (.t 54), none, false⟩]))))
@[simp] def c_natural_shr : AFn := ⟨[(.tmp 4)],
 (.seq (.region false [⟨some 4, .mv (.c .nil), none, false⟩]) (.seq (.region false [⟨some 9, .mv (.t 0), none, false⟩,
 ⟨some 10, .call (.f 111) [(.t 9)], none, false⟩,
 ⟨some 0, .mv (.t 10), none, false⟩]) (.seq (.seq (.region false [⟨some 11, .mv (.t 1), none, false⟩,
 ⟨some 12, .bin .num .quo (.t 11) (.c (.int .i64 32)), none, false⟩,
 ⟨some 13, .mv (.t 0), none, false⟩,
 ⟨some 14, .len (.t 13), none, false⟩,
 ⟨some 15, .bin .num .geq (.t 12) (.t 14), none, false⟩]) (.cond (.t 15) (.seq (.region false [⟨some 4, .mv (.c .nil), none, false⟩]) .ret) .skip)) (.seq (.region false [⟨some 16, .mv (.t 0), none, false⟩,
 ⟨some 17, .mv (.t 1), none, false⟩,
 ⟨some 18, .bin .num .quo (.t 17) (.c (.int .i64 32)), none, false⟩,
 ⟨some 19, .slice 1 (.t 16) (some (.t 18)) none none, none, false⟩,
 ⟨some 0, .mv (.t 19), none, false⟩]) (.seq (.region false [⟨some 20, .mv (.t 0), none, false⟩,
 ⟨some 21, .len (.t 20), none, false⟩,
 ⟨some 22, .mkslice 1 4 (.int .u32 0) (.t 21) (.t 21), none, false⟩,
 ⟨some 5, .mv (.t 22), none, false⟩]) (.seq (.seq (.region false [⟨some 23, .mv (.t 0), none, false⟩,
 ⟨some 24, .len (.t 23), none, false⟩,
 ⟨some 25, .mv (.c (.int .i64 0)), none, false⟩]) (.block 0 (.loop c_natural_shr_l0))) (.seq (.region false [⟨some 55, .mv (.t 5), none, false⟩,
 ⟨some 4, .mv (.t 55), none, false⟩]) .ret))))))),
 false, false⟩

/- natural_add -/
def c_natural_add_l0 : AC := (.seq (.region false [⟨some 24, .bin .num .lss (.t 23) (.t 22), none, false⟩]) (.seq (.cond (.t 24) .skip (.exit 0)) (.seq (.block 1 (.seq (.region false [⟨some 25, .mv (.t 23), none, false⟩,
 ⟨some 26, .iaddr 1 (.t 21) (.t 23), none, false⟩,
 ⟨some 27, .load false 1 (.t 26), none, false⟩,
 ⟨some 7, .mv (.t 25), none, false⟩,
 ⟨some 8, .mv (.t 27), none, false⟩]) (.seq (.region false [⟨some 9, .mv (.c (.int .u32 0)), none, false⟩]) (.seq (.seq (.region false [⟨some 28, .mv (.t 7), none, false⟩,
 ⟨some 29, .mv (.t 1), none, false⟩,
 ⟨some 30, .len (.t 29), none, false⟩,
 ⟨some 31, .bin .num .lss (.t 28) (.t 30), none, false⟩]) (.cond (.t 31) (.region false [⟨some 32, .mv (.t 1), none, false⟩,
 ⟨some 33, .mv (.t 7), none, false⟩,
 ⟨some 34, .iaddr 1 (.t 32) (.t 33), none, false⟩,
 ⟨some 35, .load false 1 (.t 34), none, false⟩,
 ⟨some 9, .mv (.t 35), none, false⟩]) .skip)) (.region false [⟨some 37, .mv (.t 5), none, false⟩,
 ⟨some 38, .mv (.t 7), none, false⟩,
 ⟨some 39, .mv (.t 8), none, false⟩,
 ⟨some 40, .mv (.t 9), none, false⟩,
 ⟨some 41, .mv (.t 6), none, false⟩,
 ⟨some 42, .call (.f 271) [(.t 39), (.t 40), (.t 41)], none, false⟩,
 ⟨some 36, .mv (.t 42), none, false⟩,
 ⟨some 43, .extract 0 (.t 36), none, false⟩,
 ⟨some 44, .extract 1 (.t 36), none, false⟩,
 ⟨some 45, .iaddr 1 (.t 37) (.t 38), none, false⟩,
 ⟨none, .store 1 (.t 45) (.t 43), none, false⟩,
 ⟨some 6, .mv (.t 44), none, false⟩]))))) (.region false [⟨some 46, .bin .num .add (.t 23) (.c (.int .i64 1)), none, false⟩,
 ⟨some 23, .mv (.t 46), none, false⟩]))))
@[simp] def c_natural_add : AFn := ⟨[(.tmp 4)],
 (.seq (.region false [⟨some 4, .mv (.c .nil), none, false⟩]) (.seq (.seq (.region false [⟨some 10, .mv (.t 0), none, false⟩,
 ⟨some 11, .len (.t 10), none, false⟩,
 ⟨some 12, .mv (.t 1), none, false⟩,
 ⟨some 13, .len (.t 12), none, false⟩,
 ⟨some 14, .bin .num .lss (.t 11) (.t 13), none, false⟩]) (.cond (.t 14) (.region false [⟨some 15, .mv (.t 1), none, false⟩,
 ⟨some 16, .mv (.t 0), none, false⟩,
 ⟨some 0, .mv (.t 15), none, false⟩,
 ⟨some 1, .mv (.t 16), none, false⟩]) .skip)) (.seq (.region false [⟨some 17, .mv (.t 0), none, false⟩,
 ⟨some 18, .len (.t 17), none, false⟩,
 ⟨some 19, .bin .num .add (.t 18) (.c (.int .i64 1)), none, false⟩,
 ⟨some 20, .mkslice 1 4 (.int .u32 0) (.t 19) (.t 19), none, false⟩,
 ⟨some 5, .mv (.t 20), none, false⟩]) (.seq (.region false [⟨some 6, .mv (.c (.int .u32 0)), none, false⟩]) (.seq (.seq (.region false [⟨some 21, .mv (.t 0), none, false⟩,
 ⟨some 22, .len (.t 21), none, false⟩,
 ⟨some 23, .mv (.c (.int .i64 0)), none, false⟩]) (.block 0 (.loop c_natural_add_l0))) (.seq (.region false [⟨some 47, .mv (.t 5), none, false⟩,
 ⟨some 48, .mv (.t 0), none, false⟩,
 ⟨some 49, .len (.t 48), none, false⟩,
 ⟨some 50, .mv (.t 6), none, false⟩,
 ⟨some 51, .iaddr 1 (.t 47) (.t 49), none, false⟩,
 ⟨none, .store 1 (.t 51) (.t 50), none, false⟩]) (.seq (.region false [⟨some 52, .mv (.t 5), none, false⟩,
 ⟨some 4, .mv (.t 52), none, false⟩]) .ret))))))),
 false, false⟩

/- dyadic_Make -/
@[simp] def c_dyadic_Make : AFn := ⟨[(.cell 6 true 3), (.tmp 7)],
 (.seq (.region false [⟨some 6, .new 3 (.agg [(.bool false), .nil, (.int .i64 0)]), none, false⟩,
 ⟨some 7, .mv (.c (.int .i64 0)), none, false⟩]) (.seq (.seq (.region false [⟨some 8, .mv (.t 1), none, false⟩,
 ⟨some 9, .len (.t 8), none, false⟩,
 ⟨some 10, .bin .num .gtr (.t 9) (.c (.int .i64 256)), none, false⟩,
 ⟨some 11, .mv (.t 10), none, false⟩,
 ⟨some 12, .mv (.t 2), some (11, false), false⟩,
 ⟨some 13, .call (.f 223) [(.t 12)], some (11, false), false⟩,
 ⟨some 14, .un .not (.t 13), some (11, false), false⟩,
 ⟨some 15, .pick (.t 11) (.c (.bool true)) (.t 14), none, false⟩]) (.cond (.t 15) (.seq (.region false [⟨some 16, .build [(.bool false), .nil, (.int .i64 0)] [], none, false⟩,
 ⟨none, .store 3 (.t 6) (.t 16), none, false⟩,
 ⟨some 7, .mv (.c (.int .i64 1)), none, false⟩]) .ret) .skip)) (.seq (.region false [⟨some 17, .mv (.t 0), none, false⟩,
 ⟨some 18, .mv (.t 1), none, false⟩,
 ⟨some 19, .mv (.t 2), none, false⟩,
 ⟨some 20, .call (.f 225) [(.t 17), (.t 18), (.t 19)], none, false⟩,
 ⟨some 21, .call (.f 224) [(.t 20)], none, false⟩,
 ⟨some 22, .extract 0 (.t 21), none, false⟩,
 ⟨some 23, .extract 1 (.t 21), none, false⟩,
 ⟨none, .store 3 (.t 6) (.t 22), none, false⟩,
 ⟨some 7, .mv (.t 23), none, false⟩]) .ret))),
 false, false⟩

/- natural_sub -/
def c_natural_sub_l0 : AC := (.seq (.region false [⟨some 20, .bin .num .lss (.t 19) (.t 18), none, false⟩]) (.seq (.cond (.t 20) .skip (.exit 0)) (.seq (.block 1 (.seq (.region false [⟨some 21, .mv (.t 19), none, false⟩,
 ⟨some 22, .iaddr 1 (.t 17) (.t 19), none, false⟩,
 ⟨some 23, .load false 1 (.t 22), none, false⟩,
 ⟨some 7, .mv (.t 21), none, false⟩,
 ⟨some 8, .mv (.t 23), none, false⟩]) (.seq (.region false [⟨some 9, .mv (.c (.int .u32 0)), none, false⟩]) (.seq (.seq (.region false [⟨some 24, .mv (.t 7), none, false⟩,
 ⟨some 25, .mv (.t 1), none, false⟩,
 ⟨some 26, .len (.t 25), none, false⟩,
 ⟨some 27, .bin .num .lss (.t 24) (.t 26), none, false⟩]) (.cond (.t 27) (.region false [⟨some 28, .mv (.t 1), none, false⟩,
 ⟨some 29, .mv (.t 7), none, false⟩,
 ⟨some 30, .iaddr 1 (.t 28) (.t 29), none, false⟩,
 ⟨some 31, .load false 1 (.t 30), none, false⟩,
 ⟨some 9, .mv (.t 31), none, false⟩]) .skip)) (.region false [⟨some 33, .mv (.t 5), none, false⟩,
 ⟨some 34, .mv (.t 7), none, false⟩,
 ⟨some 35, .mv (.t 8), none, false⟩,
 ⟨some 36, .mv (.t 9), none, false⟩,
 ⟨some 37, .mv (.t 6), none, false⟩,
 ⟨some 38, .call (.f 272) [(.t 35), (.t 36), (.t 37)], none, false⟩,
 ⟨some 32, .mv (.t 38), none, false⟩,
 ⟨some 39, .extract 0 (.t 32), none, false⟩,
 ⟨some 40, .extract 1 (.t 32), none, false⟩,
 ⟨some 41, .iaddr 1 (.t 33) (.t 34), none, false⟩,
 ⟨none, .store 1 (.t 41) (.t 39), none, false⟩,
 ⟨some 6, .mv (.t 40), none, false⟩]))))) (.region false [⟨some 42, .bin .num .add (.t 19) (.c (.int .i64 1)), none, false⟩,
 ⟨some 19, .mv (.t 42), none, false⟩]))))
@[simp] def c_natural_sub : AFn := ⟨[(.tmp 4)],
 (.seq (.region false [⟨some 4, .mv (.c .nil), none, false⟩]) (.seq (.region false [⟨some 10, .mv (.t 0), none, false⟩,
 ⟨some 11, .call (.f 111) [(.t 10)], none, false⟩,
 ⟨some 12, .mv (.t 1), none, false⟩,
 ⟨some 13, .call (.f 111) [(.t 12)], none, false⟩,
 ⟨some 0, .mv (.t 11), none, false⟩,
 ⟨some 1, .mv (.t 13), none, false⟩]) (.seq (.region false [⟨some 14, .mv (.t 0), none, false⟩,
 ⟨some 15, .len (.t 14), none, false⟩,
 ⟨some 16, .mkslice 1 4 (.int .u32 0) (.t 15) (.t 15), none, false⟩,
 ⟨some 5, .mv (.t 16), none, false⟩]) (.seq (.region false [⟨some 6, .mv (.c (.int .u32 0)), none, false⟩]) (.seq (.seq (.region false [⟨some 17, .mv (.t 0), none, false⟩,
 ⟨some 18, .len (.t 17), none, false⟩,
 ⟨some 19, .mv (.c (.int .i64 0)), none, false⟩]) (.block 0 (.loop c_natural_sub_l0))) (.seq (.region false [⟨some 43, .mv (.t 5), none, false⟩,
 ⟨some 4, .mv (.t 43), none, false⟩]) .ret)))))),
 false, false⟩

/- natural_short -/
def c_natural_short_l0 : AC := (.seq (.seq (.region false [⟨some 15, .mv (.t 8), none, false⟩,
 ⟨some 16, .bin .num .geq (.t 15) (.c (.int .i64 0)), none, false⟩]) (.cond (.t 16) .skip (.exit 0))) (.seq (.block 1 (.region false [⟨some 20, .mv (.t 6), none, false⟩,
 ⟨some 21, .mv (.t 8), none, false⟩,
 ⟨some 22, .mv (.t 7), none, false⟩,
 ⟨some 23, .mv (.t 0), none, false⟩,
 ⟨some 24, .mv (.t 8), none, false⟩,
 ⟨some 25, .iaddr 1 (.t 23) (.t 24), none, false⟩,
 ⟨some 26, .load false 1 (.t 25), none, false⟩,
 ⟨some 27, .mv (.t 1), none, false⟩,
 ⟨some 28, .call (.f 273) [(.t 22), (.t 26), (.t 27)], none, false⟩,
 ⟨some 19, .mv (.t 28), none, false⟩,
 ⟨some 29, .extract 0 (.t 19), none, false⟩,
 ⟨some 30, .extract 1 (.t 19), none, false⟩,
 ⟨some 31, .iaddr 1 (.t 20) (.t 21), none, false⟩,
 ⟨none, .store 1 (.t 31) (.t 29), none, false⟩,
 ⟨some 7, .mv (.t 30), none, false⟩])) (.region false [⟨some 17, .mv (.t 8), none, false⟩,
 ⟨some 18, .bin .num .sub (.t 17) (.c (.int .i64 1)), none, false⟩,
 ⟨some 8, .mv (.t 18), none, false⟩])))
@[simp] def c_natural_short : AFn := ⟨[(.tmp 4), (.tmp 5)],
 (.seq (.region false [⟨some 4, .mv (.c .nil), none, false⟩,
 ⟨some 5, .mv (.c (.int .u32 0)), none, false⟩]) (.seq (.region false [⟨some 9, .mv (.t 0), none, false⟩,
 ⟨some 10, .len (.t 9), none, false⟩,
 ⟨some 11, .mkslice 1 4 (.int .u32 0) (.t 10) (.t 10), none, false⟩,
 ⟨some 6, .mv (.t 11), none, false⟩]) (.seq (.region false [⟨some 7, .mv (.c (.int .u32 0)), none, false⟩]) (.seq (.seq (.region false [⟨some 12, .mv (.t 0), none, false⟩,
 ⟨some 13, .len (.t 12), none, false⟩,
 ⟨some 14, .bin .num .sub (.t 13) (.c (.int .i64 1)), none, false⟩,
 ⟨some 8, .mv (.t 14), none, false⟩]) (.block 0 (.loop c_natural_short_l0))) (.seq (.region false [⟨some 32, .mv (.t 6), none, false⟩,
 ⟨some 33, .mv (.t 7), none, false⟩,
 ⟨some 4, .mv (.t 32), none, false⟩,
 ⟨some 5, .mv (.t 33), none, false⟩]) .ret))))),
 false, false⟩

/- math_bits_LeadingZeros32 -/
@[simp] def c_math_bits_LeadingZeros32 : AFn := ⟨[(.tmp 2)],
 (.seq (.region false [⟨some 2, .mv (.c (.int .i64 0)), none, false⟩]) (.seq (.region false [⟨some 3, .mv (.t 0), none, false⟩,
 ⟨some 4, .call (.f 113) [(.t 3)], none, false⟩,
 ⟨some 5, .bin .num .sub (.c (.int .i64 32)) (.t 4), none, false⟩,
 ⟨some 2, .mv (.t 5), none, false⟩]) .ret)),
 false, false⟩

/- natural_guess -/
@[simp] def c_natural_guess : AFn := ⟨[(.tmp 10)],
 (.seq (.region false [⟨some 10, .mv (.c (.int .u64 0)), none, false⟩]) (.seq (.seq (.region false [⟨some 12, .mv (.t 0), none, false⟩,
 ⟨some 13, .mv (.t 3), none, false⟩,
 ⟨some 14, .bin .num .geq (.t 12) (.t 13), none, false⟩]) (.cond (.t 14) (.seq (.region false [⟨some 15, .mv (.t 0), none, false⟩,
 ⟨some 16, .mv (.t 3), none, false⟩,
 ⟨some 17, .bin .num .sub (.t 15) (.t 16), none, false⟩,
 ⟨some 18, .conv .u64 (.t 17), none, false⟩,
 ⟨some 19, .bin .num .shl (.t 18) (.c (.int .u64 32)), none, false⟩,
 ⟨some 20, .mv (.t 1), none, false⟩,
 ⟨some 21, .conv .u64 (.t 20), none, false⟩,
 ⟨some 22, .bin .num .add (.t 19) (.t 21), none, false⟩,
 ⟨some 23, .mv (.t 3), none, false⟩,
 ⟨some 24, .conv .u64 (.t 23), none, false⟩,
 ⟨some 25, .bin .num .add (.t 22) (.t 24), none, false⟩,
 ⟨some 26, .mv (.t 2), none, false⟩,
 ⟨some 27, .mv (.t 3), none, false⟩,
 ⟨some 28, .mv (.t 4), none, false⟩,
 ⟨some 29, .call (.f 274) [(.c (.int .u64 4294967295)), (.t 25), (.t 26), (.t 27), (.t 28)], none, false⟩,
 ⟨some 10, .mv (.t 29), none, false⟩]) .ret) .skip)) (.seq (.region false [⟨some 30, .mv (.t 0), none, false⟩,
 ⟨some 31, .conv .u64 (.t 30), none, false⟩,
 ⟨some 32, .bin .num .shl (.t 31) (.c (.int .u64 32)), none, false⟩,
 ⟨some 33, .mv (.t 1), none, false⟩,
 ⟨some 34, .conv .u64 (.t 33), none, false⟩,
 ⟨some 35, .bin .num .or (.t 32) (.t 34), none, false⟩,
 ⟨some 11, .mv (.t 35), none, false⟩]) (.seq (.region true [⟨some 36, .mv (.t 11), none, false⟩,
 ⟨some 37, .mv (.t 3), none, false⟩,
 ⟨some 38, .conv .u64 (.t 37), none, false⟩,
 ⟨some 39, .bin .num .quo (.t 36) (.t 38), none, false⟩,
 ⟨some 40, .mv (.t 11), none, false⟩,
 ⟨some 41, .mv (.t 3), none, false⟩,
 ⟨some 42, .conv .u64 (.t 41), none, false⟩,
 ⟨some 43, .bin .num .rem (.t 40) (.t 42), none, false⟩,
 ⟨some 44, .mv (.t 2), none, false⟩,
 ⟨some 45, .mv (.t 3), none, false⟩,
 ⟨some 46, .mv (.t 4), none, false⟩,
 ⟨some 47, .call (.f 274) [(.t 39), (.t 43), (.t 44), (.t 45), (.t 46)], none, true⟩,
 ⟨some 10, .mv (.t 47), none, false⟩]) .ret)))),
 false, false⟩

/- natural_take -/
def c_natural_take_l0 : AC := (.seq (.region false [⟨some 17, .bin .num .lss (.t 16) (.t 15), none, false⟩]) (.seq (.cond (.t 17) .skip (.exit 0)) (.seq (.block 1 (.seq (.region false [⟨some 18, .mv (.t 16), none, false⟩,
 ⟨some 19, .iaddr 1 (.t 14) (.t 16), none, false⟩,
 ⟨some 20, .load false 1 (.t 19), none, false⟩,
 ⟨some 9, .mv (.t 18), none, false⟩,
 ⟨some 10, .mv (.t 20), none, false⟩]) (.seq (.region false [⟨some 21, .mv (.t 2), none, false⟩,
 ⟨some 22, .mv (.t 10), none, false⟩,
 ⟨some 23, .conv .u64 (.t 22), none, false⟩,
 ⟨some 24, .bin .num .mul (.t 21) (.t 23), none, false⟩,
 ⟨some 25, .mv (.t 7), none, false⟩,
 ⟨some 26, .bin .num .add (.t 24) (.t 25), none, false⟩,
 ⟨some 11, .mv (.t 26), none, false⟩]) (.seq (.region false [⟨some 27, .mv (.t 11), none, false⟩,
 ⟨some 28, .bin .num .shr (.t 27) (.c (.int .u64 32)), none, false⟩,
 ⟨some 7, .mv (.t 28), none, false⟩]) (.seq (.region false [⟨some 29, .mv (.t 0), none, false⟩,
 ⟨some 30, .mv (.t 9), none, false⟩,
 ⟨some 31, .iaddr 1 (.t 29) (.t 30), none, false⟩,
 ⟨some 32, .load false 1 (.t 31), none, false⟩,
 ⟨some 33, .conv .u64 (.t 32), none, false⟩,
 ⟨some 34, .mv (.t 11), none, false⟩,
 ⟨some 35, .bin .num .and (.t 34) (.c (.int .u64 4294967295)), none, false⟩,
 ⟨some 36, .bin .num .sub (.t 33) (.t 35), none, false⟩,
 ⟨some 37, .mv (.t 8), none, false⟩,
 ⟨some 38, .bin .num .sub (.t 36) (.t 37), none, false⟩,
 ⟨some 12, .mv (.t 38), none, false⟩]) (.region false [⟨some 39, .mv (.t 0), none, false⟩,
 ⟨some 40, .mv (.t 9), none, false⟩,
 ⟨some 41, .mv (.t 12), none, false⟩,
 ⟨some 42, .conv .u32 (.t 41), none, false⟩,
 ⟨some 43, .mv (.t 12), none, false⟩,
 ⟨some 44, .bin .num .shr (.t 43) (.c (.int .u64 63)), none, false⟩,
 ⟨some 45, .iaddr 1 (.t 39) (.t 40), none, false⟩,
 ⟨none, .store 1 (.t 45) (.t 42), none, false⟩,
 ⟨some 8, .mv (.t 44), none, false⟩])))))) (.region false [⟨some 46, .bin .num .add (.t 16) (.c (.int .i64 1)), none, false⟩,
 ⟨some 16, .mv (.t 46), none, false⟩]))))
@[simp] def c_natural_take : AFn := ⟨[(.tmp 6)],
 (.seq (.region false [⟨some 6, .mv (.c (.bool false)), none, false⟩]) (.seq (.region false [⟨some 7, .mv (.c (.int .u64 0)), none, false⟩,
 ⟨some 8, .mv (.c (.int .u64 0)), none, false⟩]) (.seq (.seq (.region false [⟨some 14, .mv (.t 1), none, false⟩,
 ⟨some 15, .len (.t 14), none, false⟩,
 ⟨some 16, .mv (.c (.int .i64 0)), none, false⟩]) (.block 0 (.loop c_natural_take_l0))) (.seq (.region false [⟨some 47, .mv (.t 0), none, false⟩,
 ⟨some 48, .mv (.t 1), none, false⟩,
 ⟨some 49, .len (.t 48), none, false⟩,
 ⟨some 50, .iaddr 1 (.t 47) (.t 49), none, false⟩,
 ⟨some 51, .load false 1 (.t 50), none, false⟩,
 ⟨some 52, .conv .u64 (.t 51), none, false⟩,
 ⟨some 53, .mv (.t 7), none, false⟩,
 ⟨some 54, .bin .num .sub (.t 52) (.t 53), none, false⟩,
 ⟨some 55, .mv (.t 8), none, false⟩,
 ⟨some 56, .bin .num .sub (.t 54) (.t 55), none, false⟩,
 ⟨some 13, .mv (.t 56), none, false⟩]) (.seq (.region false [⟨some 57, .mv (.t 0), none, false⟩,
 ⟨some 58, .mv (.t 1), none, false⟩,
 ⟨some 59, .len (.t 58), none, false⟩,
 ⟨some 60, .mv (.t 13), none, false⟩,
 ⟨some 61, .conv .u32 (.t 60), none, false⟩,
 ⟨some 62, .iaddr 1 (.t 57) (.t 59), none, false⟩,
 ⟨none, .store 1 (.t 62) (.t 61), none, false⟩]) (.seq (.region false [⟨some 63, .mv (.t 13), none, false⟩,
 ⟨some 64, .bin .num .shr (.t 63) (.c (.int .u64 63)), none, false⟩,
 ⟨some 65, .bin .num .eql (.t 64) (.c (.int .u64 1)), none, false⟩,
 ⟨some 6, .mv (.t 65), none, false⟩]) .ret)))))),
 false, true⟩

/- math_bits_Add32 -/
@[simp] def c_math_bits_Add32 : AFn := ⟨[(.tmp 6), (.tmp 7)],
 (.seq (.region false [⟨some 6, .mv (.c (.int .u32 0)), none, false⟩,
 ⟨some 7, .mv (.c (.int .u32 0)), none, false⟩]) (.seq (.region false [⟨some 9, .mv (.t 0), none, false⟩,
 ⟨some 10, .conv .u64 (.t 9), none, false⟩,
 ⟨some 11, .mv (.t 1), none, false⟩,
 ⟨some 12, .conv .u64 (.t 11), none, false⟩,
 ⟨some 13, .bin .num .add (.t 10) (.t 12), none, false⟩,
 ⟨some 14, .mv (.t 2), none, false⟩,
 ⟨some 15, .conv .u64 (.t 14), none, false⟩,
 ⟨some 16, .bin .num .add (.t 13) (.t 15), none, false⟩,
 ⟨some 8, .mv (.t 16), none, false⟩]) (.seq (.region false [⟨some 17, .mv (.t 8), none, false⟩,
 ⟨some 18, .conv .u32 (.t 17), none, false⟩,
 ⟨some 6, .mv (.t 18), none, false⟩]) (.seq (.region false [⟨some 19, .mv (.t 8), none, false⟩,
 ⟨some 20, .bin .num .shr (.t 19) (.c (.int .u64 32)), none, false⟩,
 ⟨some 21, .conv .u32 (.t 20), none, false⟩,
 ⟨some 7, .mv (.t 21), none, false⟩]) .ret)))),
 false, false⟩

/- math_bits_Sub32 -/
@[simp] def c_math_bits_Sub32 : AFn := ⟨[(.tmp 6), (.tmp 7)],
 (.seq (.region false [⟨some 6, .mv (.c (.int .u32 0)), none, false⟩,
 ⟨some 7, .mv (.c (.int .u32 0)), none, false⟩]) (.seq (.region false [⟨some 8, .mv (.t 0), none, false⟩,
 ⟨some 9, .mv (.t 1), none, false⟩,
 ⟨some 10, .bin .num .sub (.t 8) (.t 9), none, false⟩,
 ⟨some 11, .mv (.t 2), none, false⟩,
 ⟨some 12, .bin .num .sub (.t 10) (.t 11), none, false⟩,
 ⟨some 6, .mv (.t 12), none, false⟩]) (.seq (.region false [⟨some 13, .mv (.t 0), none, false⟩,
 ⟨some 14, .un .xor (.t 13), none, false⟩,
 ⟨some 15, .mv (.t 1), none, false⟩,
 ⟨some 16, .bin .num .and (.t 14) (.t 15), none, false⟩,
 ⟨some 17, .mv (.t 0), none, false⟩,
 ⟨some 18, .mv (.t 1), none, false⟩,
 ⟨some 19, .bin .num .xor (.t 17) (.t 18), none, false⟩,
 ⟨some 20, .un .xor (.t 19), none, false⟩,
 ⟨some 21, .mv (.t 6), none, false⟩,
 ⟨some 22, .bin .num .and (.t 20) (.t 21), none, false⟩,
 ⟨some 23, .bin .num .or (.t 16) (.t 22), none, false⟩,
 ⟨some 24, .bin .num .shr (.t 23) (.c (.int .u64 31)), none, false⟩,
 ⟨some 7, .mv (.t 24), none, false⟩]) .ret))),
 false, false⟩

/- math_bits_Div32 -/
@[simp] def c_math_bits_Div32 : AFn := ⟨[(.tmp 6), (.tmp 7)],
 (.seq (.region false [⟨some 6, .mv (.c (.int .u32 0)), none, false⟩,
 ⟨some 7, .mv (.c (.int .u32 0)), none, false⟩]) (.seq (.seq (.region false [⟨some 9, .mv (.t 2), none, false⟩,
 ⟨some 10, .bin .num .neq (.t 9) (.c (.int .u32 0)), none, false⟩,
 ⟨some 11, .mv (.t 10), none, false⟩,
 ⟨some 12, .mv (.t 2), some (11, true), false⟩,
 ⟨some 13, .mv (.t 0), some (11, true), false⟩,
 ⟨some 14, .bin .num .leq (.t 12) (.t 13), some (11, true), false⟩,
 ⟨some 15, .pick (.t 11) (.t 14) (.c (.bool false)), none, false⟩]) (.cond (.t 15) .stop .skip)) (.seq (.region false [⟨some 17, .mv (.t 0), none, false⟩,
 ⟨some 18, .conv .u64 (.t 17), none, false⟩,
 ⟨some 19, .bin .num .shl (.t 18) (.c (.int .u64 32)), none, false⟩,
 ⟨some 20, .mv (.t 1), none, false⟩,
 ⟨some 21, .conv .u64 (.t 20), none, false⟩,
 ⟨some 22, .bin .num .or (.t 19) (.t 21), none, false⟩,
 ⟨some 8, .mv (.t 22), none, false⟩]) (.seq (.region true [⟨some 23, .mv (.t 8), none, false⟩,
 ⟨some 24, .mv (.t 2), none, false⟩,
 ⟨some 25, .conv .u64 (.t 24), none, false⟩,
 ⟨some 26, .bin .num .quo (.t 23) (.t 25), none, false⟩,
 ⟨some 27, .conv .u32 (.t 26), none, false⟩,
 ⟨some 28, .mv (.t 8), none, false⟩,
 ⟨some 29, .mv (.t 2), none, false⟩,
 ⟨some 30, .conv .u64 (.t 29), none, false⟩,
 ⟨some 31, .bin .num .rem (.t 28) (.t 30), none, false⟩,
 ⟨some 32, .conv .u32 (.t 31), none, false⟩,
 ⟨some 6, .mv (.t 27), none, false⟩,
 ⟨some 7, .mv (.t 32), none, false⟩]) .ret)))),
 false, false⟩

/- natural_digit -/
def c_natural_digit_l0 : AC := (.seq (.seq (.region false [⟨some 11, .mv (.t 1), none, false⟩,
 ⟨some 12, .bin .num .lss (.t 11) (.c (.int .u64 4294967296)), none, false⟩,
 ⟨some 13, .mv (.t 12), none, false⟩,
 ⟨some 14, .mv (.t 0), some (13, true), false⟩,
 ⟨some 15, .mv (.t 4), some (13, true), false⟩,
 ⟨some 16, .conv .u64 (.t 15), some (13, true), false⟩,
 ⟨some 17, .bin .num .mul (.t 14) (.t 16), some (13, true), false⟩,
 ⟨some 18, .mv (.t 1), some (13, true), false⟩,
 ⟨some 19, .bin .num .shl (.t 18) (.c (.int .u64 32)), some (13, true), false⟩,
 ⟨some 20, .mv (.t 2), some (13, true), false⟩,
 ⟨some 21, .conv .u64 (.t 20), some (13, true), false⟩,
 ⟨some 22, .bin .num .or (.t 19) (.t 21), some (13, true), false⟩,
 ⟨some 23, .bin .num .gtr (.t 17) (.t 22), some (13, true), false⟩,
 ⟨some 24, .pick (.t 13) (.t 23) (.c (.bool false)), none, false⟩]) (.cond (.t 24) .skip (.exit 0))) (.block 1 (.seq (.region false [⟨some 25, .mv (.t 0), none, false⟩,
 ⟨some 26, .bin .num .sub (.t 25) (.c (.int .u64 1)), none, false⟩,
 ⟨some 0, .mv (.t 26), none, false⟩]) (.region false [⟨some 27, .mv (.t 1), none, false⟩,
 ⟨some 28, .mv (.t 3), none, false⟩,
 ⟨some 29, .conv .u64 (.t 28), none, false⟩,
 ⟨some 30, .bin .num .add (.t 27) (.t 29), none, false⟩,
 ⟨some 1, .mv (.t 30), none, false⟩]))))
@[simp] def c_natural_digit : AFn := ⟨[(.tmp 10)],
 (.seq (.region false [⟨some 10, .mv (.c (.int .u64 0)), none, false⟩]) (.seq (.block 0 (.loop c_natural_digit_l0)) (.seq (.region false [⟨some 31, .mv (.t 0), none, false⟩,
 ⟨some 10, .mv (.t 31), none, false⟩]) .ret))),
 false, false⟩

end Go.Abs
/- MADE BY A PROGRAM (wip/tools/mkcode.py): our numbers of the functions, and the program. -/
namespace Go.Abs

abbrev g_fpref02_Valid : Nat := 12
abbrev g_fpref02_Cmp : Nat := 18
abbrev g_fpref02_Equal : Nat := 23
abbrev g_fpref02_bits : Nat := 49
abbrev g_dyadic_Valid : Nat := 51
abbrev g_dyadic_Cmp : Nat := 52
abbrev g_fpref02_Sign : Nat := 54
abbrev g_fpref02_Top : Nat := 55
abbrev g_fpref02_Sum : Nat := 56
abbrev g_fpref02_Neg : Nat := 57
abbrev g_fpref05_Equal : Nat := 60
abbrev g_fpref02_compare : Nat := 63
abbrev g_fpref02_Int : Nat := 74
abbrev g_interval_Valid : Nat := 77
abbrev g_dyadic_inRange : Nat := 78
abbrev g_dyadic_Sign : Nat := 79
abbrev g_dyadic_compare : Nat := 80
abbrev g_fpref02_left : Nat := 84
abbrev g_fpref02_Of : Nat := 85
abbrev g_fpref02_plus : Nat := 86
abbrev g_fpref02_minus : Nat := 87
abbrev g_interval_Valid_1 : Nat := 96
abbrev g_dyadic_size : Nat := 97
abbrev g_dyadic_Top : Nat := 98
abbrev g_natural_Cmp : Nat := 99
abbrev g_dyadic_shifted : Nat := 100
abbrev g_fpref02_trim : Nat := 101
abbrev g_fpref02_zeros : Nat := 102
abbrev g_fpref02_right : Nat := 103
abbrev g_interval_more : Nat := 104
abbrev g_interval_less : Nat := 105
abbrev g_interval_known : Nat := 106
abbrev g_interval_Whole : Nat := 107
abbrev g_natural_Bits : Nat := 110
abbrev g_natural_trim : Nat := 111
abbrev g_natural_Shl : Nat := 112
abbrev g_math_bits_Len32 : Nat := 113
abbrev g_natural_long : Nat := 114
abbrev g_natural_done : Nat := 115
abbrev g_natural_shl : Nat := 116
abbrev g_slices_ContainsFunc_uint32s : Nat := 117
abbrev g_natural_long_1 : Nat := 118
abbrev g_slices_Clip_uint32 : Nat := 119
abbrev g_slices_IndexFunc_uint32s : Nat := 120
abbrev g_fplaw05_IntervalContains : Nat := 121
abbrev g_fplaw05_awake : Nat := 132
abbrev g_interval_Has : Nat := 133
abbrev g_fplaw05_IntervalContains_1 : Nat := 134
abbrev g_fpref02_Add : Nat := 135
abbrev g_fpref02_Sub : Nat := 136
abbrev g_fpref02_Mul : Nat := 137
abbrev g_interval_Add : Nat := 138
abbrev g_interval_Sub : Nat := 139
abbrev g_interval_Mul : Nat := 140
abbrev g_interval_Square : Nat := 141
abbrev g_interval_Div : Nat := 142
abbrev g_fplaw05_same : Nat := 144
abbrev g_interval_Neg : Nat := 147
abbrev g_interval_Abs : Nat := 156
abbrev g_interval_Mag : Nat := 164
abbrev g_interval_Mig : Nat := 165
abbrev g_interval_Sign : Nat := 173
abbrev g_fplaw05_of : Nat := 180
abbrev g_fpref02_Scale : Nat := 182
abbrev g_fplaw05_n : Nat := 183
abbrev g_fpref02_Checked : Nat := 184
abbrev g_fpref02_Product : Nat := 185
abbrev g_interval_permitted : Nat := 186
abbrev g_round_AddDown : Nat := 187
abbrev g_round_AddUp : Nat := 188
abbrev g_interval_made : Nat := 189
abbrev g_interval_four : Nat := 190
abbrev g_round_MulDown : Nat := 191
abbrev g_round_MulUp : Nat := 192
abbrev g_round_DivDown : Nat := 193
abbrev g_round_DivUp : Nat := 194
abbrev g_dyadic_Neg : Nat := 198
abbrev g_dyadic_Abs : Nat := 205
abbrev g_fpref02_exponent : Nat := 214
abbrev g_fpref02_times : Nat := 215
abbrev g_round_add : Nat := 216
abbrev g_round_mul : Nat := 217
abbrev g_round_div : Nat := 218
abbrev g_slices_Clone_uint32 : Nat := 221
abbrev g_round_round : Nat := 222
abbrev g_dyadic_exponent : Nat := 223
abbrev g_dyadic_checked : Nat := 224
abbrev g_dyadic_canonical : Nat := 225
abbrev g_round_fault : Nat := 235
abbrev g_round_sum : Nat := 236
abbrev g_round_signed : Nat := 237
abbrev g_natural_Mul : Nat := 238
abbrev g_dyadic_Bits : Nat := 239
abbrev g_natural_DivMod : Nat := 240
abbrev g_round_shl : Nat := 241
abbrev g_round_of : Nat := 243
abbrev g_dyadic_trimmed : Nat := 244
abbrev g_dyadic_low : Nat := 245
abbrev g_natural_Shr : Nat := 246
abbrev g_round_cut : Nat := 254
abbrev g_round_precise : Nat := 255
abbrev g_round_shr : Nat := 256
abbrev g_natural_Add : Nat := 257
abbrev g_natural_Sub : Nat := 258
abbrev g_natural_mul : Nat := 259
abbrev g_natural_divide : Nat := 260
abbrev g_math_bits_TrailingZeros32 : Nat := 261
abbrev g_natural_shr : Nat := 262
abbrev g_natural_add : Nat := 264
abbrev g_dyadic_Make : Nat := 265
abbrev g_natural_sub : Nat := 266
abbrev g_natural_short : Nat := 267
abbrev g_math_bits_LeadingZeros32 : Nat := 268
abbrev g_natural_guess : Nat := 269
abbrev g_natural_take : Nat := 270
abbrev g_math_bits_Add32 : Nat := 271
abbrev g_math_bits_Sub32 : Nat := 272
abbrev g_math_bits_Div32 : Nat := 273
abbrev g_natural_digit : Nat := 274

def fnList : List (Nat × AFn) :=
 [(12, c_fpref02_Valid),
  (18, c_fpref02_Cmp),
  (23, c_fpref02_Equal),
  (49, c_fpref02_bits),
  (51, c_dyadic_Valid),
  (52, c_dyadic_Cmp),
  (54, c_fpref02_Sign),
  (55, c_fpref02_Top),
  (56, c_fpref02_Sum),
  (57, c_fpref02_Neg),
  (60, c_fpref05_Equal),
  (63, c_fpref02_compare),
  (74, c_fpref02_Int),
  (77, c_interval_Valid),
  (78, c_dyadic_inRange),
  (79, c_dyadic_Sign),
  (80, c_dyadic_compare),
  (84, c_fpref02_left),
  (85, c_fpref02_Of),
  (86, c_fpref02_plus),
  (87, c_fpref02_minus),
  (96, c_interval_Valid_1),
  (97, c_dyadic_size),
  (98, c_dyadic_Top),
  (99, c_natural_Cmp),
  (100, c_dyadic_shifted),
  (101, c_fpref02_trim),
  (102, c_fpref02_zeros),
  (103, c_fpref02_right),
  (104, c_interval_more),
  (105, c_interval_less),
  (106, c_interval_known),
  (107, c_interval_Whole),
  (110, c_natural_Bits),
  (111, c_natural_trim),
  (112, c_natural_Shl),
  (113, c_math_bits_Len32),
  (114, c_natural_long),
  (115, c_natural_done),
  (116, c_natural_shl),
  (117, c_slices_ContainsFunc_uint32s),
  (118, c_natural_long_1),
  (119, c_slices_Clip_uint32),
  (120, c_slices_IndexFunc_uint32s),
  (121, c_fplaw05_IntervalContains),
  (132, c_fplaw05_awake),
  (133, c_interval_Has),
  (134, c_fplaw05_IntervalContains_1),
  (135, c_fpref02_Add),
  (136, c_fpref02_Sub),
  (137, c_fpref02_Mul),
  (138, c_interval_Add),
  (139, c_interval_Sub),
  (140, c_interval_Mul),
  (141, c_interval_Square),
  (142, c_interval_Div),
  (144, c_fplaw05_same),
  (147, c_interval_Neg),
  (156, c_interval_Abs),
  (164, c_interval_Mag),
  (165, c_interval_Mig),
  (173, c_interval_Sign),
  (180, c_fplaw05_of),
  (182, c_fpref02_Scale),
  (183, c_fplaw05_n),
  (184, c_fpref02_Checked),
  (185, c_fpref02_Product),
  (186, c_interval_permitted),
  (187, c_round_AddDown),
  (188, c_round_AddUp),
  (189, c_interval_made),
  (190, c_interval_four),
  (191, c_round_MulDown),
  (192, c_round_MulUp),
  (193, c_round_DivDown),
  (194, c_round_DivUp),
  (198, c_dyadic_Neg),
  (205, c_dyadic_Abs),
  (214, c_fpref02_exponent),
  (215, c_fpref02_times),
  (216, c_round_add),
  (217, c_round_mul),
  (218, c_round_div),
  (221, c_slices_Clone_uint32),
  (222, c_round_round),
  (223, c_dyadic_exponent),
  (224, c_dyadic_checked),
  (225, c_dyadic_canonical),
  (235, c_round_fault),
  (236, c_round_sum),
  (237, c_round_signed),
  (238, c_natural_Mul),
  (239, c_dyadic_Bits),
  (240, c_natural_DivMod),
  (241, c_round_shl),
  (243, c_round_of),
  (244, c_dyadic_trimmed),
  (245, c_dyadic_low),
  (246, c_natural_Shr),
  (254, c_round_cut),
  (255, c_round_precise),
  (256, c_round_shr),
  (257, c_natural_Add),
  (258, c_natural_Sub),
  (259, c_natural_mul),
  (260, c_natural_divide),
  (261, c_math_bits_TrailingZeros32),
  (262, c_natural_shr),
  (264, c_natural_add),
  (265, c_dyadic_Make),
  (266, c_natural_sub),
  (267, c_natural_short),
  (268, c_math_bits_LeadingZeros32),
  (269, c_natural_guess),
  (270, c_natural_take),
  (271, c_math_bits_Add32),
  (272, c_math_bits_Sub32),
  (273, c_math_bits_Div32),
  (274, c_natural_digit)]

end Go.Abs
/- Rules to find out what abstract code does: total correctness, backward, no loop without a measure. -/
namespace Go.Abs

section
variable {S : AProg}

def WC (S : AProg) (n0 : Nat) (c : AC) (E : Env) (H : Heap) (Q : AX → Env → Heap → Prop) : Prop :=
 ∃ x E1 H1, Ev S (.code n0 c E H) (.cd x E1 H1) ∧ Q x E1 H1

def WO (S : AProg) (n0 : Nat) (d : Bool) (l : List AOper) (E : Env) (H : Heap) (Q : Env → Heap → Prop) : Prop :=
 ∃ E1 H1, Ev S (.ops n0 d l E H) (.cd .normal E1 H1) ∧ Q E1 H1

def CT (S : AProg) (g : Nat) (args : List V) (H : Heap) (Q : V → Heap → Prop) : Prop :=
 ∃ v H1, Ev S (.call g args H) (.ret v H1) ∧ Q v H1

/-- The everyday contract: the answer, and nothing else has turned. -/
def CQ (S : AProg) (g : Nat) (args : List V) (v : V) : Prop := ∀ H, Ev S (.call g args H) (.ret v H)

variable {n0 : Nat} {E : Env} {H : Heap} {Q : AX → Env → Heap → Prop} {R : Env → Heap → Prop} {d : Bool}

theorem WC.mono {c : AC} {Q' : AX → Env → Heap → Prop} (h : WC S n0 c E H Q) (hq : ∀ x E H, Q x E H → Q' x E H) : WC S n0 c E H Q' :=
 let ⟨x, E1, H1, e, q⟩ := h; ⟨x, E1, H1, e, hq _ _ _ q⟩

theorem WO.mono {l : List AOper} {R' : Env → Heap → Prop} (h : WO S n0 d l E H R) (hq : ∀ E H, R E H → R' E H) : WO S n0 d l E H R' :=
 let ⟨E1, H1, e, q⟩ := h; ⟨E1, H1, e, hq _ _ q⟩

theorem CT.mono {g : Nat} {args : List V} {Q Q' : V → Heap → Prop} (h : CT S g args H Q) (hq : ∀ v H, Q v H → Q' v H) : CT S g args H Q' :=
 let ⟨v, H1, e, q⟩ := h; ⟨v, H1, e, hq _ _ q⟩

theorem WC_skip (h : Q .normal E H) : WC S n0 .skip E H Q := ⟨_, _, _, .skip, h⟩
theorem WC_exit {id : Nat} (h : Q (.exit id) E H) : WC S n0 (.exit id) E H Q := ⟨_, _, _, .exit, h⟩
theorem WC_ret (h : Q .ret E H) : WC S n0 .ret E H Q := ⟨_, _, _, .ret, h⟩

def AX.thn (K : Env → Heap → Prop) (Q : AX → Env → Heap → Prop) : AX → Env → Heap → Prop
 | .normal, E, H => K E H
 | x, E, H => Q x E H

theorem WC_seq {a b : AC} (h : WC S n0 a E H (AX.thn (fun E H => WC S n0 b E H Q) Q)) : WC S n0 (.seq a b) E H Q := by
 obtain ⟨x, E1, H1, e, q⟩ := h
 cases x with
 | normal => obtain ⟨y, E2, H2, e2, q2⟩ := q; exact ⟨y, E2, H2, .seqN e e2, q2⟩
 | exit id => exact ⟨_, _, _, .seqX e (by simp), q⟩
 | ret => exact ⟨_, _, _, .seqX e (by simp), q⟩

theorem WC_cond {c : X} {a b : AC} {t : Bool} (hc : getX E c = .bool t) (h1 : t = true → WC S n0 a E H Q) (h2 : t = false → WC S n0 b E H Q) : WC S n0 (.cond c a b) E H Q := by
 cases t with
 | true => obtain ⟨x, E1, H1, e, q⟩ := h1 rfl; exact ⟨x, E1, H1, .cond hc (by simpa using e), q⟩
 | false => obtain ⟨x, E1, H1, e, q⟩ := h2 rfl; exact ⟨x, E1, H1, .cond hc (by simpa using e), q⟩

theorem WC_true {c : X} {a b : AC} (hc : getX E c = .bool true) (h : WC S n0 a E H Q) : WC S n0 (.cond c a b) E H Q := WC_cond hc (fun _ => h) (by simp)
theorem WC_false {c : X} {a b : AC} (hc : getX E c = .bool false) (h : WC S n0 b E H Q) : WC S n0 (.cond c a b) E H Q := WC_cond hc (by simp) (fun _ => h)

theorem WC_block {id : Nat} {c : AC} (h : WC S n0 c E H (fun x E H => Q (x.outOf id) E H)) : WC S n0 (.block id c) E H Q := by
 obtain ⟨x, E1, H1, e, q⟩ := h
 exact ⟨_, _, _, .block e, q⟩

theorem WC_region {l : List AOper} (h : WO S n0 d l E H (fun E H => Q .normal E H)) : WC S n0 (.region d l) E H Q := by
 obtain ⟨E1, H1, e, q⟩ := h
 exact ⟨_, _, _, .region e, q⟩

theorem WC_loop {c : AC} (I : Nat → Env → Heap → Prop) (k : Nat) (h0 : I k E H)
   (round : ∀ k E H, I k E H → WC S n0 c E H (AX.thn (fun E1 H1 => ∃ j, j < k ∧ I j E1 H1) Q)) : WC S n0 (.loop c) E H Q := by
 induction k using Nat.strongRecOn generalizing E H with
 | _ k ih =>
   obtain ⟨x, E1, H1, e, q⟩ := round k E H h0
   cases x with
   | normal =>
     obtain ⟨j, hj, hI⟩ := q
     obtain ⟨y, E2, H2, e2, q2⟩ := ih j hj hI
     exact ⟨y, E2, H2, .loopN e e2, q2⟩
   | exit id => exact ⟨_, _, _, .loopX e (by simp), q⟩
   | ret => exact ⟨_, _, _, .loopX e (by simp), q⟩

theorem WO_nil (h : R E H) : WO S n0 d [] E H R := ⟨_, _, .opNil, h⟩

/-- The rest of a region, standing at a call: nothing is done before a contract is offered. -/
def WOcall (S : AProg) (n0 : Nat) (d : Bool) (dst : Option Nat) (x : X) (xs : List X) (gu : Option (Nat × Bool)) (sy : Bool) (l : List AOper) (E : Env) (H : Heap) (R : Env → Heap → Prop) : Prop :=
 WO S n0 d (⟨dst, .call x xs, gu, sy⟩ :: l) E H R

/-- What an operation comes to. -/
def stepP (S : AProg) (n0 : Nat) (d : Bool) (dst : Option Nat) (op : AOp) (gu : Option (Nat × Bool)) (sy : Bool) (l : List AOper) (E : Env) (H : Heap) (R : Env → Heap → Prop) : Prop :=
 match gd ⟨dst, op, gu, sy⟩ E with
 | some false => WO S n0 d l (put E dst .undef) H R
 | some true =>
   match op with
   | .call x xs => WOcall S n0 d dst x xs none sy l E H R
   | op =>
     match stp n0 op E H with
     | some (v, H1) => ((d && !sy) = true → H <+: H1) ∧ WO S n0 d l (put E dst v) H1 R
     | none => False
 | none => False

theorem WO_cons {dst : Option Nat} {op : AOp} {gu : Option (Nat × Bool)} {sy : Bool} {l : List AOper} (h : stepP S n0 d dst op gu sy l E H R) : WO S n0 d (⟨dst, op, gu, sy⟩ :: l) E H R := by
 unfold stepP at h
 split at h
 · rename_i hg
   obtain ⟨E1, H1, e, q⟩ := h
   exact ⟨_, _, .opSkip hg e, q⟩
 · rename_i hg
   split at h
   · obtain ⟨E1, H1, e, q⟩ := h
     refine ⟨E1, H1, ?_, q⟩
     cases e with
     | opSkip hg' _ => simp [gd] at hg'
     | opDo _ hs _ _ => cases hs
     | opCall _ ho hx hp e1 hpre e2 => exact .opCall hg ho hx hp e1 hpre e2
   · split at h
     · rename_i v H1 hs
       obtain ⟨hp, E1, H2, e, q⟩ := h
       exact ⟨_, _, .opDo hg hs (fun hd hsy => hp (by simp [hd]; simpa using hsy)) e, q⟩
     · exact h.elim
 · exact h.elim

theorem WO_iff {dst : Option Nat} {op : AOp} {gu : Option (Nat × Bool)} {sy : Bool} {l : List AOper} : WO S n0 d (⟨dst, op, gu, sy⟩ :: l) E H R ↔ stepP S n0 d dst op gu sy l E H R := by
 refine ⟨fun h => ?_, WO_cons⟩
 obtain ⟨E1, H1, e, q⟩ := h
 unfold stepP
 cases e with
 | opSkip hg e1 => rw [hg]; exact ⟨_, _, e1, q⟩
 | opDo hg hs hp e1 =>
   rw [hg]
   cases op <;> first
     | (cases hs; done)
     | (simp only [] at hs ⊢; rw [hs]; exact ⟨fun h => by simp at h; exact hp h.1 h.2, _, _, e1, q⟩)
 | opCall hg ho hx hp e1 hpre e2 =>
   simp only [] at ho
   subst ho
   rw [hg]
   exact ⟨_, _, .opCall rfl rfl hx hp e1 hpre e2, q⟩

theorem WO_nil_iff : WO S n0 d [] E H R ↔ R E H := by
 refine ⟨fun h => ?_, WO_nil⟩
 obtain ⟨E1, H1, e, q⟩ := h
 cases e; exact q

theorem WO_call {dst : Option Nat} {sy : Bool} {l : List AOper} {x : X} {args caps vs : List V} {xs : List X} {g : Nat} {H1 : Heap} (hx : getX E x = .fn g caps)
   (ha : xs.map (getX E) ++ caps = args) (hp : prep S g H args = some (vs, H1))
   (h : CT S g vs H1 (fun v H2 => ((d && !sy) = true → H <+: H2) ∧ WO S n0 d l (put E dst v) H2 R)) : WOcall S n0 d dst x xs none sy l E H R := by
 obtain ⟨v, H2, e, hpre, E1, H3, e1, q⟩ := h
 subst ha
 exact ⟨_, _, .opCall rfl rfl hx hp e (fun hd hsy => hpre (by simp [hd]; simpa using hsy)) e1, q⟩

theorem CQ.ct {g : Nat} {args : List V} {v : V} {Q : V → Heap → Prop} (h : CQ S g args v) (hq : Q v H) : CT S g args H Q := ⟨_, _, h H, hq⟩

theorem CQ_of {g : Nat} {f : AFn} {args : List V} {v : V} (hf : S.fn g = some f)
   (h : ∀ H, WC S H.length f.body (E0 args) H (fun x E1 H1 => (x = .normal ∨ x = .ret) ∧ ∃ v0, resV E1 H1 f.results = some v0 ∧ fin f.own H.length H1 v0 = some (v, H))) : CQ S g args v := by
 intro H
 obtain ⟨x, E1, H1, e, hx, v0, hr, hfin⟩ := h H
 exact .call hf e hx hr hfin

theorem CT_of {g : Nat} {f : AFn} {args : List V} {Q : V → Heap → Prop} (hf : S.fn g = some f)
   (h : WC S H.length f.body (E0 args) H (fun x E1 H1 => (x = .normal ∨ x = .ret) ∧ ∃ v0 v H2, resV E1 H1 f.results = some v0 ∧ fin f.own H.length H1 v0 = some (v, H2) ∧ Q v H2)) : CT S g args H Q := by
 obtain ⟨x, E1, H1, e, hx, v0, v, H2, hr, hfin, hq⟩ := h
 exact ⟨_, _, .call hf e hx hr hfin, hq⟩

theorem CQ_emp {g : Nat} {pre post : List V} {v : V} (h1 : CQ S g (pre ++ .nil :: post) v) (h2 : CQ S g (pre ++ .emp :: post) v) : CQ S g (pre ++ .sl [] :: post) v := fun H => .emp (h1 H) (h2 H)

end

/-- The variables of an environment, one by one. -/
theorem upd_apply (E : Env) (d : Nat) (v : V) (i : Nat) : upd E d v i = if i = d then v else E i := rfl

theorem wrap_i64 {n : Int} (h1 : -9223372036854775808 ≤ n) (h2 : n < 9223372036854775808) : IntKind.wrap .i64 n = n := by
 simp [IntKind.wrap, IntKind.bits, IntKind.signed]; split <;> omega
theorem wrap_u32 {n : Int} (h1 : 0 ≤ n) (h2 : n < 4294967296) : IntKind.wrap .u32 n = n := by
 simp only [IntKind.wrap, IntKind.bits, IntKind.signed]; simp; omega
theorem wrap_u64 {n : Int} (h1 : 0 ≤ n) (h2 : n < 18446744073709551616) : IntKind.wrap .u64 n = n := by
 simp only [IntKind.wrap, IntKind.bits, IntKind.signed]; simp; omega

end Go.Abs

/- The abstract program: the functions of this seat. -/
namespace Go.Abs

def prog : AProg := ⟨look fnList, fun _ _ => none⟩

end Go.Abs

/- What each operation comes to, one lemma each. -/
namespace Go.Abs

def stpAppend (z bytes : Nat) (x y : V) (H : Heap) : Option (V × Heap) :=
   (elems H y).bind fun ys =>
     if headOk z ys = true then
       match x with
       | .nil =>
         if ys = [] then some (.nil, H)
         else if appendLimit ys.length bytes = true then some (.ref H.length z 0 ys.length, H ++ [some ⟨z, ys, true, true⟩]) else none
       | .ref b z' off len =>
         match H[b]? with
         | some (some k) =>
           if k.arr = true ∧ k.wr = true ∧ k.z = z ∧ z' = z ∧ off + len ≤ k.el.length ∧ appendLimit (len + ys.length) bytes = true then
             if ys = [] then some (.ref b z' off len, H)
             else some (.ref H.length z 0 (len + ys.length), H.set b none ++ [some ⟨z, (k.el.drop off).take len ++ ys, true, true⟩])
           else none
         | _ => none
       | _ => none
     else none

theorem stq_append {n0 z bytes : Nat} {x y : X} {E : Env} {H : Heap} : stp n0 (.append z bytes x y) E H = stpAppend z bytes (getX E x) (getX E y) H := rfl

theorem stq_mv {n0 : Nat} {E : Env} {H : Heap} {x : X} : stp n0 (.mv x) E H = (some (getX E x, H)) := rfl

theorem stq_pick {n0 : Nat} {E : Env} {H : Heap} {c a b : X} : stp n0 (.pick c a b) E H =
   match getX E c with
   | .bool t => some (if t then getX E a else getX E b, H)
   | _ => none := rfl

theorem stq_box {n0 : Nat} {E : Env} {H : Heap} {z : Nat} {x : X} : stp n0 (.box z x) E H =
   if (getX E x).cells.length = z ∧ (getX E x).isTup = false then some (.ptr H.length 0 0, H ++ [some ⟨z, [getX E x], false, true⟩]) else none := rfl

theorem stq_new {n0 : Nat} {E : Env} {H : Heap} {z : Nat} {v : V} : stp n0 (.new z v) E H = (if v.cells.length = z ∧ v.pure = true then some (.ptr H.length 0 0, H ++ [some ⟨z, [v], false, true⟩]) else none) := rfl

theorem stq_build {n0 : Nat} {E : Env} {H : Heap} {zero : List V} {parts : List (Nat × Nat × X)} : stp n0 (.build zero parts) E H =
   if zero.all V.cellPure = true then (fillC zero (parts.map fun p => (p.1, p.2.1, getX E p.2.2))).map fun cs => (.agg cs, H) else none := rfl

theorem stq_bslice {n0 : Nat} {E : Env} {H : Heap} {z len : Nat} {zero : V} {parts : List (Nat × X)} : stp n0 (.bslice z len zero parts) E H =
   if zero.cells.length = z ∧ zero.pure = true then
     (pureIns H (parts.map fun p => getX E p.2)).bind fun (vs, H1) =>
       (fillE z (List.replicate len zero) ((parts.map (·.1)).zip vs)).map fun el => (.ref H1.length z 0 len, H1 ++ [some ⟨z, el, true, true⟩])
   else none := rfl

theorem stq_load {n0 : Nat} {E : Env} {H : Heap} {ag : Bool} {z : Nat} {x : X} : stp n0 (.load ag z x) E H =
   match getX E x with
   | .eptr cs => (wrapC ag z cs).map fun v => (v, H)
   | .ptr b i off =>
     match H[b]? with
     | some (some k) =>
       match k.el[i]? with
       | some e => (wrapC ag z (e.cells.drop off)).map fun v => (v, H)
       | none => none
     | _ => none
   | _ => none := rfl

theorem stq_store {n0 : Nat} {E : Env} {H : Heap} {z : Nat} {a x : X} : stp n0 (.store z a x) E H = (stStore n0 z (getX E a) (getX E x) H) := rfl

theorem stq_sload {n0 : Nat} {E : Env} {H : Heap} {ag : Bool} {z t : Nat} : stp n0 (.sload ag z t) E H =
   match E t with
   | .eptr cs => (wrapC ag z cs).map fun v => (v, H)
   | .ptr b i off =>
     match H[b]? with
     | some (some k) =>
       match k.el[i]? with
       | some e => (wrapC ag z (e.cells.drop off)).bind fun v => if v.cells.all (V.lowB H.length) = true ∧ v.isTup = false then some (v, H) else none
       | none => none
     | _ => none
   | _ => none := rfl

theorem stq_storeN {n0 : Nat} {E : Env} {H : Heap} {z : Nat} {a x : X} {av : List Nat} : stp n0 (.storeN z a x av) E H = (if (getX E x).pure = true ∧ (av.all fun t => apart (E t) (getX E a)) = true then stStore n0 z (getX E a) (getX E x) H else none) := rfl

theorem stq_bin {n0 : Nat} {E : Env} {H : Heap} {bk : BK} {op : BinOp} {x y : X} : stp n0 (.bin bk op x y) E H = ((binV bk op (getX E x) (getX E y)).map fun v => (v, H)) := rfl

theorem stq_un {n0 : Nat} {E : Env} {H : Heap} {op : UnOp} {x : X} : stp n0 (.un op x) E H = ((unV op (getX E x)).map fun v => (v, H)) := rfl

theorem stq_conv {n0 : Nat} {E : Env} {H : Heap} {k : IntKind} {x : X} : stp n0 (.conv k x) E H =
   match getX E x with
   | .int _ n => some (.int k (k.wrap n), H)
   | _ => none := rfl

theorem stq_mkfn {n0 : Nat} {E : Env} {H : Heap} {g : Nat} {caps : List X} : stp n0 (.mkfn g caps) E H = (if (caps.map (getX E)).all V.isCell = true then some (.fn g (caps.map (getX E)), H) else none) := rfl

theorem stq_mkslice {n0 : Nat} {E : Env} {H : Heap} {z bytes : Nat} {zero : V} {l c : X} : stp n0 (.mkslice z bytes zero l c) E H =
   match natOf (getX E l), natOf (getX E c) with
   | some l, some c =>
     if l ≤ c ∧ c * bytes ≤ 281474976710656 ∧ c ≤ 9223372036854775807 ∧ zero.cells.length = z ∧ zero.pure = true then
       some (.ref H.length z 0 l, H ++ [some ⟨z, List.replicate c zero, true, true⟩])
     else none
   | _, _ => none := rfl

theorem stq_appendZ {n0 z bytes : Nat} {zero : V} {x n : X} {E : Env} {H : Heap} : stp n0 (.appendZ z bytes zero x n) E H =
   match getX E x, natOf (getX E n) with
   | .nil, some m =>
     if 0 < m ∧ m * bytes ≤ 140737488355328 ∧ m ≤ 9223372036854775807 ∧ zero.cells.length = z ∧ zero.pure = true then some (.ref H.length z 0 m, H ++ [some ⟨z, List.replicate m zero, true, true⟩]) else none
   | _, _ => none := rfl

theorem stq_slice {n0 : Nat} {E : Env} {H : Heap} {z : Nat} {x : X} {lo hi mx : Option X} : stp n0 (.slice z x lo hi mx) E H =
   match getX E x with
   | .nil =>
     match optNat E 0 lo, optNat E 0 hi, optNat E 0 mx with
     | some 0, some 0, some 0 => some (.nil, H)
     | _, _, _ => none
   | .sl l =>
     match optNat E 0 lo, optNat E l.length hi, optNat E l.length mx with
     | some lo, some hi, some mx =>
       if lo ≤ hi ∧ hi ≤ mx ∧ mx ≤ l.length ∧ (lo = 0 ∨ headOk z ((l.take hi).drop lo) = true) then some (.sl ((l.take hi).drop lo), H) else none
     | _, _, _ => none
   | .ref b z' off len =>
     match optNat E 0 lo, optNat E len hi, mx with
     | some lo, some hi, none => if lo ≤ hi ∧ hi ≤ len ∧ z' = z then some (.ref b z' (off + lo) (hi - lo), H) else none
     | _, _, _ => none
   | _ => none := rfl

theorem stq_faddr {n0 : Nat} {E : Env} {H : Heap} {off : Nat} {x : X} : stp n0 (.faddr off x) E H =
   match getX E x with
   | .ptr b i o => some (.ptr b i (o + off), H)
   | .eptr cs => some (.eptr (cs.drop off), H)
   | _ => none := rfl

theorem stq_field {n0 : Nat} {E : Env} {H : Heap} {ag : Bool} {off z : Nat} {x : X} : stp n0 (.field ag off z x) E H =
   match getX E x with
   | .agg cs => (wrapC ag z (cs.drop off)).map fun v => (v, H)
   | _ => none := rfl

theorem stq_iaddr {n0 : Nat} {E : Env} {H : Heap} {z : Nat} {x i : X} : stp n0 (.iaddr z x i) E H =
   match getX E x, natOf (getX E i) with
   | .sl l, some i =>
     match l[i]? with
     | some e => if e.cells.length = z then some (.eptr e.cells, H) else none
     | none => none
   | .ref b z' off len, some i => if i < len ∧ z' = z then some (.ptr b (off + i) 0, H) else none
   | _, _ => none := rfl

theorem stq_aiaddr {n0 : Nat} {E : Env} {H : Heap} {n z : Nat} {x i : X} : stp n0 (.aiaddr n z x i) E H =
   match getX E x, natOf (getX E i) with
   | .ptr b j off, some i => if i < n then some (.ptr b j (off + i * z), H) else none
   | .eptr cs, some i => if i < n then some (.eptr (cs.drop (i * z)), H) else none
   | _, _ => none := rfl

theorem stq_index {n0 : Nat} {E : Env} {H : Heap} {ag : Bool} {n z : Nat} {x i : X} : stp n0 (.index ag n z x i) E H =
   match getX E x, natOf (getX E i) with
   | .agg cs, some i => if i < n then (wrapC ag z (cs.drop (i * z))).map fun v => (v, H) else none
   | _, _ => none := rfl

theorem stq_sindex {n0 : Nat} {E : Env} {H : Heap} {x i : X} : stp n0 (.sindex x i) E H =
   match getX E x, natOf (getX E i) with
   | .str s, some i =>
     match s[i]? with
     | some b => some (.int .u8 b.toNat, H)
     | none => none
   | _, _ => none := rfl

theorem stq_extract {n0 : Nat} {E : Env} {H : Heap} {i : Nat} {x : X} : stp n0 (.extract i x) E H =
   match getX E x with
   | .tup vs => (vs[i]?).map fun v => (v, H)
   | _ => none := rfl

theorem stq_len {n0 : Nat} {E : Env} {H : Heap} {x : X} : stp n0 (.len x) E H =
   match getX E x with
   | .sl l => some (.int .i64 l.length, H)
   | .nil => some (.int .i64 0, H)
   | .emp => some (.int .i64 0, H)
   | .ref _ _ _ len => some (.int .i64 len, H)
   | _ => none := rfl

theorem stq_lenc {n0 : Nat} {E : Env} {H : Heap} {n : Nat} {x : X} : stp n0 (.lenc n x) E H = (some (.int .i64 n, H)) := rfl

theorem stq_capn {n0 : Nat} {E : Env} {H : Heap} {x : X} : stp n0 (.capn x) E H =
   match getX E x with
   | .nil => some (.int .i64 0, H)
   | _ => none := rfl

theorem stq_copy {n0 : Nat} {E : Env} {H : Heap} {z : Nat} {x y : X} : stp n0 (.copy z x y) E H =
   match getX E x with
   | .ref b z' off len =>
     (elems H (getX E y)).bind fun ys =>
       match H[b]? with
       | some (some k) =>
         if k.arr = true ∧ k.wr = true ∧ k.z = z ∧ z' = z ∧ headOk z ys = true ∧ off + len ≤ k.el.length then
           some (.int .i64 (Nat.min ys.length len), H.set b (some { k with el := splice k.el off (ys.take len) }))
         else none
       | _ => none
   | _ => none := rfl

theorem stq_min {n0 : Nat} {E : Env} {H : Heap} {x y : X} : stp n0 (.min x y) E H =
   match getX E x, getX E y with
   | .int k a, .int k' b => if k = k' then some (.int k (if b < a then b else a), H) else none
   | _, _ => none := rfl

theorem stq_max {n0 : Nat} {E : Env} {H : Heap} {x y : X} : stp n0 (.max x y) E H =
   match getX E x, getX E y with
   | .int k a, .int k' b => if k = k' then some (.int k (if a < b then b else a), H) else none
   | _, _ => none := rfl

theorem stq_max3 {n0 : Nat} {E : Env} {H : Heap} {x y z : X} : stp n0 (.max3 x y z) E H =
   match getX E x, getX E y, getX E z with
   | .int k a, .int k' b, .int k'' c => if k = k' ∧ k = k'' then some (.int k (if (if a < b then b else a) < c then c else if a < b then b else a), H) else none
   | _, _, _ => none := rfl

attribute [simp] stq_max3 stq_append stq_mv stq_pick stq_box stq_new stq_build stq_bslice stq_load stq_store stq_sload stq_storeN stq_bin stq_un stq_conv stq_mkfn stq_mkslice stq_appendZ stq_slice stq_faddr stq_field stq_iaddr stq_aiaddr stq_index stq_sindex stq_extract stq_len stq_lenc stq_capn stq_copy stq_min stq_max

end Go.Abs

/- The rules once more, with what comes behind as a list: so that 'simp' runs straight-line code by itself. -/
namespace Go.Abs

inductive Fr where
 | seq (b : AC)
 | blk (id : Nat)

section
variable {S : AProg} {n0 : Nat} {Q : AX → Env → Heap → Prop}

def WP (S : AProg) (n0 : Nat) (Q : AX → Env → Heap → Prop) : List Fr → AX → Env → Heap → Prop
 | [], x, E, H => Q x E H
 | .seq b :: K, .normal, E, H => WC S n0 b E H (fun x E H => WP S n0 Q K x E H)
 | .seq _ :: K, x, E, H => WP S n0 Q K x E H
 | .blk id :: K, x, E, H => WP S n0 Q K (x.outOf id) E H

/-- Code, and what comes behind. -/
def WK (S : AProg) (n0 : Nat) (c : AC) (K : List Fr) (E : Env) (H : Heap) (Q : AX → Env → Heap → Prop) : Prop := WC S n0 c E H (fun x E H => WP S n0 Q K x E H)
/-- Operations, and what comes behind. -/
def WL (S : AProg) (n0 : Nat) (d : Bool) (l : List AOper) (K : List Fr) (E : Env) (H : Heap) (Q : AX → Env → Heap → Prop) : Prop := WO S n0 d l E H (fun E H => WP S n0 Q K .normal E H)

theorem WC_of_WK {c : AC} {E : Env} {H : Heap} (h : WK S n0 c [] E H Q) : WC S n0 c E H Q := h

theorem WP_nil {x : AX} {E : Env} {H : Heap} : WP S n0 Q [] x E H ↔ Q x E H := Iff.rfl
theorem WP_seq {b : AC} {K : List Fr} {E : Env} {H : Heap} : WP S n0 Q (.seq b :: K) .normal E H ↔ WK S n0 b K E H Q := Iff.rfl
theorem WP_seq_exit {b : AC} {K : List Fr} {id : Nat} {E : Env} {H : Heap} : WP S n0 Q (.seq b :: K) (.exit id) E H ↔ WP S n0 Q K (.exit id) E H := Iff.rfl
theorem WP_seq_ret {b : AC} {K : List Fr} {E : Env} {H : Heap} : WP S n0 Q (.seq b :: K) .ret E H ↔ WP S n0 Q K .ret E H := Iff.rfl
theorem WP_blk {id : Nat} {K : List Fr} {x : AX} {E : Env} {H : Heap} : WP S n0 Q (.blk id :: K) x E H ↔ WP S n0 Q K (x.outOf id) E H := by cases x <;> exact Iff.rfl

theorem WC_mono {c : AC} {E : Env} {H : Heap} {Q' : AX → Env → Heap → Prop} (h : WC S n0 c E H Q) (hq : ∀ x E H, Q x E H → Q' x E H) : WC S n0 c E H Q' := by
 obtain ⟨x, E1, H1, e, q⟩ := h
 exact ⟨x, E1, H1, e, hq _ _ _ q⟩

theorem WK_seq_iff {a b : AC} {K : List Fr} {E : Env} {H : Heap} : WK S n0 (.seq a b) K E H Q ↔ WK S n0 a (.seq b :: K) E H Q := by
 constructor
 · rintro ⟨x, E1, H1, e, q⟩
   cases e with
   | seqN e1 e2 => exact ⟨.normal, _, _, e1, _, _, _, e2, q⟩
   | seqX e1 hx =>
     refine ⟨x, E1, H1, e1, ?_⟩
     cases x with
     | normal => exact absurd rfl hx
     | exit id => exact q
     | ret => exact q
 · intro h
   refine WC_seq (WC_mono h fun x E1 H1 q => ?_)
   cases x with
   | normal => exact q
   | exit id => exact q
   | ret => exact q

theorem WK_cond_iff {x : X} {a b : AC} {K : List Fr} {E : Env} {H : Heap} : WK S n0 (.cond x a b) K E H Q ↔ match getX E x with | .bool true => WK S n0 a K E H Q | .bool false => WK S n0 b K E H Q | _ => False := by
 constructor
 · rintro ⟨y, E1, H1, e, q⟩
   cases e with
   | @cond _ _ _ _ _ _ t _ hc e1 =>
     rw [hc]
     cases t with
     | true => exact ⟨_, _, _, by simpa using e1, q⟩
     | false => exact ⟨_, _, _, by simpa using e1, q⟩
 · intro h
   split at h
   · rename_i hc; exact WC_true hc h
   · rename_i hc; exact WC_false hc h
   · exact h.elim

theorem WK_block_iff {id : Nat} {c : AC} {K : List Fr} {E : Env} {H : Heap} : WK S n0 (.block id c) K E H Q ↔ WK S n0 c (.blk id :: K) E H Q := by
 constructor
 · rintro ⟨y, E1, H1, e, q⟩
   cases e with
   | block e1 => exact ⟨_, _, _, e1, WP_blk.2 q⟩
 · intro h
   exact WC_block (WC_mono h fun x E1 H1 q => WP_blk.1 q)

theorem WK_region_iff {d : Bool} {l : List AOper} {K : List Fr} {E : Env} {H : Heap} : WK S n0 (.region d l) K E H Q ↔ WL S n0 d l K E H Q := by
 constructor
 · rintro ⟨y, E1, H1, e, q⟩
   cases e with
   | region e1 => exact ⟨_, _, e1, q⟩
 · intro h; exact WC_region h

theorem WK_skip_iff {K : List Fr} {E : Env} {H : Heap} : WK S n0 .skip K E H Q ↔ WP S n0 Q K .normal E H := ⟨by rintro ⟨y, E1, H1, e, q⟩; cases e; exact q, WC_skip⟩
theorem WK_exit_iff {id : Nat} {K : List Fr} {E : Env} {H : Heap} : WK S n0 (.exit id) K E H Q ↔ WP S n0 Q K (.exit id) E H := ⟨by rintro ⟨y, E1, H1, e, q⟩; cases e; exact q, WC_exit⟩
theorem WK_ret_iff {K : List Fr} {E : Env} {H : Heap} : WK S n0 .ret K E H Q ↔ WP S n0 Q K .ret E H := ⟨by rintro ⟨y, E1, H1, e, q⟩; cases e; exact q, WC_ret⟩

theorem WL_nil_iff {d : Bool} {K : List Fr} {E : Env} {H : Heap} : WL S n0 d [] K E H Q ↔ WP S n0 Q K .normal E H := WO_nil_iff

/-- A call, before a contract is offered. -/
def WLcall (S : AProg) (n0 : Nat) (d : Bool) (dst : Option Nat) (x : X) (xs : List X) (sy : Bool) (l : List AOper) (K : List Fr) (E : Env) (H : Heap) (Q : AX → Env → Heap → Prop) : Prop :=
 WOcall S n0 d dst x xs none sy l E H (fun E H => WP S n0 Q K .normal E H)

def stepL (S : AProg) (n0 : Nat) (d : Bool) (dst : Option Nat) (op : AOp) (gu : Option (Nat × Bool)) (sy : Bool) (l : List AOper) (K : List Fr) (E : Env) (H : Heap) (Q : AX → Env → Heap → Prop) : Prop :=
 match gd ⟨dst, op, gu, sy⟩ E with
 | some false => WL S n0 d l K (put E dst .undef) H Q
 | some true =>
   match op with
   | .call x xs => WLcall S n0 d dst x xs sy l K E H Q
   | op =>
     match stp n0 op E H with
     | some (v, H1) => ((d && !sy) = true → H <+: H1) ∧ WL S n0 d l K (put E dst v) H1 Q
     | none => False
 | none => False

theorem WL_cons_iff {d : Bool} {dst : Option Nat} {op : AOp} {gu : Option (Nat × Bool)} {sy : Bool} {l : List AOper} {K : List Fr} {E : Env} {H : Heap} : WL S n0 d (⟨dst, op, gu, sy⟩ :: l) K E H Q ↔ stepL S n0 d dst op gu sy l K E H Q := WO_iff

theorem WL_call {d : Bool} {dst : Option Nat} {sy : Bool} {l : List AOper} {K : List Fr} {E : Env} {H : Heap} {x : X} {args caps vs : List V} {xs : List X} {g : Nat} {v : V} (hx : getX E x = .fn g caps)
   (ha : xs.map (getX E) ++ caps = args) (hp : prep S g H args = some (vs, H)) (h : CQ S g vs v) (k : WL S n0 d l K (put E dst v) H Q) : WLcall S n0 d dst x xs sy l K E H Q :=
 WO_call hx ha hp (h.ct ⟨fun _ => List.prefix_refl H, k⟩)

theorem WL_callT {d : Bool} {dst : Option Nat} {sy : Bool} {l : List AOper} {K : List Fr} {E : Env} {H H1 : Heap} {x : X} {args caps vs : List V} {xs : List X} {g : Nat} (hx : getX E x = .fn g caps)
   (ha : xs.map (getX E) ++ caps = args) (hp : prep S g H args = some (vs, H1)) (h : CT S g vs H1 (fun v H2 => ((d && !sy) = true → H <+: H2) ∧ WL S n0 d l K (put E dst v) H2 Q)) : WLcall S n0 d dst x xs sy l K E H Q :=
 WO_call hx ha hp h

/-- A loop: an invariant, with a number that falls. -/
theorem WK_loop {c : AC} {K : List Fr} {E : Env} {H : Heap} (I : Nat → Env → Heap → Prop) (k : Nat) (h0 : I k E H)
   (round : ∀ k E H, I k E H → WC S n0 c E H (AX.thn (fun E1 H1 => ∃ j, j < k ∧ I j E1 H1) (fun x E H => WP S n0 Q K x E H))) : WK S n0 (.loop c) K E H Q := WC_loop I k h0 round

/-- One round of a loop: the code, with the invariant at its end. -/
theorem WC_round {c : AC} {E : Env} {H : Heap} {J : Env → Heap → Prop} {R : AX → Env → Heap → Prop} (h : WK S n0 c [] E H (AX.thn J R)) : WC S n0 c E H (AX.thn J R) := h

theorem thn_normal {J : Env → Heap → Prop} {R : AX → Env → Heap → Prop} {E : Env} {H : Heap} : AX.thn J R .normal E H ↔ J E H := Iff.rfl
theorem thn_exit {J : Env → Heap → Prop} {R : AX → Env → Heap → Prop} {id : Nat} {E : Env} {H : Heap} : AX.thn J R (.exit id) E H ↔ R (.exit id) E H := Iff.rfl
theorem thn_ret {J : Env → Heap → Prop} {R : AX → Env → Heap → Prop} {E : Env} {H : Heap} : AX.thn J R .ret E H ↔ R .ret E H := Iff.rfl

theorem CQ_run {g : Nat} {f : AFn} {args : List V} {v : V} (hf : S.fn g = some f)
   (h : ∀ H, WK S H.length f.body [] (E0 args) H (fun x E1 H1 => (x = .normal ∨ x = .ret) ∧ ∃ v0, resV E1 H1 f.results = some v0 ∧ fin f.own H.length H1 v0 = some (v, H))) : CQ S g args v := CQ_of hf h

end

theorem fin_sl {n : Nat} {H : Heap} {l : List V} : fin false n H (.sl l) = some (.sl l, H.take n) := rfl
theorem fin_int {n : Nat} {H : Heap} {k : IntKind} {i : Int} : fin false n H (.int k i) = some (.int k i, H.take n) := rfl
theorem fin_bool {n : Nat} {H : Heap} {b : Bool} : fin false n H (.bool b) = some (.bool b, H.take n) := rfl

@[simp] theorem vcells_agg {cs : List V} : (V.agg cs).cells = cs := rfl
@[simp] theorem vcells_bool {b : Bool} : (V.bool b).cells = [.bool b] := rfl
@[simp] theorem vcells_int {k : IntKind} {n : Int} : (V.int k n).cells = [.int k n] := rfl
@[simp] theorem vcells_sl {l : List V} : (V.sl l).cells = [.sl l] := rfl
@[simp] theorem vcells_nil : V.nil.cells = [.nil] := rfl
@[simp] theorem vcells_ref {b z off len : Nat} : (V.ref b z off len).cells = [.ref b z off len] := rfl
@[simp] theorem vcells_ptr {b i off : Nat} : (V.ptr b i off).cells = [.ptr b i off] := rfl
@[simp] theorem vcells_fn {g : Nat} {cs : List V} : (V.fn g cs).cells = [.fn g cs] := rfl
@[simp] theorem vtup_agg {cs : List V} : (V.agg cs).isTup = false := rfl
@[simp] theorem vtup_bool {b : Bool} : (V.bool b).isTup = false := rfl
@[simp] theorem vtup_int {k : IntKind} {n : Int} : (V.int k n).isTup = false := rfl
@[simp] theorem vtup_sl {l : List V} : (V.sl l).isTup = false := rfl
@[simp] theorem vtup_nil : V.nil.isTup = false := rfl
@[simp] theorem vtup_ref {b z off len : Nat} : (V.ref b z off len).isTup = false := rfl
@[simp] theorem vtup_ptr {b i off : Nat} : (V.ptr b i off).isTup = false := rfl
@[simp] theorem vtup_fn {g : Nat} {cs : List V} : (V.fn g cs).isTup = false := rfl

attribute [simp] fin_sl fin_int fin_bool WP_nil WP_seq WP_seq_exit WP_seq_ret WP_blk WK_seq_iff WK_block_iff WK_region_iff WK_skip_iff WK_exit_iff WK_ret_iff WL_nil_iff thn_normal thn_exit thn_ret
attribute [simp] getX put upd_apply E0 AX.outOf binV binI unV natOf optNat stStore wrapC V.isNil resV resVs resV1

end Go.Abs

/- Rules that open both ways of a branch: simp runs a function to its calls and loops on all of its paths. -/
namespace Go.Abs

section
variable {S : AProg} {n0 : Nat} {Q : AX → Env → Heap → Prop}

/-- A branch on a value. -/
def WKc (S : AProg) (n0 : Nat) (v : V) (a b : AC) (K : List Fr) (E : Env) (H : Heap) (Q : AX → Env → Heap → Prop) : Prop :=
 match v with
 | .bool true => WK S n0 a K E H Q
 | .bool false => WK S n0 b K E H Q
 | _ => False

theorem WKc_bool {t : Bool} {a b : AC} {K : List Fr} {E : Env} {H : Heap} : WKc S n0 (.bool t) a b K E H Q ↔ (t = true → WK S n0 a K E H Q) ∧ (t = false → WK S n0 b K E H Q) := by cases t <;> simp [WKc]
theorem WKc_true {a b : AC} {K : List Fr} {E : Env} {H : Heap} : WKc S n0 (.bool true) a b K E H Q ↔ WK S n0 a K E H Q := Iff.rfl
theorem WKc_false {a b : AC} {K : List Fr} {E : Env} {H : Heap} : WKc S n0 (.bool false) a b K E H Q ↔ WK S n0 b K E H Q := Iff.rfl

theorem WK_cond_x {x : X} {a b : AC} {K : List Fr} {E : Env} {H : Heap} : WK S n0 (.cond x a b) K E H Q ↔ WKc S n0 (getX E x) a b K E H Q := by
 rw [WK_cond_iff]; unfold WKc; split <;> simp_all

/-- An operation that is done. -/
def stepN (S : AProg) (n0 : Nat) (d : Bool) (dst : Option Nat) (op : AOp) (sy : Bool) (l : List AOper) (K : List Fr) (E : Env) (H : Heap) (Q : AX → Env → Heap → Prop) : Prop :=
 match op with
 | .call x xs => WLcall S n0 d dst x xs sy l K E H Q
 | op =>
   match stp n0 op E H with
   | some (v, H1) => ((d && !sy) = true → H <+: H1) ∧ WL S n0 d l K (put E dst v) H1 Q
   | none => False

theorem WL_none {d : Bool} {dst : Option Nat} {op : AOp} {sy : Bool} {l : List AOper} {K : List Fr} {E : Env} {H : Heap} :
   WL S n0 d (⟨dst, op, none, sy⟩ :: l) K E H Q ↔ stepN S n0 d dst op sy l K E H Q := WL_cons_iff

theorem upd_self {E : Env} {t : Nat} {v : V} (h : E t = v) : upd E t v = E := by
 funext i; unfold upd; split
 · rename_i e; rw [e, h]
 · rfl

/-- An operation with a guard. -/
def WLg (S : AProg) (n0 : Nat) (v : V) (t : Nat) (want d : Bool) (dst : Option Nat) (op : AOp) (sy : Bool) (l : List AOper) (K : List Fr) (E : Env) (H : Heap) (Q : AX → Env → Heap → Prop) : Prop :=
 match v with
 | .bool b => if b = want then stepN S n0 d dst op sy l K (upd E t (.bool b)) H Q else WL S n0 d l K (put (upd E t (.bool b)) dst .undef) H Q
 | .tup _ => WL S n0 d l K (put E dst .undef) H Q
 | _ => False

theorem WL_some {d : Bool} {dst : Option Nat} {op : AOp} {sy : Bool} {l : List AOper} {K : List Fr} {E : Env} {H : Heap} {t : Nat} {want : Bool} :
   WL S n0 d (⟨dst, op, some (t, want), sy⟩ :: l) K E H Q ↔ WLg S n0 (E t) t want d dst op sy l K E H Q := by
 rw [WL_cons_iff]
 unfold stepL WLg gd
 simp only
 cases hv : E t with
 | bool b => cases b <;> cases want <;> (simp only [upd_self hv]; exact Iff.rfl)
 | tup vs => exact Iff.rfl
 | _ => exact Iff.rfl

variable {t : Nat} {d : Bool} {dst : Option Nat} {op : AOp} {sy : Bool} {l : List AOper} {K : List Fr} {E : Env} {H : Heap}

theorem WLg_t {b : Bool} : WLg S n0 (.bool b) t true d dst op sy l K E H Q ↔ (b = true → stepN S n0 d dst op sy l K (upd E t (.bool true)) H Q) ∧ (b = false → WL S n0 d l K (put (upd E t (.bool false)) dst .undef) H Q) := by
 cases b <;> simp [WLg]
theorem WLg_f {b : Bool} : WLg S n0 (.bool b) t false d dst op sy l K E H Q ↔ (b = true → WL S n0 d l K (put (upd E t (.bool true)) dst .undef) H Q) ∧ (b = false → stepN S n0 d dst op sy l K (upd E t (.bool false)) H Q) := by
 cases b <;> simp [WLg]
theorem WLg_tt : WLg S n0 (.bool true) t true d dst op sy l K E H Q ↔ stepN S n0 d dst op sy l K (upd E t (.bool true)) H Q := Iff.rfl
theorem WLg_ft : WLg S n0 (.bool false) t true d dst op sy l K E H Q ↔ WL S n0 d l K (put (upd E t (.bool false)) dst .undef) H Q := Iff.rfl
theorem WLg_tf : WLg S n0 (.bool true) t false d dst op sy l K E H Q ↔ WL S n0 d l K (put (upd E t (.bool true)) dst .undef) H Q := Iff.rfl
theorem WLg_ff : WLg S n0 (.bool false) t false d dst op sy l K E H Q ↔ stepN S n0 d dst op sy l K (upd E t (.bool false)) H Q := Iff.rfl
theorem WLg_tup {want : Bool} {vs : List V} : WLg S n0 (.tup vs) t want d dst op sy l K E H Q ↔ WL S n0 d l K (put E dst .undef) H Q := Iff.rfl
theorem WLg_undef {want : Bool} : WLg S n0 .undef t want d dst op sy l K E H Q ↔ WL S n0 d l K (put E dst .undef) H Q := Iff.rfl

end

/-- A loop that counts up. -/
theorem WK_up {S : AProg} {n0 : Nat} {Q : AX → Env → Heap → Prop} {c : AC} {K : List Fr} {E : Env} {H : Heap} (I : Nat → Env → Heap → Prop) (n : Nat) (h0 : I 0 E H)
   (round : ∀ i E H, i ≤ n → I i E H → WK S n0 c [] E H (AX.thn (fun E1 H1 => i < n ∧ I (i + 1) E1 H1) (fun x E H => WP S n0 Q K x E H))) : WK S n0 (.loop c) K E H Q := by
 refine WK_loop (fun k E H => ∃ i, i + k = n ∧ I i E H) n ⟨0, by omega, h0⟩ ?_
 rintro k E H ⟨i, hi, h⟩
 refine WC_mono (round i E H (by omega) h) ?_
 intro x E1 H1 hx
 cases x with
 | normal => exact ⟨k - 1, by have := hx.1; omega, i + 1, by have := hx.1; omega, hx.2⟩
 | exit id => exact hx
 | ret => exact hx

theorem getE_app {α : Type} (H l : List α) (k : Nat) : (H ++ l)[H.length + k]? = l[k]? := by
 rw [List.getElem?_append_right (by omega)]; congr 1; omega
theorem getE_app0 {α : Type} (H l : List α) : (H ++ l)[H.length]? = l[0]? := getE_app H l 0
theorem set_app {α : Type} (H l : List α) (k : Nat) (v : α) : (H ++ l).set (H.length + k) v = H ++ l.set k v := by
 rw [List.set_append_right _ _ (by omega)]; congr 2; omega
theorem set_app0 {α : Type} (H l : List α) (v : α) : (H ++ l).set H.length v = H ++ l.set 0 v := set_app H l 0 v

attribute [simp low] WKc_bool WLg_t WLg_f
attribute [simp] WK_cond_x WKc_true WKc_false stepN WL_none WL_some WLg_tt WLg_ft WLg_tf WLg_ff WLg_tup WLg_undef getE_app getE_app0 set_app set_app0

end Go.Abs

/- Numbers out of limbs. -/
namespace Go.Abs

/-- The number that limbs are, the least significant one first. -/
def natV : List Nat → Nat
 | [] => 0
 | x :: l => x + 4294967296 * natV l

def Li (l : List Nat) : Prop := ∀ x ∈ l, x < 4294967296

theorem Li.cons {x : Nat} {l : List Nat} (h : Li (x :: l)) : x < 4294967296 ∧ Li l := ⟨h x (by simp), fun y hy => h y (by simp [hy])⟩
theorem Li.take {l : List Nat} (h : Li l) (n : Nat) : Li (l.take n) := fun x hx => h x (List.mem_of_mem_take hx)
theorem Li.drop {l : List Nat} (h : Li l) (n : Nat) : Li (l.drop n) := fun x hx => h x (List.mem_of_mem_drop hx)
theorem Li.append {l m : List Nat} (h : Li l) (k : Li m) : Li (l ++ m) := fun x hx => (List.mem_append.1 hx).elim (h x) (k x)

theorem natV_append : ∀ (l m : List Nat), natV (l ++ m) = natV l + 4294967296 ^ l.length * natV m
 | [], m => by simp [natV]
 | x :: l, m => by
   simp only [List.cons_append, natV, natV_append l m, List.length_cons, Nat.pow_succ]
   rw [Nat.mul_add, ← Nat.mul_assoc, Nat.mul_comm 4294967296 (4294967296 ^ l.length)]
   omega

theorem natV_lt : ∀ {l : List Nat}, Li l → natV l < 4294967296 ^ l.length
 | [], _ => by simp [natV]
 | x :: l, h => by
   have h1 := natV_lt h.cons.2
   have h2 := h.cons.1
   simp only [natV, List.length_cons, Nat.pow_succ]
   omega

theorem natV_zeros (n : Nat) : natV (List.replicate n 0) = 0 := by
 induction n with
 | zero => rfl
 | succ n ih => simp [List.replicate_succ, natV, ih]

/-- How many limbs are left of the first n, without zeros at the top. -/
def trimN (l : List Nat) : Nat → Nat
 | 0 => 0
 | n + 1 => if l[n]? = some 0 then trimN l n else n + 1
def trimL (l : List Nat) : List Nat := l.take (trimN l l.length)

theorem trimN_le (l : List Nat) : ∀ n, trimN l n ≤ n
 | 0 => Nat.le_refl _
 | n + 1 => by unfold trimN; split; exact Nat.le_succ_of_le (trimN_le l n); exact Nat.le_refl _

theorem natV_trimN (l : List Nat) : ∀ n, n ≤ l.length → natV (l.take (trimN l n)) = natV (l.take n)
 | 0, _ => by simp [trimN]
 | n + 1, h => by
   unfold trimN
   split
   · rename_i h0
     rw [natV_trimN l n (by omega), List.take_add_one, h0, natV_append]
     simp [natV]
   · rfl

theorem natV_trimL (l : List Nat) : natV (trimL l) = natV l := by rw [trimL, natV_trimN l _ (Nat.le_refl _), List.take_length]

theorem Li.trimL {l : List Nat} (h : Li l) : Li (trimL l) := h.take _

/-- The top limb, if there is one, is not zero. -/
def Trim (l : List Nat) : Prop := ∀ x, l.getLast? = some x → x ≠ 0

theorem trimN_top (l : List Nat) : ∀ n, n ≤ l.length → ∀ m, trimN l n = m + 1 → l[m]? ≠ some 0
 | 0, _, m, h => by simp [trimN] at h
 | n + 1, hn, m, h => by
   unfold trimN at h
   split at h
   · exact trimN_top l n (by omega) m h
   · rename_i h0
     have : n = m := by omega
     subst this
     exact h0

theorem trim_trimL (l : List Nat) : Trim (trimL l) := by
 intro x hx
 unfold trimL at hx
 have hle := trimN_le l l.length
 rw [List.getLast?_eq_getElem?, List.length_take, Nat.min_eq_left hle] at hx
 cases hq : trimN l l.length with
 | zero => rw [hq] at hx; simp at hx
 | succ m =>
   rw [hq] at hx
   have h1 := trimN_top l l.length (Nat.le_refl _) m hq
   have h2 : (l.take (m + 1))[m + 1 - 1]? = l[m]? := by rw [List.getElem?_take]; simp
   rw [h2] at hx
   intro h0
   subst h0
   exact h1 hx

theorem trimL_of_trim {l : List Nat} (h : Trim l) : trimL l = l := by
 unfold trimL
 cases hl : l.length with
 | zero => rw [List.eq_nil_of_length_eq_zero hl]; rfl
 | succ n =>
   have h1 : l[n]? ≠ some 0 := by
     intro h0
     exact h 0 (by rw [List.getLast?_eq_getElem?, hl]; exact h0) rfl
   unfold trimN
   rw [if_neg h1, ← hl, List.take_length]

/-- Trimmed limbs with more limbs are more. -/
theorem natV_ge {l : List Nat} (h : Trim l) (hn : l ≠ []) : 4294967296 ^ (l.length - 1) ≤ natV l := by
 obtain ⟨x, hx⟩ : ∃ x, l.getLast? = some x := by
   cases hq : l.getLast? with
   | none => exact absurd (List.getLast?_eq_none_iff.1 hq) hn
   | some x => exact ⟨x, rfl⟩
 have hx0 := h x hx
 have : l = l.dropLast ++ [x] := by
   have := List.dropLast_concat_getLast hn
   rw [List.getLast?_eq_some_getLast hn] at hx
   injection hx with hx
   rw [hx] at this
   exact this.symm
 rw [this, natV_append]
 simp only [natV, List.length_append, List.length_dropLast, List.length_singleton, Nat.mul_zero, Nat.add_zero]
 have e : l.length - 1 + 1 - 1 = l.length - 1 := by omega
 rw [e]
 have : 4294967296 ^ (l.length - 1) * 1 ≤ 4294967296 ^ (l.length - 1) * x := Nat.mul_le_mul_left _ (by omega)
 omega

theorem natV_lt_of_len {a b : List Nat} (ha : Li a) (hb : Trim b) (h : a.length < b.length) : natV a < natV b := by
 have h1 := natV_lt ha
 have h2 := natV_ge hb (fun e => by rw [e] at h; simp at h)
 have h3 : 4294967296 ^ a.length ≤ 4294967296 ^ (b.length - 1) := Nat.pow_le_pow_right (by omega) (by omega)
 omega

/-- The first difference from the top decides. -/
theorem natV_lt_of_top {a b : List Nat} (ha : Li a) {k : Nat} (hka : k < a.length) (hkb : k < b.length) (hd : a.drop (k + 1) = b.drop (k + 1)) (h : a[k] < b[k]) : natV a < natV b := by
 have ea : a = a.take k ++ (a[k] :: a.drop (k + 1)) := by rw [← List.drop_eq_getElem_cons hka, List.take_append_drop]
 have eb : b = b.take k ++ (b[k] :: b.drop (k + 1)) := by rw [← List.drop_eq_getElem_cons hkb, List.take_append_drop]
 have h1 := natV_lt (ha.take k)
 rw [ea, eb, natV_append, natV_append]
 simp only [List.length_take, Nat.min_eq_left (Nat.le_of_lt hka), Nat.min_eq_left (Nat.le_of_lt hkb), natV] at h1 ⊢
 rw [hd]
 have h2 : 4294967296 ^ k * (a[k] + 4294967296 * natV (b.drop (k + 1))) + 4294967296 ^ k ≤ 4294967296 ^ k * (b[k] + 4294967296 * natV (b.drop (k + 1))) := by
   rw [← Nat.mul_succ]
   exact Nat.mul_le_mul_left _ (by omega)
 omega

def cmpN (x y : Nat) : Int := if x < y then -1 else if y < x then 1 else 0

end Go.Abs

/- Limbs: what the functions on lists of limbs compute. -/
namespace Go.Abs
attribute [local simp] WK_cond_iff WL_cons_iff stepL gd

def u32 (x : Nat) : V := .int .u32 (x : Int)
def lim (l : List Nat) : V := .sl (l.map u32)
def i64 (n : Int) : V := .int .i64 n
@[simp] theorem cells_u32 {x : Nat} : (u32 x).cells = [u32 x] := rfl
@[simp] theorem cells_lim {l : List Nat} : (lim l).cells = [lim l] := rfl
@[simp] theorem cells_i64 {n : Int} : (i64 n).cells = [i64 n] := rfl
@[simp] theorem isTup_u32 {x : Nat} : (u32 x).isTup = false := rfl
@[simp] theorem isTup_lim {l : List Nat} : (lim l).isTup = false := rfl
@[simp] theorem isTup_i64 {n : Int} : (i64 n).isTup = false := rfl

theorem fn_natural_trim : prog.fn g_natural_trim = some c_natural_trim := by rfl

set_option maxHeartbeats 1000000 in
theorem trim_cq (l : List Nat) (hl : l.length ≤ 9223372036854775807) : CQ prog g_natural_trim [lim l] (lim (trimL l)) := by
 refine CQ_run fn_natural_trim fun H => ?_
 simp [c_natural_trim, lim]
 refine WK_loop (fun k E H' => H' = H ∧ E 0 = lim l ∧ k ≤ l.length ∧ E 3 = .int .i64 k ∧ trimN l k = trimN l l.length) l.length ?_ ?_
 · simp [lim]
 · rintro n E H' ⟨rfl, h0, hn, h3, ht⟩
   refine WC_round ?_
   simp only [lim] at h0
   rcases n with _ | n
   · simp [c_natural_trim_l0, h0, h3, trimL, ← ht, trimN]
   · have e1 : IntKind.i64.wrap (n : Int) = n := by rw [wrap_i64] <;> omega
     have hlt : n < l.length := by omega
     have p1 : (0 : Int) ≤ (n : Int) + 1 := by omega
     by_cases hx : l[n] = 0
     · simp [c_natural_trim_l0, h0, h3, e1, hlt, hx, u32]
       refine ⟨n, by omega, rfl, by omega, rfl, ?_⟩
       rw [← ht, trimN, if_pos (by rw [List.getElem?_eq_getElem hlt, hx])]
     · simp [c_natural_trim_l0, h0, h3, e1, hlt, hx, u32, p1, hn]
       rw [trimL, ← ht, trimN, if_neg (by rw [List.getElem?_eq_getElem hlt]; simpa using hx), List.map_take]

@[simp] theorem frzVs_lim (H : Heap) (l : List Nat) (vs : List V) : frzVs H (lim l :: vs) = (frzVs H vs).bind fun p => some (lim l :: p.1, p.2) := rfl
@[simp] theorem frzVs_int (H : Heap) (k : IntKind) (n : Int) (vs : List V) : frzVs H (.int k n :: vs) = (frzVs H vs).bind fun p => some (.int k n :: p.1, p.2) := rfl
@[simp] theorem frzVs_bool (H : Heap) (b : Bool) (vs : List V) : frzVs H (.bool b :: vs) = (frzVs H vs).bind fun p => some (.bool b :: p.1, p.2) := rfl
@[simp] theorem frzVs_nil (H : Heap) : frzVs H [] = some ([], H) := rfl

theorem fn_natural_Cmp : prog.fn g_natural_Cmp = some c_natural_Cmp := by rfl

theorem prep_trim (H : Heap) (l : List Nat) : prep prog 111 H [lim l] = some ([lim l], H) := rfl

set_option maxHeartbeats 1000000 in
theorem Cmp_cq (a b : List Nat) (ha : a.length ≤ 9223372036854775807) (hb : b.length ≤ 9223372036854775807) (la : Li a) (lb : Li b) : CQ prog g_natural_Cmp [lim a, lim b] (i64 (cmpN (natV a) (natV b))) := by
 refine CQ_run fn_natural_Cmp fun H => ?_
 simp
 refine WL_call rfl rfl (prep_trim H a) (trim_cq a ha) ?_
 simp
 refine WL_call rfl rfl (prep_trim H b) (trim_cq b hb) ?_
 rw [← natV_trimL a, ← natV_trimL b]
 have ta := trim_trimL a
 have tb := trim_trimL b
 have la' := la.trimL
 have lb' := lb.trimL
 have hla : (trimL a).length ≤ 9223372036854775807 := by unfold trimL; simp; omega
 generalize trimL a = x at *
 generalize trimL b = y at *
 by_cases hlt : x.length < y.length
 · have h1 : ¬ ((x.length : Int) = (y.length : Int)) := by omega
   have h2 := natV_lt_of_len la' tb hlt
   simp [lim, hlt, h1, cmpN, h2, i64]
 · by_cases hgt : y.length < x.length
   · have h1 : ¬ ((x.length : Int) = (y.length : Int)) := by omega
     have h2 := natV_lt_of_len lb' ta hgt
     have h3 : ¬ natV x < natV y := by omega
     simp [lim, hlt, h1, cmpN, h2, h3, i64]
   · have heq : x.length = y.length := by omega
     simp [lim, heq]
     refine WK_loop (fun k E H' => H' = H ∧ E 0 = lim x ∧ E 1 = lim y ∧ k ≤ x.length ∧ E 5 = .int .i64 ((k : Int) - 1) ∧ x.drop k = y.drop k) x.length ?_ ?_
     · have e1 : IntKind.i64.wrap ((y.length : Int) - 1) = (y.length : Int) - 1 := by rw [wrap_i64] <;> omega
       have e2 : y.drop x.length = [] := by rw [heq]; exact List.drop_length
       simp [lim, e1, heq]
     · rintro n E H' ⟨rfl, h0, h1, hn, h5, hd⟩
       refine WC_round ?_
       simp only [lim] at h0 h1
       rcases n with _ | n
       · have e1 : x = y := by simpa using hd
         have e2 : ¬ ((0 : Int) ≤ -1) := by omega
         simp [c_natural_Cmp_l0, h5, e1, cmpN, i64]
       · have e1 : (n + 1 : Int) - 1 = n := by omega
         have hx : n < x.length := by omega
         have hy : n < y.length := by omega
         have p1 : ((0 : Int) ≤ n) := by omega
         by_cases hlt : x[n] < y[n]
         · have h2 := natV_lt_of_top la' hx hy hd hlt
           have h3 : ((x[n] : Int) < (y[n] : Int)) := by omega
           simp [c_natural_Cmp_l0, h0, h1, h5, e1, p1, hx, hy, u32, hlt, cmpN, h2, i64]
         · by_cases hgt : y[n] < x[n]
           · have h2 := natV_lt_of_top lb' hy hx hd.symm hgt
             have h3 : ¬ natV x < natV y := by omega
             simp [c_natural_Cmp_l0, h0, h1, h5, e1, p1, hx, hy, u32, hlt, hgt, cmpN, h2, h3, i64]
           · have e2 : IntKind.i64.wrap ((n : Int) - 1) = (n : Int) - 1 := by rw [wrap_i64] <;> omega
             simp [c_natural_Cmp_l0, h0, h1, h5, e1, p1, hx, hy, u32, hlt, hgt, e2]
             refine ⟨n, by omega, rfl, rfl, by omega, rfl, ?_⟩
             rw [List.drop_eq_getElem_cons hx, List.drop_eq_getElem_cons hy, hd]
             congr 1
             omega

end Go.Abs

/- The number of the bits of a limb. -/
namespace Go.Abs
theorem fn_Len32 : prog.fn g_math_bits_Len32 = some c_math_bits_Len32 := by rfl

/-- The number of the bits. -/
def bitL (n : Nat) : Nat := if n = 0 then 0 else Nat.log2 n + 1

theorem tab_len : ∀ i : Fin 256, str_0[i.val]? = some (UInt8.ofNat (bitL i.val)) := by decide +kernel

theorem tab_at {i : Nat} (h : i < 256) : str_0[i]? = some (UInt8.ofNat (bitL i)) := tab_len ⟨i, h⟩

theorem bitL_le {i : Nat} (h : i < 256) : bitL i ≤ 8 := by
 have : ∀ i : Fin 256, bitL i.val ≤ 8 := by decide +kernel
 exact this ⟨i, h⟩

theorem bitL_shift {n k : Nat} (h : 2 ^ k ≤ n) : bitL n = bitL (n / 2 ^ k) + k := by
 have h0 : 0 < 2 ^ k := Nat.two_pow_pos k
 have h1 : n ≠ 0 := by omega
 have h2 : n / 2 ^ k ≠ 0 := by
   have := (Nat.le_div_iff_mul_le h0 (x := 1) (y := n)).2 (by omega)
   omega
 unfold bitL
 rw [if_neg h1, if_neg h2]
 have : Nat.log2 n = Nat.log2 (n / 2 ^ k) + k := by
   rw [Nat.log2_eq_iff h1]
   have h3 := (Nat.log2_eq_iff h2).1 rfl
   rw [Nat.pow_add, show Nat.log2 (n / 2 ^ k) + k + 1 = (Nat.log2 (n / 2 ^ k) + 1) + k by omega, Nat.pow_add]
   exact ⟨(Nat.le_div_iff_mul_le h0).1 h3.1, (Nat.div_lt_iff_lt_mul h0).1 h3.2⟩
 omega

theorem bitL_eq {n b : Nat} (h0 : n ≠ 0) (h1 : 2 ^ b ≤ n) (h2 : n < 2 ^ (b + 1)) : bitL n = b + 1 := by
 unfold bitL
 rw [if_neg h0, (Nat.log2_eq_iff h0).2 ⟨h1, h2⟩]

theorem bitL_pow {n : Nat} (h : n ≠ 0) : 2 ^ (bitL n - 1) ≤ n ∧ n < 2 ^ bitL n ∧ 0 < bitL n := by
 unfold bitL
 rw [if_neg h]
 have := (Nat.log2_eq_iff h).1 rfl
 exact ⟨this.1, this.2, by omega⟩

theorem pow32 (n : Nat) : 4294967296 ^ n = 2 ^ (32 * n) := by rw [Nat.pow_mul]

/-- The bits of trimmed limbs: of the top one, and 32 for each other one. -/
theorem bitL_top {l : List Nat} {t : Nat} (hl : Li l) (ht : t ≠ 0) : bitL (natV (l ++ [t])) = 32 * l.length + bitL t := by
 have h1 := natV_lt hl
 obtain ⟨h2, h3, h4⟩ := bitL_pow ht
 rw [natV_append]
 simp only [natV, Nat.mul_zero, Nat.add_zero]
 rw [pow32] at h1 ⊢
 have e1 : 2 ^ (32 * l.length) * t ≥ 2 ^ (32 * l.length) * 2 ^ (bitL t - 1) := Nat.mul_le_mul_left _ h2
 have e2 : 2 ^ (32 * l.length) * (t + 1) ≤ 2 ^ (32 * l.length) * 2 ^ bitL t := Nat.mul_le_mul_left _ h3
 rw [← Nat.pow_add] at e1 e2
 rw [Nat.mul_add, Nat.mul_one] at e2
 have hp := Nat.two_pow_pos (32 * l.length + (bitL t - 1))
 have := bitL_eq (n := natV l + 2 ^ (32 * l.length) * t) (b := 32 * l.length + (bitL t - 1)) (by omega) (by omega) (by rw [show 32 * l.length + (bitL t - 1) + 1 = 32 * l.length + bitL t by omega]; omega)
 omega

theorem bitL_lt {t : Nat} (h : t < 4294967296) : bitL t ≤ 32 := by
 unfold bitL
 split
 · omega
 · rename_i h0
   have := (Nat.log2_lt h0 (k := 32)).2 (by omega)
   omega

end Go.Abs

namespace Go.Abs
attribute [local simp] WK_cond_iff WL_cons_iff stepL gd shiftI

theorem fdiv_nat (x k : Nat) : Int.fdiv (x : Int) (k : Int) = ((x / k : Nat) : Int) := by
 rw [Int.fdiv_eq_ediv_of_nonneg _ (by omega)]; rfl

theorem fdiv_65536 (x : Nat) : Int.fdiv (x : Int) 65536 = ((x / 65536 : Nat) : Int) := fdiv_nat x 65536
theorem fdiv_256 (x : Nat) : Int.fdiv (x : Int) 256 = ((x / 256 : Nat) : Int) := fdiv_nat x 256

theorem wrap_u8 {n : Int} (h1 : 0 ≤ n) (h2 : n < 256) : IntKind.wrap .u8 n = n := by
 simp only [IntKind.wrap, IntKind.bits, IntKind.signed]; simp; omega

theorem len_fact {y : Nat} (h : y < 256) : ((UInt8.ofNat (bitL y)).toNat : Int) = bitL y := by
 have := bitL_le h
 simp; omega

@[simp] theorem bits_u32 : IntKind.u32.bits = 32 := rfl
@[simp] theorem bits_u64 : IntKind.u64.bits = 64 := rfl
@[simp] theorem bits_i64 : IntKind.i64.bits = 64 := rfl
theorem w8 : IntKind.i64.wrap 8 = 8 := by decide
theorem w24 : IntKind.i64.wrap 24 = 24 := by decide

set_option maxHeartbeats 1000000 in
theorem Len32_cq (x : Nat) (hx : x < 4294967296) : CQ prog g_math_bits_Len32 [u32 x] (i64 (bitL x)) := by
 refine CQ_run fn_Len32 fun H => ?_
 have fin' : ∀ (y k : Nat), y < 256 → k ≤ 24 → bitL x = bitL y + k → IntKind.i64.wrap ((k : Int) + IntKind.i64.wrap (((UInt8.ofNat (bitL y)).toNat : Nat) : Int)) = bitL x := by
   intro y k hy hk he
   have := bitL_le hy
   rw [len_fact hy, wrap_i64 (n := (bitL y : Int)) (by omega) (by omega), wrap_i64 (by omega) (by omega), he]
   omega
 have u8' : ∀ y : Nat, y < 256 → IntKind.u8.wrap (y : Int) = y := fun y hy => wrap_u8 (by omega) (by omega)
 by_cases h1 : x < 65536
 · have e1 : ¬ ((65536 : Int) ≤ x) := by omega
   by_cases h2 : x < 256
   · have e2 : ¬ ((256 : Int) ≤ x) := by omega
     have := fin' x 0 h2 (by omega) rfl
     simp [u32, e1, e2, u8' x h2, tab_at h2, i64]
     simpa using this
   · have e2 : ((256 : Int) ≤ x) := by omega
     obtain ⟨y, hy⟩ : ∃ y, y = x / 256 := ⟨_, rfl⟩
     have f1 : Int.fdiv (x : Int) 256 = (y : Int) := by rw [hy]; exact fdiv_256 x
     have h3 : y < 256 := by omega
     have := fin' y 8 h3 (by omega) (by rw [hy]; exact bitL_shift (k := 8) (by omega))
     simp [u32, e1, e2, f1, w8, u8' _ h3, tab_at h3, i64]
     simpa using this
 · have e1 : ((65536 : Int) ≤ x) := by omega
   obtain ⟨y, hy⟩ : ∃ y, y = x / 65536 := ⟨_, rfl⟩
   have f1 : Int.fdiv (x : Int) 65536 = (y : Int) := by rw [hy]; exact fdiv_65536 x
   have he : bitL x = bitL y + 16 := by rw [hy]; exact bitL_shift (k := 16) (by omega)
   by_cases h2 : y < 256
   · have e2 : ¬ ((256 : Int) ≤ y) := by omega
     have := fin' y 16 h2 (by omega) he
     simp [u32, e1, e2, f1, u8' _ h2, tab_at h2, i64]
     simpa using this
   · have e2 : ((256 : Int) ≤ y) := by omega
     obtain ⟨z, hz⟩ : ∃ z, z = y / 256 := ⟨_, rfl⟩
     have f2 : Int.fdiv (y : Int) 256 = (z : Int) := by rw [hz]; exact fdiv_256 y
     have h3 : z < 256 := by omega
     have he2 : bitL y = bitL z + 8 := by rw [hz]; exact bitL_shift (k := 8) (by omega)
     have := fin' z 24 h3 (by omega) (by rw [he, he2])
     simp [u32, e1, e2, f1, f2, w24, u8' _ h3, tab_at h3, i64]
     simpa using this
end Go.Abs

namespace Go.Abs
attribute [local simp] WK_cond_iff WL_cons_iff stepL gd

theorem fn_natural_Bits : prog.fn g_natural_Bits = some c_natural_Bits := by rfl

@[simp] theorem prep_lim (g : Nat) (hg : (prog.fn g).elim true (fun f => !f.raw) = true) (H : Heap) (l : List Nat) : prep prog g H [lim l] = some ([lim l], H) := by
 unfold prep
 cases hq : prog.fn g with
 | none => rfl
 | some f => rw [hq] at hg; simp at hg; simp [hg]

theorem snoc_cases (l : List Nat) : l = [] ∨ ∃ k t, l = k ++ [t] := by
 cases l with
 | nil => exact .inl rfl
 | cons x xs => exact .inr ⟨(x :: xs).dropLast, (x :: xs).getLast (by simp), (List.dropLast_concat_getLast (by simp)).symm⟩

set_option maxHeartbeats 1000000 in
theorem Bits_cq (a : List Nat) (ha : a.length ≤ 100000000) (la : Li a) : CQ prog g_natural_Bits [lim a] (i64 (bitL (natV a))) := by
 refine CQ_run fn_natural_Bits fun H => ?_
 simp
 refine WL_call rfl rfl (prep_trim H a) (trim_cq a (by omega)) ?_
 rw [← natV_trimL a]
 have ta := trim_trimL a
 have la' := la.trimL
 have hla : (trimL a).length ≤ 100000000 := by unfold trimL; simp; omega
 generalize trimL a = x at *
 rcases snoc_cases x with rfl | ⟨k, t, rfl⟩
 · simp [lim, natV, bitL, i64]
 · have hk : k.length ≤ 100000000 := by simp at hla; omega
   have ht : t ≠ 0 := ta t (by simp)
   have ht2 : t < 4294967296 := la' t (by simp)
   have lk : Li k := fun y hy => la' y (by simp [hy])
   have e1 : ¬ ((k.length : Int) + 1 = 0) := by omega
   have e2 : IntKind.i64.wrap (k.length : Int) = k.length := by rw [wrap_i64] <;> omega
   have e3 : IntKind.i64.wrap (32 * (k.length : Int)) = 32 * k.length := by rw [wrap_i64] <;> omega
   simp [lim, e1, e2, e3]
   refine WL_call rfl rfl (vs := [u32 t]) rfl (Len32_cq t ht2) ?_
   have e4 : IntKind.i64.wrap (32 * (k.length : Int) + bitL t) = bitL (natV (k ++ [t])) := by
     have := bitL_lt ht2
     rw [bitL_top lk ht, wrap_i64] <;> omega
   simp [i64, e4]

end Go.Abs

