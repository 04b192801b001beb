/- Parts of the proof: FpSeatX, FpEndSX. -/
import Derived.Test.YteajloobgibenaaGreatDoorProg
import Derived.KernelRfl
import Derived.Test.YteajloobgibenaaGreatDoorCards
import Derived.Test.YteajloobgibenaaGreatDoorTie
import Derived.WalkKit
import Derived.ProofKit
import Derived.OpenShut
import Derived.Deep.DeepHandedRow
import Derived.Lib.LaidTab
import Derived.Test.YteajloobgibenaaGreatDoorGr
import Derived.Test.YteajloobgibenaaGreatDoorFb
import Derived.Test.YteajloobgibenaaGreatDoorFd
import Derived.Test.YteajloobgibenaaGreatDoorFb
/- MADE BY A PROGRAM (wip/tools/mkseat.py): the functions of this seat's program are the abstract ones. -/
namespace Go.Abs
open Go.Proofs
set_option maxRecDepth 100000

def gidList : List Nat := [0, 0, 0, 0, 334, 0, 0, 0, 333, 281, 282, 283, 284, 285, 60, 109, 332, 287, 288, 289, 290, 291, 292, 293, 294, 295, 296, 297, 67, 298, 0, 77, 0, 331, 0, 90, 302, 303, 304, 305, 306, 307, 0, 0, 94, 0, 311, 158, 312, 313, 314, 315, 142, 316, 140, 107, 138, 23, 175, 154, 145, 317, 153, 74, 318, 319, 320, 139, 146, 89, 321, 96, 51, 52, 104, 105, 322, 323, 324, 325, 330, 178, 179, 106, 83, 176, 326, 204, 189, 327, 186, 173, 190, 193, 194, 152, 210, 191, 192, 187, 188, 63, 195, 108, 174, 202, 206, 93, 92, 203, 196, 197, 328, 329, 85, 147, 148, 78, 79, 80, 156, 211, 157, 212, 54, 213, 57, 207, 208, 223, 224, 225, 218, 217, 216, 70, 219, 226, 227, 228, 229, 18, 220, 185, 56, 101, 102, 103, 198, 97, 98, 99, 100, 165, 164, 234, 200, 199, 167, 166, 201, 230, 244, 245, 246, 119, 221, 235, 239, 240, 241, 237, 110, 238, 222, 236, 91, 12, 242, 247, 248, 249, 250, 232, 251, 252, 55, 215, 84, 86, 87, 111, 112, 205, 253, 254, 261, 114, 115, 262, 255, 260, 113, 259, 243, 256, 257, 258, 49, 263, 116, 264, 265, 117, 118, 267, 268, 269, 270, 271, 266, 120, 273, 274, 272, 0, 0, 0, 0, 0, 0, 0, 0, 0, 0, 0, 0, 0, 0, 0, 0, 0, 0, 0, 0, 0]

def tabList : List (Nat × List V) := [(0, [.int .u8 0, .int .u8 1, .int .u8 28, .int .u8 2, .int .u8 29, .int .u8 14, .int .u8 24, .int .u8 3, .int .u8 30, .int .u8 22, .int .u8 20, .int .u8 15, .int .u8 25, .int .u8 17, .int .u8 4, .int .u8 8, .int .u8 31, .int .u8 27, .int .u8 13, .int .u8 23, .int .u8 21, .int .u8 19, .int .u8 16, .int .u8 7, .int .u8 26, .int .u8 12, .int .u8 18, .int .u8 6, .int .u8 11, .int .u8 5, .int .u8 10, .int .u8 9])]

noncomputable def tab : Tab := ⟨Tryz.prog, ⟨gidOf gidList, tabsOf tabList⟩⟩

theorem k4 : RowOk tab ⟨4, 334, c_fplaw21_SeriesSumsR⟩ := ⟨Tryz.f4, Tryz.func4, by kernel_rfl⟩
theorem k8 : RowOk tab ⟨8, 333, c_fplaw21_awakeR⟩ := ⟨Tryz.f8, Tryz.func8, by kernel_rfl⟩
theorem k9 : RowOk tab ⟨9, 281, c_fplaw21_great⟩ := ⟨Tryz.f9, Tryz.func9, by kernel_rfl⟩
theorem k10 : RowOk tab ⟨10, 282, c_series_Integral⟩ := ⟨Tryz.f10, Tryz.func10, by kernel_rfl⟩
theorem k11 : RowOk tab ⟨11, 283, c_series_Derivative⟩ := ⟨Tryz.f11, Tryz.func11, by kernel_rfl⟩
theorem k13 : RowOk tab ⟨13, 285, c_fpref21_Right⟩ := ⟨Tryz.f13, Tryz.func13, by kernel_rfl⟩
theorem k14 : RowOk tab ⟨14, 60, c_fpref05_Equal⟩ := ⟨Tryz.f14, Tryz.func14, by kernel_rfl⟩
theorem k15 : RowOk tab ⟨15, 109, c_fpref05_Whole⟩ := ⟨Tryz.f15, Tryz.func15, by kernel_rfl⟩
theorem k16 : RowOk tab ⟨16, 332, c_fplaw21_sameR⟩ := ⟨Tryz.f16, Tryz.func16, by kernel_rfl⟩
theorem k20 : RowOk tab ⟨20, 290, c_series_Constant⟩ := ⟨Tryz.f20, Tryz.func20, by kernel_rfl⟩
theorem k21 : RowOk tab ⟨21, 291, c_series_Variable⟩ := ⟨Tryz.f21, Tryz.func21, by kernel_rfl⟩
theorem k22 : RowOk tab ⟨22, 292, c_slices_Repeat_Interval⟩ := ⟨Tryz.f22, Tryz.func22, by kernel_rfl⟩
theorem k23 : RowOk tab ⟨23, 293, c_fpref21_Num⟩ := ⟨Tryz.f23, Tryz.func23, by kernel_rfl⟩
theorem k24 : RowOk tab ⟨24, 294, c_series_Add⟩ := ⟨Tryz.f24, Tryz.func24, by kernel_rfl⟩
theorem k25 : RowOk tab ⟨25, 295, c_series_Sub⟩ := ⟨Tryz.f25, Tryz.func25, by kernel_rfl⟩
theorem k26 : RowOk tab ⟨26, 296, c_fplaw21_pair⟩ := ⟨Tryz.f26, Tryz.func26, by kernel_rfl⟩
theorem k27 : RowOk tab ⟨27, 297, c_fpref21_Sum⟩ := ⟨Tryz.f27, Tryz.func27, by kernel_rfl⟩
theorem k28 : RowOk tab ⟨28, 67, c_slices_ContainsFunc_Interval⟩ := ⟨Tryz.f28, Tryz.func28, by kernel_rfl⟩
theorem k29 : RowOk tab ⟨29, 298, c_slices_Concat_Interval⟩ := ⟨Tryz.f29, Tryz.func29, by kernel_rfl⟩
theorem k31 : RowOk tab ⟨31, 77, c_interval_Valid⟩ := ⟨Tryz.f31, Tryz.func31, by kernel_rfl⟩
theorem k33 : RowOk tab ⟨33, 331, c_slices_EqualFuncR_Interval⟩ := ⟨Tryz.f33, Tryz.func33, by kernel_rfl⟩
theorem k35 : RowOk tab ⟨35, 90, c_interval_Meet⟩ := ⟨Tryz.f35, Tryz.func35, by kernel_rfl⟩
theorem k36 : RowOk tab ⟨36, 302, c_series_Mul⟩ := ⟨Tryz.f36, Tryz.func36, by kernel_rfl⟩
theorem k37 : RowOk tab ⟨37, 303, c_series_Div⟩ := ⟨Tryz.f37, Tryz.func37, by kernel_rfl⟩
theorem k38 : RowOk tab ⟨38, 304, c_series_Power⟩ := ⟨Tryz.f38, Tryz.func38, by kernel_rfl⟩
theorem k44 : RowOk tab ⟨44, 94, c_interval_Hull⟩ := ⟨Tryz.f44, Tryz.func44, by kernel_rfl⟩
theorem k46 : RowOk tab ⟨46, 311, c_series_Sqrt⟩ := ⟨Tryz.f46, Tryz.func46, by kernel_rfl⟩
theorem k47 : RowOk tab ⟨47, 158, c_interval_Scale⟩ := ⟨Tryz.f47, Tryz.func47, by kernel_rfl⟩
theorem k48 : RowOk tab ⟨48, 312, c_slices_ContainsFunc_Intervals⟩ := ⟨Tryz.f48, Tryz.func48, by kernel_rfl⟩
theorem k49 : RowOk tab ⟨49, 313, c_fplaw21_great_1⟩ := ⟨Tryz.f49, Tryz.func49, by kernel_rfl⟩
theorem k50 : RowOk tab ⟨50, 314, c_fplaw21_great_1_1⟩ := ⟨Tryz.f50, Tryz.func50, by kernel_rfl⟩
theorem k51 : RowOk tab ⟨51, 315, c_series_are⟩ := ⟨Tryz.f51, Tryz.func51, by kernel_rfl⟩
theorem k52 : RowOk tab ⟨52, 142, c_interval_Div⟩ := ⟨Tryz.f52, Tryz.func52, by kernel_rfl⟩
theorem k53 : RowOk tab ⟨53, 316, c_series_whole⟩ := ⟨Tryz.f53, Tryz.func53, by kernel_rfl⟩
theorem k54 : RowOk tab ⟨54, 140, c_interval_Mul⟩ := ⟨Tryz.f54, Tryz.func54, by kernel_rfl⟩
theorem k55 : RowOk tab ⟨55, 107, c_interval_Whole⟩ := ⟨Tryz.f55, Tryz.func55, by kernel_rfl⟩
theorem k56 : RowOk tab ⟨56, 138, c_interval_Add⟩ := ⟨Tryz.f56, Tryz.func56, by kernel_rfl⟩
theorem k57 : RowOk tab ⟨57, 23, c_fpref02_Equal⟩ := ⟨Tryz.f57, Tryz.func57, by kernel_rfl⟩
theorem k60 : RowOk tab ⟨60, 145, c_fpref05_Add⟩ := ⟨Tryz.f60, Tryz.func60, by kernel_rfl⟩
theorem k61 : RowOk tab ⟨61, 317, c_math_bits_Mul⟩ := ⟨Tryz.f61, Tryz.func61, by kernel_rfl⟩
theorem k62 : RowOk tab ⟨62, 153, c_fpref05_Point⟩ := ⟨Tryz.f62, Tryz.func62, by kernel_rfl⟩
theorem k63 : RowOk tab ⟨63, 74, c_fpref02_Int⟩ := ⟨Tryz.f63, Tryz.func63, by kernel_rfl⟩
theorem k64 : RowOk tab ⟨64, 318, c_series_each⟩ := ⟨Tryz.f64, Tryz.func64, by kernel_rfl⟩
theorem k65 : RowOk tab ⟨65, 319, c_series_Add_1⟩ := ⟨Tryz.f65, Tryz.func65, by kernel_rfl⟩
theorem k66 : RowOk tab ⟨66, 320, c_series_Sub_1⟩ := ⟨Tryz.f66, Tryz.func66, by kernel_rfl⟩
theorem k67 : RowOk tab ⟨67, 139, c_interval_Sub⟩ := ⟨Tryz.f67, Tryz.func67, by kernel_rfl⟩
theorem k68 : RowOk tab ⟨68, 146, c_fpref05_Sub⟩ := ⟨Tryz.f68, Tryz.func68, by kernel_rfl⟩
theorem k69 : RowOk tab ⟨69, 89, c_slices_IndexFunc_Interval⟩ := ⟨Tryz.f69, Tryz.func69, by kernel_rfl⟩
theorem k70 : RowOk tab ⟨70, 321, c_slices_Grow_Interval⟩ := ⟨Tryz.f70, Tryz.func70, by kernel_rfl⟩
theorem k71 : RowOk tab ⟨71, 96, c_interval_Valid_1⟩ := ⟨Tryz.f71, Tryz.func71, by kernel_rfl⟩
theorem k72 : RowOk tab ⟨72, 51, c_dyadic_Valid⟩ := ⟨Tryz.f72, Tryz.func72, by kernel_rfl⟩
theorem k73 : RowOk tab ⟨73, 52, c_dyadic_Cmp⟩ := ⟨Tryz.f73, Tryz.func73, by kernel_rfl⟩
theorem k74 : RowOk tab ⟨74, 104, c_interval_more⟩ := ⟨Tryz.f74, Tryz.func74, by kernel_rfl⟩
theorem k75 : RowOk tab ⟨75, 105, c_interval_less⟩ := ⟨Tryz.f75, Tryz.func75, by kernel_rfl⟩
theorem k76 : RowOk tab ⟨76, 322, c_series_sum⟩ := ⟨Tryz.f76, Tryz.func76, by kernel_rfl⟩
theorem k77 : RowOk tab ⟨77, 323, c_series_Mul_1⟩ := ⟨Tryz.f77, Tryz.func77, by kernel_rfl⟩
theorem k78 : RowOk tab ⟨78, 324, c_series_less⟩ := ⟨Tryz.f78, Tryz.func78, by kernel_rfl⟩
theorem k79 : RowOk tab ⟨79, 325, c_series_Div_1⟩ := ⟨Tryz.f79, Tryz.func79, by kernel_rfl⟩
theorem k80 : RowOk tab ⟨80, 330, c_slices_CloneO_Interval⟩ := ⟨Tryz.f80, Tryz.func80, by kernel_rfl⟩
theorem k81 : RowOk tab ⟨81, 178, c_interval_Power⟩ := ⟨Tryz.f81, Tryz.func81, by kernel_rfl⟩
theorem k83 : RowOk tab ⟨83, 106, c_interval_known⟩ := ⟨Tryz.f83, Tryz.func83, by kernel_rfl⟩
theorem k84 : RowOk tab ⟨84, 83, c_interval_Inside⟩ := ⟨Tryz.f84, Tryz.func84, by kernel_rfl⟩
theorem k85 : RowOk tab ⟨85, 176, c_interval_Sqrt⟩ := ⟨Tryz.f85, Tryz.func85, by kernel_rfl⟩
theorem k86 : RowOk tab ⟨86, 326, c_series_Sqrt_1⟩ := ⟨Tryz.f86, Tryz.func86, by kernel_rfl⟩
theorem k87 : RowOk tab ⟨87, 204, c_dyadic_Scale⟩ := ⟨Tryz.f87, Tryz.func87, by kernel_rfl⟩
theorem k88 : RowOk tab ⟨88, 189, c_interval_made⟩ := ⟨Tryz.f88, Tryz.func88, by kernel_rfl⟩
theorem k89 : RowOk tab ⟨89, 327, c_slices_IndexFunc_Intervals⟩ := ⟨Tryz.f89, Tryz.func89, by kernel_rfl⟩
theorem k90 : RowOk tab ⟨90, 186, c_interval_permitted⟩ := ⟨Tryz.f90, Tryz.func90, by kernel_rfl⟩
theorem k91 : RowOk tab ⟨91, 173, c_interval_Sign⟩ := ⟨Tryz.f91, Tryz.func91, by kernel_rfl⟩
theorem k92 : RowOk tab ⟨92, 190, c_interval_four⟩ := ⟨Tryz.f92, Tryz.func92, by kernel_rfl⟩
theorem k93 : RowOk tab ⟨93, 193, c_round_DivDown⟩ := ⟨Tryz.f93, Tryz.func93, by kernel_rfl⟩
theorem k94 : RowOk tab ⟨94, 194, c_round_DivUp⟩ := ⟨Tryz.f94, Tryz.func94, by kernel_rfl⟩
theorem k95 : RowOk tab ⟨95, 152, c_interval_Point⟩ := ⟨Tryz.f95, Tryz.func95, by kernel_rfl⟩
theorem k96 : RowOk tab ⟨96, 210, c_dyadic_Int⟩ := ⟨Tryz.f96, Tryz.func96, by kernel_rfl⟩
theorem k97 : RowOk tab ⟨97, 191, c_round_MulDown⟩ := ⟨Tryz.f97, Tryz.func97, by kernel_rfl⟩
theorem k98 : RowOk tab ⟨98, 192, c_round_MulUp⟩ := ⟨Tryz.f98, Tryz.func98, by kernel_rfl⟩
theorem k99 : RowOk tab ⟨99, 187, c_round_AddDown⟩ := ⟨Tryz.f99, Tryz.func99, by kernel_rfl⟩
theorem k100 : RowOk tab ⟨100, 188, c_round_AddUp⟩ := ⟨Tryz.f100, Tryz.func100, by kernel_rfl⟩
theorem k101 : RowOk tab ⟨101, 63, c_fpref02_compare⟩ := ⟨Tryz.f101, Tryz.func101, by kernel_rfl⟩
theorem k102 : RowOk tab ⟨102, 195, c_fpref05_Prec⟩ := ⟨Tryz.f102, Tryz.func102, by kernel_rfl⟩
theorem k103 : RowOk tab ⟨103, 108, c_fpref05_known⟩ := ⟨Tryz.f103, Tryz.func103, by kernel_rfl⟩
theorem k110 : RowOk tab ⟨110, 196, c_fpref03_Add⟩ := ⟨Tryz.f110, Tryz.func110, by kernel_rfl⟩
theorem k111 : RowOk tab ⟨111, 197, c_fpref05_made⟩ := ⟨Tryz.f111, Tryz.func111, by kernel_rfl⟩
theorem k112 : RowOk tab ⟨112, 328, c_math_bits_Mul32⟩ := ⟨Tryz.f112, Tryz.func112, by kernel_rfl⟩
theorem k113 : RowOk tab ⟨113, 329, c_math_bits_Mul64⟩ := ⟨Tryz.f113, Tryz.func113, by kernel_rfl⟩
theorem k114 : RowOk tab ⟨114, 85, c_fpref02_Of⟩ := ⟨Tryz.f114, Tryz.func114, by kernel_rfl⟩
theorem k115 : RowOk tab ⟨115, 147, c_interval_Neg⟩ := ⟨Tryz.f115, Tryz.func115, by kernel_rfl⟩
theorem k116 : RowOk tab ⟨116, 148, c_fpref05_Neg⟩ := ⟨Tryz.f116, Tryz.func116, by kernel_rfl⟩
theorem k117 : RowOk tab ⟨117, 78, c_dyadic_inRange⟩ := ⟨Tryz.f117, Tryz.func117, by kernel_rfl⟩
theorem k118 : RowOk tab ⟨118, 79, c_dyadic_Sign⟩ := ⟨Tryz.f118, Tryz.func118, by kernel_rfl⟩
theorem k119 : RowOk tab ⟨119, 80, c_dyadic_compare⟩ := ⟨Tryz.f119, Tryz.func119, by kernel_rfl⟩
theorem k120 : RowOk tab ⟨120, 156, c_interval_Abs⟩ := ⟨Tryz.f120, Tryz.func120, by kernel_rfl⟩
theorem k121 : RowOk tab ⟨121, 211, c_interval_end⟩ := ⟨Tryz.f121, Tryz.func121, by kernel_rfl⟩
theorem k124 : RowOk tab ⟨124, 54, c_fpref02_Sign⟩ := ⟨Tryz.f124, Tryz.func124, by kernel_rfl⟩
theorem k126 : RowOk tab ⟨126, 57, c_fpref02_Neg⟩ := ⟨Tryz.f126, Tryz.func126, by kernel_rfl⟩
theorem k127 : RowOk tab ⟨127, 207, c_round_SqrtDown⟩ := ⟨Tryz.f127, Tryz.func127, by kernel_rfl⟩
theorem k128 : RowOk tab ⟨128, 208, c_round_SqrtUp⟩ := ⟨Tryz.f128, Tryz.func128, by kernel_rfl⟩
theorem k129 : RowOk tab ⟨129, 223, c_dyadic_exponent⟩ := ⟨Tryz.f129, Tryz.func129, by kernel_rfl⟩
theorem k130 : RowOk tab ⟨130, 224, c_dyadic_checked⟩ := ⟨Tryz.f130, Tryz.func130, by kernel_rfl⟩
theorem k131 : RowOk tab ⟨131, 225, c_dyadic_canonical⟩ := ⟨Tryz.f131, Tryz.func131, by kernel_rfl⟩
theorem k132 : RowOk tab ⟨132, 218, c_round_div⟩ := ⟨Tryz.f132, Tryz.func132, by kernel_rfl⟩
theorem k133 : RowOk tab ⟨133, 217, c_round_mul⟩ := ⟨Tryz.f133, Tryz.func133, by kernel_rfl⟩
theorem k134 : RowOk tab ⟨134, 216, c_round_add⟩ := ⟨Tryz.f134, Tryz.func134, by kernel_rfl⟩
theorem k135 : RowOk tab ⟨135, 70, c_fpref05_Valid⟩ := ⟨Tryz.f135, Tryz.func135, by kernel_rfl⟩
theorem k136 : RowOk tab ⟨136, 219, c_fpref03_fault⟩ := ⟨Tryz.f136, Tryz.func136, by kernel_rfl⟩
theorem k137 : RowOk tab ⟨137, 226, c_fpref01_Bits⟩ := ⟨Tryz.f137, Tryz.func137, by kernel_rfl⟩
theorem k139 : RowOk tab ⟨139, 228, c_fpref01_Shl⟩ := ⟨Tryz.f139, Tryz.func139, by kernel_rfl⟩
theorem k140 : RowOk tab ⟨140, 229, c_fpref03_Cut⟩ := ⟨Tryz.f140, Tryz.func140, by kernel_rfl⟩
theorem k141 : RowOk tab ⟨141, 18, c_fpref02_Cmp⟩ := ⟨Tryz.f141, Tryz.func141, by kernel_rfl⟩
theorem k142 : RowOk tab ⟨142, 220, c_fpref03_exact⟩ := ⟨Tryz.f142, Tryz.func142, by kernel_rfl⟩
theorem k144 : RowOk tab ⟨144, 56, c_fpref02_Sum⟩ := ⟨Tryz.f144, Tryz.func144, by kernel_rfl⟩
theorem k145 : RowOk tab ⟨145, 101, c_fpref02_trim⟩ := ⟨Tryz.f145, Tryz.func145, by kernel_rfl⟩
theorem k146 : RowOk tab ⟨146, 102, c_fpref02_zeros⟩ := ⟨Tryz.f146, Tryz.func146, by kernel_rfl⟩
theorem k147 : RowOk tab ⟨147, 103, c_fpref02_right⟩ := ⟨Tryz.f147, Tryz.func147, by kernel_rfl⟩
theorem k148 : RowOk tab ⟨148, 198, c_dyadic_Neg⟩ := ⟨Tryz.f148, Tryz.func148, by kernel_rfl⟩
theorem k149 : RowOk tab ⟨149, 97, c_dyadic_size⟩ := ⟨Tryz.f149, Tryz.func149, by kernel_rfl⟩
theorem k150 : RowOk tab ⟨150, 98, c_dyadic_Top⟩ := ⟨Tryz.f150, Tryz.func150, by kernel_rfl⟩
theorem k151 : RowOk tab ⟨151, 99, c_natural_Cmp⟩ := ⟨Tryz.f151, Tryz.func151, by kernel_rfl⟩
theorem k152 : RowOk tab ⟨152, 100, c_dyadic_shifted⟩ := ⟨Tryz.f152, Tryz.func152, by kernel_rfl⟩
theorem k153 : RowOk tab ⟨153, 165, c_interval_Mig⟩ := ⟨Tryz.f153, Tryz.func153, by kernel_rfl⟩
theorem k154 : RowOk tab ⟨154, 164, c_interval_Mag⟩ := ⟨Tryz.f154, Tryz.func154, by kernel_rfl⟩
theorem k155 : RowOk tab ⟨155, 234, c_interval_power⟩ := ⟨Tryz.f155, Tryz.func155, by kernel_rfl⟩
theorem k156 : RowOk tab ⟨156, 200, c_round_Up⟩ := ⟨Tryz.f156, Tryz.func156, by kernel_rfl⟩
theorem k157 : RowOk tab ⟨157, 199, c_round_Down⟩ := ⟨Tryz.f157, Tryz.func157, by kernel_rfl⟩
theorem k161 : RowOk tab ⟨161, 230, c_round_sqrt⟩ := ⟨Tryz.f161, Tryz.func161, by kernel_rfl⟩
theorem k162 : RowOk tab ⟨162, 244, c_dyadic_trimmed⟩ := ⟨Tryz.f162, Tryz.func162, by kernel_rfl⟩
theorem k163 : RowOk tab ⟨163, 245, c_dyadic_low⟩ := ⟨Tryz.f163, Tryz.func163, by kernel_rfl⟩
theorem k164 : RowOk tab ⟨164, 246, c_natural_Shr⟩ := ⟨Tryz.f164, Tryz.func164, by kernel_rfl⟩
theorem k165 : RowOk tab ⟨165, 119, c_slices_Clip_uint32⟩ := ⟨Tryz.f165, Tryz.func165, by kernel_rfl⟩
theorem k166 : RowOk tab ⟨166, 221, c_slices_Clone_uint32⟩ := ⟨Tryz.f166, Tryz.func166, by kernel_rfl⟩
theorem k167 : RowOk tab ⟨167, 235, c_round_fault⟩ := ⟨Tryz.f167, Tryz.func167, by kernel_rfl⟩
theorem k168 : RowOk tab ⟨168, 239, c_dyadic_Bits⟩ := ⟨Tryz.f168, Tryz.func168, by kernel_rfl⟩
theorem k169 : RowOk tab ⟨169, 240, c_natural_DivMod⟩ := ⟨Tryz.f169, Tryz.func169, by kernel_rfl⟩
theorem k170 : RowOk tab ⟨170, 241, c_round_shl⟩ := ⟨Tryz.f170, Tryz.func170, by kernel_rfl⟩
theorem k171 : RowOk tab ⟨171, 237, c_round_signed⟩ := ⟨Tryz.f171, Tryz.func171, by kernel_rfl⟩
theorem k172 : RowOk tab ⟨172, 110, c_natural_Bits⟩ := ⟨Tryz.f172, Tryz.func172, by kernel_rfl⟩
theorem k173 : RowOk tab ⟨173, 238, c_natural_Mul⟩ := ⟨Tryz.f173, Tryz.func173, by kernel_rfl⟩
theorem k174 : RowOk tab ⟨174, 222, c_round_round⟩ := ⟨Tryz.f174, Tryz.func174, by kernel_rfl⟩
theorem k175 : RowOk tab ⟨175, 236, c_round_sum⟩ := ⟨Tryz.f175, Tryz.func175, by kernel_rfl⟩
theorem k176 : RowOk tab ⟨176, 91, c_fpref05_zero⟩ := ⟨Tryz.f176, Tryz.func176, by kernel_rfl⟩
theorem k177 : RowOk tab ⟨177, 12, c_fpref02_Valid⟩ := ⟨Tryz.f177, Tryz.func177, by kernel_rfl⟩
theorem k178 : RowOk tab ⟨178, 242, c_fpref03_Prec⟩ := ⟨Tryz.f178, Tryz.func178, by kernel_rfl⟩
theorem k179 : RowOk tab ⟨179, 247, c_fpref01_Trim⟩ := ⟨Tryz.f179, Tryz.func179, by kernel_rfl⟩
theorem k181 : RowOk tab ⟨181, 249, c_fpref01_at⟩ := ⟨Tryz.f181, Tryz.func181, by kernel_rfl⟩
theorem k182 : RowOk tab ⟨182, 250, c_fpref01_Shr⟩ := ⟨Tryz.f182, Tryz.func182, by kernel_rfl⟩
theorem k183 : RowOk tab ⟨183, 232, c_fpref01_Cmp⟩ := ⟨Tryz.f183, Tryz.func183, by kernel_rfl⟩
theorem k184 : RowOk tab ⟨184, 251, c_fpref01_Add⟩ := ⟨Tryz.f184, Tryz.func184, by kernel_rfl⟩
theorem k185 : RowOk tab ⟨185, 252, c_fpref03_greatest⟩ := ⟨Tryz.f185, Tryz.func185, by kernel_rfl⟩
theorem k186 : RowOk tab ⟨186, 55, c_fpref02_Top⟩ := ⟨Tryz.f186, Tryz.func186, by kernel_rfl⟩
theorem k188 : RowOk tab ⟨188, 84, c_fpref02_left⟩ := ⟨Tryz.f188, Tryz.func188, by kernel_rfl⟩
theorem k189 : RowOk tab ⟨189, 86, c_fpref02_plus⟩ := ⟨Tryz.f189, Tryz.func189, by kernel_rfl⟩
theorem k190 : RowOk tab ⟨190, 87, c_fpref02_minus⟩ := ⟨Tryz.f190, Tryz.func190, by kernel_rfl⟩
theorem k191 : RowOk tab ⟨191, 111, c_natural_trim⟩ := ⟨Tryz.f191, Tryz.func191, by kernel_rfl⟩
theorem k192 : RowOk tab ⟨192, 112, c_natural_Shl⟩ := ⟨Tryz.f192, Tryz.func192, by kernel_rfl⟩
theorem k193 : RowOk tab ⟨193, 205, c_dyadic_Abs⟩ := ⟨Tryz.f193, Tryz.func193, by kernel_rfl⟩
theorem k194 : RowOk tab ⟨194, 253, c_natural_Sqrt⟩ := ⟨Tryz.f194, Tryz.func194, by kernel_rfl⟩
theorem k195 : RowOk tab ⟨195, 254, c_round_cut⟩ := ⟨Tryz.f195, Tryz.func195, by kernel_rfl⟩
theorem k196 : RowOk tab ⟨196, 261, c_math_bits_TrailingZeros32⟩ := ⟨Tryz.f196, Tryz.func196, by kernel_rfl⟩
theorem k197 : RowOk tab ⟨197, 114, c_natural_long⟩ := ⟨Tryz.f197, Tryz.func197, by kernel_rfl⟩
theorem k198 : RowOk tab ⟨198, 115, c_natural_done⟩ := ⟨Tryz.f198, Tryz.func198, by kernel_rfl⟩
theorem k199 : RowOk tab ⟨199, 262, c_natural_shr⟩ := ⟨Tryz.f199, Tryz.func199, by kernel_rfl⟩
theorem k200 : RowOk tab ⟨200, 255, c_round_precise⟩ := ⟨Tryz.f200, Tryz.func200, by kernel_rfl⟩
theorem k201 : RowOk tab ⟨201, 260, c_natural_divide⟩ := ⟨Tryz.f201, Tryz.func201, by kernel_rfl⟩
theorem k202 : RowOk tab ⟨202, 113, c_math_bits_Len32⟩ := ⟨Tryz.f202, Tryz.func202, by kernel_rfl⟩
theorem k203 : RowOk tab ⟨203, 259, c_natural_mul⟩ := ⟨Tryz.f203, Tryz.func203, by kernel_rfl⟩
theorem k204 : RowOk tab ⟨204, 243, c_round_of⟩ := ⟨Tryz.f204, Tryz.func204, by kernel_rfl⟩
theorem k205 : RowOk tab ⟨205, 256, c_round_shr⟩ := ⟨Tryz.f205, Tryz.func205, by kernel_rfl⟩
theorem k206 : RowOk tab ⟨206, 257, c_natural_Add⟩ := ⟨Tryz.f206, Tryz.func206, by kernel_rfl⟩
theorem k207 : RowOk tab ⟨207, 258, c_natural_Sub⟩ := ⟨Tryz.f207, Tryz.func207, by kernel_rfl⟩
theorem k208 : RowOk tab ⟨208, 49, c_fpref02_bits⟩ := ⟨Tryz.f208, Tryz.func208, by kernel_rfl⟩
theorem k209 : RowOk tab ⟨209, 263, c_fpref01_Sub⟩ := ⟨Tryz.f209, Tryz.func209, by kernel_rfl⟩
theorem k210 : RowOk tab ⟨210, 116, c_natural_shl⟩ := ⟨Tryz.f210, Tryz.func210, by kernel_rfl⟩
theorem k211 : RowOk tab ⟨211, 264, c_natural_add⟩ := ⟨Tryz.f211, Tryz.func211, by kernel_rfl⟩
theorem k212 : RowOk tab ⟨212, 265, c_dyadic_Make⟩ := ⟨Tryz.f212, Tryz.func212, by kernel_rfl⟩
theorem k213 : RowOk tab ⟨213, 117, c_slices_ContainsFunc_uint32s⟩ := ⟨Tryz.f213, Tryz.func213, by kernel_rfl⟩
theorem k214 : RowOk tab ⟨214, 118, c_natural_long_1⟩ := ⟨Tryz.f214, Tryz.func214, by kernel_rfl⟩
theorem k215 : RowOk tab ⟨215, 267, c_natural_short⟩ := ⟨Tryz.f215, Tryz.func215, by kernel_rfl⟩
theorem k216 : RowOk tab ⟨216, 268, c_math_bits_LeadingZeros32⟩ := ⟨Tryz.f216, Tryz.func216, by kernel_rfl⟩
theorem k217 : RowOk tab ⟨217, 269, c_natural_guess⟩ := ⟨Tryz.f217, Tryz.func217, by kernel_rfl⟩
theorem k218 : RowOk tab ⟨218, 270, c_natural_take⟩ := ⟨Tryz.f218, Tryz.func218, by kernel_rfl⟩
theorem k219 : RowOk tab ⟨219, 271, c_math_bits_Add32⟩ := ⟨Tryz.f219, Tryz.func219, by kernel_rfl⟩
theorem k220 : RowOk tab ⟨220, 266, c_natural_sub⟩ := ⟨Tryz.f220, Tryz.func220, by kernel_rfl⟩
theorem k221 : RowOk tab ⟨221, 120, c_slices_IndexFunc_uint32s⟩ := ⟨Tryz.f221, Tryz.func221, by kernel_rfl⟩
theorem k222 : RowOk tab ⟨222, 273, c_math_bits_Div32⟩ := ⟨Tryz.f222, Tryz.func222, by kernel_rfl⟩
theorem k223 : RowOk tab ⟨223, 274, c_natural_digit⟩ := ⟨Tryz.f223, Tryz.func223, by kernel_rfl⟩
theorem k224 : RowOk tab ⟨224, 272, c_math_bits_Sub32⟩ := ⟨Tryz.f224, Tryz.func224, by kernel_rfl⟩

def rows : List Row :=
 [⟨4, 334, c_fplaw21_SeriesSumsR⟩,
  ⟨8, 333, c_fplaw21_awakeR⟩,
  ⟨9, 281, c_fplaw21_great⟩,
  ⟨10, 282, c_series_Integral⟩,
  ⟨11, 283, c_series_Derivative⟩,
  ⟨13, 285, c_fpref21_Right⟩,
  ⟨14, 60, c_fpref05_Equal⟩,
  ⟨15, 109, c_fpref05_Whole⟩,
  ⟨16, 332, c_fplaw21_sameR⟩,
  ⟨20, 290, c_series_Constant⟩,
  ⟨21, 291, c_series_Variable⟩,
  ⟨22, 292, c_slices_Repeat_Interval⟩,
  ⟨23, 293, c_fpref21_Num⟩,
  ⟨24, 294, c_series_Add⟩,
  ⟨25, 295, c_series_Sub⟩,
  ⟨26, 296, c_fplaw21_pair⟩,
  ⟨27, 297, c_fpref21_Sum⟩,
  ⟨28, 67, c_slices_ContainsFunc_Interval⟩,
  ⟨29, 298, c_slices_Concat_Interval⟩,
  ⟨31, 77, c_interval_Valid⟩,
  ⟨33, 331, c_slices_EqualFuncR_Interval⟩,
  ⟨35, 90, c_interval_Meet⟩,
  ⟨36, 302, c_series_Mul⟩,
  ⟨37, 303, c_series_Div⟩,
  ⟨38, 304, c_series_Power⟩,
  ⟨44, 94, c_interval_Hull⟩,
  ⟨46, 311, c_series_Sqrt⟩,
  ⟨47, 158, c_interval_Scale⟩,
  ⟨48, 312, c_slices_ContainsFunc_Intervals⟩,
  ⟨49, 313, c_fplaw21_great_1⟩,
  ⟨50, 314, c_fplaw21_great_1_1⟩,
  ⟨51, 315, c_series_are⟩,
  ⟨52, 142, c_interval_Div⟩,
  ⟨53, 316, c_series_whole⟩,
  ⟨54, 140, c_interval_Mul⟩,
  ⟨55, 107, c_interval_Whole⟩,
  ⟨56, 138, c_interval_Add⟩,
  ⟨57, 23, c_fpref02_Equal⟩,
  ⟨60, 145, c_fpref05_Add⟩,
  ⟨61, 317, c_math_bits_Mul⟩,
  ⟨62, 153, c_fpref05_Point⟩,
  ⟨63, 74, c_fpref02_Int⟩,
  ⟨64, 318, c_series_each⟩,
  ⟨65, 319, c_series_Add_1⟩,
  ⟨66, 320, c_series_Sub_1⟩,
  ⟨67, 139, c_interval_Sub⟩,
  ⟨68, 146, c_fpref05_Sub⟩,
  ⟨69, 89, c_slices_IndexFunc_Interval⟩,
  ⟨70, 321, c_slices_Grow_Interval⟩,
  ⟨71, 96, c_interval_Valid_1⟩,
  ⟨72, 51, c_dyadic_Valid⟩,
  ⟨73, 52, c_dyadic_Cmp⟩,
  ⟨74, 104, c_interval_more⟩,
  ⟨75, 105, c_interval_less⟩,
  ⟨76, 322, c_series_sum⟩,
  ⟨77, 323, c_series_Mul_1⟩,
  ⟨78, 324, c_series_less⟩,
  ⟨79, 325, c_series_Div_1⟩,
  ⟨80, 330, c_slices_CloneO_Interval⟩,
  ⟨81, 178, c_interval_Power⟩,
  ⟨83, 106, c_interval_known⟩,
  ⟨84, 83, c_interval_Inside⟩,
  ⟨85, 176, c_interval_Sqrt⟩,
  ⟨86, 326, c_series_Sqrt_1⟩,
  ⟨87, 204, c_dyadic_Scale⟩,
  ⟨88, 189, c_interval_made⟩,
  ⟨89, 327, c_slices_IndexFunc_Intervals⟩,
  ⟨90, 186, c_interval_permitted⟩,
  ⟨91, 173, c_interval_Sign⟩,
  ⟨92, 190, c_interval_four⟩,
  ⟨93, 193, c_round_DivDown⟩,
  ⟨94, 194, c_round_DivUp⟩,
  ⟨95, 152, c_interval_Point⟩,
  ⟨96, 210, c_dyadic_Int⟩,
  ⟨97, 191, c_round_MulDown⟩,
  ⟨98, 192, c_round_MulUp⟩,
  ⟨99, 187, c_round_AddDown⟩,
  ⟨100, 188, c_round_AddUp⟩,
  ⟨101, 63, c_fpref02_compare⟩,
  ⟨102, 195, c_fpref05_Prec⟩,
  ⟨103, 108, c_fpref05_known⟩,
  ⟨110, 196, c_fpref03_Add⟩,
  ⟨111, 197, c_fpref05_made⟩,
  ⟨112, 328, c_math_bits_Mul32⟩,
  ⟨113, 329, c_math_bits_Mul64⟩,
  ⟨114, 85, c_fpref02_Of⟩,
  ⟨115, 147, c_interval_Neg⟩,
  ⟨116, 148, c_fpref05_Neg⟩,
  ⟨117, 78, c_dyadic_inRange⟩,
  ⟨118, 79, c_dyadic_Sign⟩,
  ⟨119, 80, c_dyadic_compare⟩,
  ⟨120, 156, c_interval_Abs⟩,
  ⟨121, 211, c_interval_end⟩,
  ⟨124, 54, c_fpref02_Sign⟩,
  ⟨126, 57, c_fpref02_Neg⟩,
  ⟨127, 207, c_round_SqrtDown⟩,
  ⟨128, 208, c_round_SqrtUp⟩,
  ⟨129, 223, c_dyadic_exponent⟩,
  ⟨130, 224, c_dyadic_checked⟩,
  ⟨131, 225, c_dyadic_canonical⟩,
  ⟨132, 218, c_round_div⟩,
  ⟨133, 217, c_round_mul⟩,
  ⟨134, 216, c_round_add⟩,
  ⟨135, 70, c_fpref05_Valid⟩,
  ⟨136, 219, c_fpref03_fault⟩,
  ⟨137, 226, c_fpref01_Bits⟩,
  ⟨139, 228, c_fpref01_Shl⟩,
  ⟨140, 229, c_fpref03_Cut⟩,
  ⟨141, 18, c_fpref02_Cmp⟩,
  ⟨142, 220, c_fpref03_exact⟩,
  ⟨144, 56, c_fpref02_Sum⟩,
  ⟨145, 101, c_fpref02_trim⟩,
  ⟨146, 102, c_fpref02_zeros⟩,
  ⟨147, 103, c_fpref02_right⟩,
  ⟨148, 198, c_dyadic_Neg⟩,
  ⟨149, 97, c_dyadic_size⟩,
  ⟨150, 98, c_dyadic_Top⟩,
  ⟨151, 99, c_natural_Cmp⟩,
  ⟨152, 100, c_dyadic_shifted⟩,
  ⟨153, 165, c_interval_Mig⟩,
  ⟨154, 164, c_interval_Mag⟩,
  ⟨155, 234, c_interval_power⟩,
  ⟨156, 200, c_round_Up⟩,
  ⟨157, 199, c_round_Down⟩,
  ⟨161, 230, c_round_sqrt⟩,
  ⟨162, 244, c_dyadic_trimmed⟩,
  ⟨163, 245, c_dyadic_low⟩,
  ⟨164, 246, c_natural_Shr⟩,
  ⟨165, 119, c_slices_Clip_uint32⟩,
  ⟨166, 221, c_slices_Clone_uint32⟩,
  ⟨167, 235, c_round_fault⟩,
  ⟨168, 239, c_dyadic_Bits⟩,
  ⟨169, 240, c_natural_DivMod⟩,
  ⟨170, 241, c_round_shl⟩,
  ⟨171, 237, c_round_signed⟩,
  ⟨172, 110, c_natural_Bits⟩,
  ⟨173, 238, c_natural_Mul⟩,
  ⟨174, 222, c_round_round⟩,
  ⟨175, 236, c_round_sum⟩,
  ⟨176, 91, c_fpref05_zero⟩,
  ⟨177, 12, c_fpref02_Valid⟩,
  ⟨178, 242, c_fpref03_Prec⟩,
  ⟨179, 247, c_fpref01_Trim⟩,
  ⟨181, 249, c_fpref01_at⟩,
  ⟨182, 250, c_fpref01_Shr⟩,
  ⟨183, 232, c_fpref01_Cmp⟩,
  ⟨184, 251, c_fpref01_Add⟩,
  ⟨185, 252, c_fpref03_greatest⟩,
  ⟨186, 55, c_fpref02_Top⟩,
  ⟨188, 84, c_fpref02_left⟩,
  ⟨189, 86, c_fpref02_plus⟩,
  ⟨190, 87, c_fpref02_minus⟩,
  ⟨191, 111, c_natural_trim⟩,
  ⟨192, 112, c_natural_Shl⟩,
  ⟨193, 205, c_dyadic_Abs⟩,
  ⟨194, 253, c_natural_Sqrt⟩,
  ⟨195, 254, c_round_cut⟩,
  ⟨196, 261, c_math_bits_TrailingZeros32⟩,
  ⟨197, 114, c_natural_long⟩,
  ⟨198, 115, c_natural_done⟩,
  ⟨199, 262, c_natural_shr⟩,
  ⟨200, 255, c_round_precise⟩,
  ⟨201, 260, c_natural_divide⟩,
  ⟨202, 113, c_math_bits_Len32⟩,
  ⟨203, 259, c_natural_mul⟩,
  ⟨204, 243, c_round_of⟩,
  ⟨205, 256, c_round_shr⟩,
  ⟨206, 257, c_natural_Add⟩,
  ⟨207, 258, c_natural_Sub⟩,
  ⟨208, 49, c_fpref02_bits⟩,
  ⟨209, 263, c_fpref01_Sub⟩,
  ⟨210, 116, c_natural_shl⟩,
  ⟨211, 264, c_natural_add⟩,
  ⟨212, 265, c_dyadic_Make⟩,
  ⟨213, 117, c_slices_ContainsFunc_uint32s⟩,
  ⟨214, 118, c_natural_long_1⟩,
  ⟨215, 267, c_natural_short⟩,
  ⟨216, 268, c_math_bits_LeadingZeros32⟩,
  ⟨217, 269, c_natural_guess⟩,
  ⟨218, 270, c_natural_take⟩,
  ⟨219, 271, c_math_bits_Add32⟩,
  ⟨220, 266, c_natural_sub⟩,
  ⟨221, 120, c_slices_IndexFunc_uint32s⟩,
  ⟨222, 273, c_math_bits_Div32⟩,
  ⟨223, 274, c_natural_digit⟩,
  ⟨224, 272, c_math_bits_Sub32⟩]

theorem fc {p : Row → Prop} {a : Row} {l : List Row} (h : p a) (t : ∀ x ∈ l, p x) : ∀ x ∈ a :: l, p x := List.forall_mem_cons.2 ⟨h, t⟩
theorem rows_ok : ∀ r ∈ rows, RowOk tab r := (fc k4 (fc k8 (fc k9 (fc k10 (fc k11 (fc k13 (fc k14 (fc k15 (fc k16 (fc k20 (fc k21 (fc k22 (fc k23 (fc k24 (fc k25 (fc k26 (fc k27 (fc k28 (fc k29 (fc k31 (fc k33 (fc k35 (fc k36 (fc k37 (fc k38 (fc k44 (fc k46 (fc k47 (fc k48 (fc k49 (fc k50 (fc k51 (fc k52 (fc k53 (fc k54 (fc k55 (fc k56 (fc k57 (fc k60 (fc k61 (fc k62 (fc k63 (fc k64 (fc k65 (fc k66 (fc k67 (fc k68 (fc k69 (fc k70 (fc k71 (fc k72 (fc k73 (fc k74 (fc k75 (fc k76 (fc k77 (fc k78 (fc k79 (fc k80 (fc k81 (fc k83 (fc k84 (fc k85 (fc k86 (fc k87 (fc k88 (fc k89 (fc k90 (fc k91 (fc k92 (fc k93 (fc k94 (fc k95 (fc k96 (fc k97 (fc k98 (fc k99 (fc k100 (fc k101 (fc k102 (fc k103 (fc k110 (fc k111 (fc k112 (fc k113 (fc k114 (fc k115 (fc k116 (fc k117 (fc k118 (fc k119 (fc k120 (fc k121 (fc k124 (fc k126 (fc k127 (fc k128 (fc k129 (fc k130 (fc k131 (fc k132 (fc k133 (fc k134 (fc k135 (fc k136 (fc k137 (fc k139 (fc k140 (fc k141 (fc k142 (fc k144 (fc k145 (fc k146 (fc k147 (fc k148 (fc k149 (fc k150 (fc k151 (fc k152 (fc k153 (fc k154 (fc k155 (fc k156 (fc k157 (fc k161 (fc k162 (fc k163 (fc k164 (fc k165 (fc k166 (fc k167 (fc k168 (fc k169 (fc k170 (fc k171 (fc k172 (fc k173 (fc k174 (fc k175 (fc k176 (fc k177 (fc k178 (fc k179 (fc k181 (fc k182 (fc k183 (fc k184 (fc k185 (fc k186 (fc k188 (fc k189 (fc k190 (fc k191 (fc k192 (fc k193 (fc k194 (fc k195 (fc k196 (fc k197 (fc k198 (fc k199 (fc k200 (fc k201 (fc k202 (fc k203 (fc k204 (fc k205 (fc k206 (fc k207 (fc k208 (fc k209 (fc k210 (fc k211 (fc k212 (fc k213 (fc k214 (fc k215 (fc k216 (fc k217 (fc k218 (fc k219 (fc k220 (fc k221 (fc k222 (fc k223 (fc k224 (fun _ h => by cases h)))))))))))))))))))))))))))))))))))))))))))))))))))))))))))))))))))))))))))))))))))))))))))))))))))))))))))))))))))))))))))))))))))))))))))))))))))))))))))))))))))))))))))))))))))))))))))
theorem rs : rows.map (fun r => look fnList r.gid) = rows.map (fun r => some r.fn) := by kernel_rfl
theorem rows_same : ∀ r ∈ rows, look fnList r.gid = some r.fn := List.map_inj_left.1 rs

theorem tab_mixed : tab.P.follows .mixedOrders = true := by kernel_rfl

theorem tab_fns : ∀ fid g f, tab.gid fid = some g → prog.fn g = some f → ∃ fn C, tab.P.funcs[fid]? = some fn ∧ fn.name ≠ "runtime.NumGoroutine" ∧ fn.body = some C ∧ comp tab fn.ntmps C = some f.body ∧ cRVs tab fn.results.toList = some f.results :=
 fns_of_rows (l := gidList) rfl (fns := fnList) (S := prog) rfl rows rows_ok (by kernel_rfl) rows_same

end Go.Abs
/- The series' seat: its program is the abstract one, its table reads as an abstract one, its arguments read as abstract values. -/
namespace Go.Proofs.YteajloobgibenaaGreatDoor
open Go.ChangeShapes Go.WideShapes Go.ChangeAt Go.RowKit

theorem own : ownKnob Tryz.prog.godebug = none := by kernel_rfl
theorem laidOut : laidOutB Tryz.prog = true := by kernel_rfl
theorem seat : Go.Abs.Seat Go.Abs.tab Go.Abs.prog := ⟨Go.Abs.tab_mixed, Go.Abs.tab_fns, fun _ _ _ _ _ _ h => by cases h⟩

section
variable {H : Type} {enc : TypeId × Value → H} {w : World}
theorem r_u32s : Go.Abs.Rd enc Tryz.prog w Go.Abs.tab.gid 23 (fun v => ∃ l : List Nat, v = Go.Abs.lim l ∧ Go.Abs.Li l ∧ l.length ≤ maxLen) := Go.Abs.W.rd_u32s Tryz.underlying23 Tryz.underlying93 (by kernel_rfl)
theorem r_dy : Go.Abs.Rd enc Tryz.prog w Go.Abs.tab.gid 25 (fun v => ∃ d : Go.Abs.W.Dy, v = d.v ∧ d.T) := Go.Abs.W.rd_dy Tryz.underlying25 (by kernel_rfl) Tryz.underlying4 r_u32s Tryz.underlying3 (by kernel_rfl)
theorem r_iv : Go.Abs.Rd enc Tryz.prog w Go.Abs.tab.gid 27 (fun v => ∃ x : Go.Abs.W.Iv, v = x.v ∧ x.T) := Go.Abs.W.rd_iv Tryz.underlying27 (by kernel_rfl) r_dy r_dy Tryz.underlying4 (by kernel_rfl)
theorem r_ivs : Go.Abs.Rd enc Tryz.prog w Go.Abs.tab.gid 22 (fun v => ∃ l : List Go.Abs.W.Iv, v = Go.Abs.W.ivs l ∧ Go.Abs.W.BxT l) := Go.Abs.W.rd_ivs Tryz.underlying22 (by kernel_rfl) r_iv
theorem r_int : Go.Abs.Rd enc Tryz.prog w Go.Abs.tab.gid 3 (fun v => ∃ n, v = .int .i64 n ∧ IntKind.i64.min ≤ n ∧ n ≤ IntKind.i64.max) := Go.Abs.rd_int Tryz.underlying3
end

def zIvV : Value := .agg #[.bool false, .slice none 0 0, .int .i64 0, .bool false, .slice none 0 0, .int .i64 0, .bool false]

def dDy {H : Type} : DataW H := .agg [.lit (.bool false), .nil, .lit (.int .i64 0)]
def dIv {H : Type} : DataW H := .agg [dDy, dDy, .lit (.bool false)]

theorem gTab : Tryz.prog.globalNamed "math/bits.deBruijn32tab" = some 0 := by kernel_rfl
theorem gTabType : (Tryz.prog.globals[0]?).map (·.type) = some 146 := by kernel_rfl
theorem cells146 : Tryz.prog.cellsOf 146 = 32 := by kernel_rfl
theorem cells5 : Tryz.prog.cellsOf 5 = 1 := by kernel_rfl
def nums : List Int := [0, 1, 28, 2, 29, 14, 24, 3, 30, 22, 20, 15, 25, 17, 4, 8, 31, 27, 13, 23, 21, 19, 16, 7, 26, 12, 18, 6, 11, 5, 10, 9]
theorem table {W : World} (h : laidMetH Tryz.prog [("math/bits.deBruijn32tab", Rows.laid_math_bits_deBruijn32tab)] W) : Lib.TabIs Tryz.prog W "math/bits.deBruijn32tab" .u8 nums :=
 Lib.tabIs_of_head (rest := []) gTab gTabType Tryz.underlying146 Tryz.underlying5 cells5 cells146 h

theorem tabs {W : World} (h : laidMetH Tryz.prog [("math/bits.deBruijn32tab", Rows.laid_math_bits_deBruijn32tab)] W) : Go.Abs.Tabs Go.Abs.tab.gid W fun _ => False := by
 intro g cs hg
 have hg' : Go.Abs.tabsOf Go.Abs.tabList g = some cs := hg
 unfold Go.Abs.tabList Go.Abs.tabsOf at hg'
 split at hg'
 · rename_i h0
   subst h0
   have hc : cs = nums.map (fun n => Go.Abs.V.int .u8 n) := by injection hg' with hg'; rw [← hg']; rfl
   subst hc
   have cell : ∀ i (hi : i < nums.length), W.cell? ⟨0, i, none⟩ = some (.int .u8 (nums.getD i 0)) := fun i hi => (table h).cell gTab i hi
   have hb : 0 < W.heap.size := World.block_lt_of_cell? W ⟨0, 0, none⟩ (cell 0 (by decide))
   have get : ∀ (j : Nat) (c : Go.Abs.V), (nums.map (fun n => Go.Abs.V.int .u8 n))[j]? = some c → j < nums.length ∧ c = .int .u8 (nums.getD j 0) := by
     intro j c hj
     rw [List.getElem?_map] at hj
     obtain ⟨a, ha, rfl⟩ := Option.map_eq_some_iff.1 hj
     refine ⟨(List.getElem?_eq_some_iff.1 ha).1, ?_⟩
     rw [List.getD_eq_getElem?_getD, ha]
     rfl
   refine .eptr _ _ (fun j => .int .u8 (nums.getD j 0)) rfl (fun h => h) hb ?_ ?_
   · intro j c hj
     have hl := (get j c hj).1
     have := cell j hl
     simpa using this
   · intro j c hj
     rw [(get j c hj).2]
     exact .int _ _
 · unfold Go.Abs.tabsOf at hg'
   cases hg'

/-- A world for the witness: the settled one, the table holding what its initialiser lays. -/
noncomputable def laidWorld (os : Os) : World :=
 { World.holding Tryz.prog os ⟨#[], #[], []⟩ with heap := (World.holding Tryz.prog os ⟨#[], #[], []⟩).heap.modify 0 fun
     | .cells _ t frozen => .cells (nums.map fun n => .int .u8 n).toArray t frozen
     | o => o }

end Go.Proofs.YteajloobgibenaaGreatDoor

