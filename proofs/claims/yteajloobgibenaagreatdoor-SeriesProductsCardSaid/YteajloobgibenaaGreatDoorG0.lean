/- Parts of the proof: FpSeatS, FpRead0, FpEndS0. -/
import Derived.Test.YteajloobgibenaaGreatDoorProg
import Derived.KernelRfl
import Derived.Test.YteajloobgibenaaGreatDoorCards
import Derived.Test.YteajloobgibenaaGreatDoorTie
import Derived.WalkKit
import Derived.ProofKit
import Derived.OpenShut
import Derived.Deep.DeepHandedRow
import Derived.Lib.LaidTab
import Derived.Test.YteajloobgibenaaGreatDoorFd
import Derived.Test.YteajloobgibenaaGreatDoorFb
import Derived.Test.YteajloobgibenaaGreatDoorFb
import Derived.Test.YteajloobgibenaaGreatDoorFe
/- MADE BY A PROGRAM (wip/tools/mkseat.py): the functions of this seat's program are the abstract ones. -/
namespace Go.Abs
open Go.Proofs
set_option maxRecDepth 100000

def gidList : List Nat := [0, 0, 0, 275, 276, 277, 278, 279, 280, 281, 282, 283, 284, 285, 60, 109, 286, 287, 288, 289, 290, 291, 292, 293, 294, 295, 296, 297, 67, 298, 299, 77, 300, 82, 301, 90, 302, 303, 304, 305, 306, 307, 308, 309, 94, 310, 311, 158, 312, 313, 314, 315, 142, 316, 140, 107, 138, 23, 175, 154, 145, 317, 153, 74, 318, 319, 320, 139, 146, 89, 321, 96, 51, 52, 104, 105, 322, 323, 324, 325, 330, 178, 179, 106, 83, 176, 326, 204, 189, 327, 186, 173, 190, 193, 194, 152, 210, 191, 192, 187, 188, 63, 195, 108, 174, 202, 206, 93, 92, 203, 196, 197, 328, 329, 85, 147, 148, 78, 79, 80, 156, 211, 157, 212, 54, 213, 57, 207, 208, 223, 224, 225, 218, 217, 216, 70, 219, 226, 227, 228, 229, 18, 220, 185, 56, 101, 102, 103, 198, 97, 98, 99, 100, 165, 164, 234, 200, 199, 167, 166, 201, 230, 244, 245, 246, 119, 221, 235, 239, 240, 241, 237, 110, 238, 222, 236, 91, 12, 242, 247, 248, 249, 250, 232, 251, 252, 55, 215, 84, 86, 87, 111, 112, 205, 253, 254, 261, 114, 115, 262, 255, 260, 113, 259, 243, 256, 257, 258, 49, 263, 116, 264, 265, 117, 118, 267, 268, 269, 270, 271, 266, 120, 273, 274, 272, 0, 0, 0, 0, 0, 0, 0, 0, 0, 0, 0, 0, 0, 0, 0, 0, 0, 0, 0, 0, 0]

def tabList : List (Nat × List V) := [(0, [.int .u8 0, .int .u8 1, .int .u8 28, .int .u8 2, .int .u8 29, .int .u8 14, .int .u8 24, .int .u8 3, .int .u8 30, .int .u8 22, .int .u8 20, .int .u8 15, .int .u8 25, .int .u8 17, .int .u8 4, .int .u8 8, .int .u8 31, .int .u8 27, .int .u8 13, .int .u8 23, .int .u8 21, .int .u8 19, .int .u8 16, .int .u8 7, .int .u8 26, .int .u8 12, .int .u8 18, .int .u8 6, .int .u8 11, .int .u8 5, .int .u8 10, .int .u8 9])]

noncomputable def tab : Tab := ⟨Tryz.prog, ⟨gidOf gidList, tabsOf tabList⟩⟩

theorem k_fplaw21_SeriesProducts : RowOk tab ⟨6, 278, c_fplaw21_SeriesProducts⟩ := ⟨Tryz.f6, Tryz.func6, by kernel_rfl⟩
theorem k_fplaw21_awake : RowOk tab ⟨8, 280, c_fplaw21_awake⟩ := ⟨Tryz.f8, Tryz.func8, by kernel_rfl⟩
theorem k_fplaw21_great : RowOk tab ⟨9, 281, c_fplaw21_great⟩ := ⟨Tryz.f9, Tryz.func9, by kernel_rfl⟩
theorem k_fpref21_Right : RowOk tab ⟨13, 285, c_fpref21_Right⟩ := ⟨Tryz.f13, Tryz.func13, by kernel_rfl⟩
theorem k_fpref05_Equal : RowOk tab ⟨14, 60, c_fpref05_Equal⟩ := ⟨Tryz.f14, Tryz.func14, by kernel_rfl⟩
theorem k_fpref05_Whole : RowOk tab ⟨15, 109, c_fpref05_Whole⟩ := ⟨Tryz.f15, Tryz.func15, by kernel_rfl⟩
theorem k_fplaw21_same : RowOk tab ⟨16, 286, c_fplaw21_same⟩ := ⟨Tryz.f16, Tryz.func16, by kernel_rfl⟩
theorem k_series_Constant : RowOk tab ⟨20, 290, c_series_Constant⟩ := ⟨Tryz.f20, Tryz.func20, by kernel_rfl⟩
theorem k_series_Variable : RowOk tab ⟨21, 291, c_series_Variable⟩ := ⟨Tryz.f21, Tryz.func21, by kernel_rfl⟩
theorem k_fpref21_Num : RowOk tab ⟨23, 293, c_fpref21_Num⟩ := ⟨Tryz.f23, Tryz.func23, by kernel_rfl⟩
theorem k_fplaw21_pair : RowOk tab ⟨26, 296, c_fplaw21_pair⟩ := ⟨Tryz.f26, Tryz.func26, by kernel_rfl⟩
theorem k_slices_ContainsFunc_Interval : RowOk tab ⟨28, 67, c_slices_ContainsFunc_Interval⟩ := ⟨Tryz.f28, Tryz.func28, by kernel_rfl⟩
theorem k_interval_Valid : RowOk tab ⟨31, 77, c_interval_Valid⟩ := ⟨Tryz.f31, Tryz.func31, by kernel_rfl⟩
theorem k_slices_EqualFunc_Interval : RowOk tab ⟨33, 82, c_slices_EqualFunc_Interval⟩ := ⟨Tryz.f33, Tryz.func33, by kernel_rfl⟩
theorem k_series_Mul : RowOk tab ⟨36, 302, c_series_Mul⟩ := ⟨Tryz.f36, Tryz.func36, by kernel_rfl⟩
theorem k_series_Div : RowOk tab ⟨37, 303, c_series_Div⟩ := ⟨Tryz.f37, Tryz.func37, by kernel_rfl⟩
theorem k_series_Power : RowOk tab ⟨38, 304, c_series_Power⟩ := ⟨Tryz.f38, Tryz.func38, by kernel_rfl⟩
theorem k_fpref21_Power : RowOk tab ⟨39, 305, c_fpref21_Power⟩ := ⟨Tryz.f39, Tryz.func39, by kernel_rfl⟩
theorem k_fpref21_Mul : RowOk tab ⟨40, 306, c_fpref21_Mul⟩ := ⟨Tryz.f40, Tryz.func40, by kernel_rfl⟩
theorem k_fpref21_Div : RowOk tab ⟨41, 307, c_fpref21_Div⟩ := ⟨Tryz.f41, Tryz.func41, by kernel_rfl⟩
theorem k_series_Sqrt : RowOk tab ⟨46, 311, c_series_Sqrt⟩ := ⟨Tryz.f46, Tryz.func46, by kernel_rfl⟩
theorem k_interval_Scale : RowOk tab ⟨47, 158, c_interval_Scale⟩ := ⟨Tryz.f47, Tryz.func47, by kernel_rfl⟩
theorem k_slices_ContainsFunc_Intervals : RowOk tab ⟨48, 312, c_slices_ContainsFunc_Intervals⟩ := ⟨Tryz.f48, Tryz.func48, by kernel_rfl⟩
theorem k_fplaw21_great_1 : RowOk tab ⟨49, 313, c_fplaw21_great_1⟩ := ⟨Tryz.f49, Tryz.func49, by kernel_rfl⟩
theorem k_fplaw21_great_1_1 : RowOk tab ⟨50, 314, c_fplaw21_great_1_1⟩ := ⟨Tryz.f50, Tryz.func50, by kernel_rfl⟩
theorem k_series_are : RowOk tab ⟨51, 315, c_series_are⟩ := ⟨Tryz.f51, Tryz.func51, by kernel_rfl⟩
theorem k_interval_Div : RowOk tab ⟨52, 142, c_interval_Div⟩ := ⟨Tryz.f52, Tryz.func52, by kernel_rfl⟩
theorem k_series_whole : RowOk tab ⟨53, 316, c_series_whole⟩ := ⟨Tryz.f53, Tryz.func53, by kernel_rfl⟩
theorem k_interval_Mul : RowOk tab ⟨54, 140, c_interval_Mul⟩ := ⟨Tryz.f54, Tryz.func54, by kernel_rfl⟩
theorem k_interval_Whole : RowOk tab ⟨55, 107, c_interval_Whole⟩ := ⟨Tryz.f55, Tryz.func55, by kernel_rfl⟩
theorem k_interval_Add : RowOk tab ⟨56, 138, c_interval_Add⟩ := ⟨Tryz.f56, Tryz.func56, by kernel_rfl⟩
theorem k_fpref02_Equal : RowOk tab ⟨57, 23, c_fpref02_Equal⟩ := ⟨Tryz.f57, Tryz.func57, by kernel_rfl⟩
theorem k_fpref05_Div : RowOk tab ⟨58, 175, c_fpref05_Div⟩ := ⟨Tryz.f58, Tryz.func58, by kernel_rfl⟩
theorem k_fpref05_Mul : RowOk tab ⟨59, 154, c_fpref05_Mul⟩ := ⟨Tryz.f59, Tryz.func59, by kernel_rfl⟩
theorem k_fpref05_Add : RowOk tab ⟨60, 145, c_fpref05_Add⟩ := ⟨Tryz.f60, Tryz.func60, by kernel_rfl⟩
theorem k_fpref05_Point : RowOk tab ⟨62, 153, c_fpref05_Point⟩ := ⟨Tryz.f62, Tryz.func62, by kernel_rfl⟩
theorem k_fpref02_Int : RowOk tab ⟨63, 74, c_fpref02_Int⟩ := ⟨Tryz.f63, Tryz.func63, by kernel_rfl⟩
theorem k_interval_Sub : RowOk tab ⟨67, 139, c_interval_Sub⟩ := ⟨Tryz.f67, Tryz.func67, by kernel_rfl⟩
theorem k_fpref05_Sub : RowOk tab ⟨68, 146, c_fpref05_Sub⟩ := ⟨Tryz.f68, Tryz.func68, by kernel_rfl⟩
theorem k_slices_IndexFunc_Interval : RowOk tab ⟨69, 89, c_slices_IndexFunc_Interval⟩ := ⟨Tryz.f69, Tryz.func69, by kernel_rfl⟩
theorem k_interval_Valid_1 : RowOk tab ⟨71, 96, c_interval_Valid_1⟩ := ⟨Tryz.f71, Tryz.func71, by kernel_rfl⟩
theorem k_dyadic_Valid : RowOk tab ⟨72, 51, c_dyadic_Valid⟩ := ⟨Tryz.f72, Tryz.func72, by kernel_rfl⟩
theorem k_dyadic_Cmp : RowOk tab ⟨73, 52, c_dyadic_Cmp⟩ := ⟨Tryz.f73, Tryz.func73, by kernel_rfl⟩
theorem k_interval_more : RowOk tab ⟨74, 104, c_interval_more⟩ := ⟨Tryz.f74, Tryz.func74, by kernel_rfl⟩
theorem k_interval_less : RowOk tab ⟨75, 105, c_interval_less⟩ := ⟨Tryz.f75, Tryz.func75, by kernel_rfl⟩
theorem k_series_sum : RowOk tab ⟨76, 322, c_series_sum⟩ := ⟨Tryz.f76, Tryz.func76, by kernel_rfl⟩
theorem k_series_Mul_1 : RowOk tab ⟨77, 323, c_series_Mul_1⟩ := ⟨Tryz.f77, Tryz.func77, by kernel_rfl⟩
theorem k_series_less : RowOk tab ⟨78, 324, c_series_less⟩ := ⟨Tryz.f78, Tryz.func78, by kernel_rfl⟩
theorem k_series_Div_1 : RowOk tab ⟨79, 325, c_series_Div_1⟩ := ⟨Tryz.f79, Tryz.func79, by kernel_rfl⟩
theorem k_slices_CloneO_Interval : RowOk tab ⟨80, 330, c_slices_CloneO_Interval⟩ := ⟨Tryz.f80, Tryz.func80, by kernel_rfl⟩
theorem k_interval_Power : RowOk tab ⟨81, 178, c_interval_Power⟩ := ⟨Tryz.f81, Tryz.func81, by kernel_rfl⟩
theorem k_fpref05_Power : RowOk tab ⟨82, 179, c_fpref05_Power⟩ := ⟨Tryz.f82, Tryz.func82, by kernel_rfl⟩
theorem k_interval_known : RowOk tab ⟨83, 106, c_interval_known⟩ := ⟨Tryz.f83, Tryz.func83, by kernel_rfl⟩
theorem k_interval_Sqrt : RowOk tab ⟨85, 176, c_interval_Sqrt⟩ := ⟨Tryz.f85, Tryz.func85, by kernel_rfl⟩
theorem k_series_Sqrt_1 : RowOk tab ⟨86, 326, c_series_Sqrt_1⟩ := ⟨Tryz.f86, Tryz.func86, by kernel_rfl⟩
theorem k_dyadic_Scale : RowOk tab ⟨87, 204, c_dyadic_Scale⟩ := ⟨Tryz.f87, Tryz.func87, by kernel_rfl⟩
theorem k_interval_made : RowOk tab ⟨88, 189, c_interval_made⟩ := ⟨Tryz.f88, Tryz.func88, by kernel_rfl⟩
theorem k_slices_IndexFunc_Intervals : RowOk tab ⟨89, 327, c_slices_IndexFunc_Intervals⟩ := ⟨Tryz.f89, Tryz.func89, by kernel_rfl⟩
theorem k_interval_permitted : RowOk tab ⟨90, 186, c_interval_permitted⟩ := ⟨Tryz.f90, Tryz.func90, by kernel_rfl⟩
theorem k_interval_Sign : RowOk tab ⟨91, 173, c_interval_Sign⟩ := ⟨Tryz.f91, Tryz.func91, by kernel_rfl⟩
theorem k_interval_four : RowOk tab ⟨92, 190, c_interval_four⟩ := ⟨Tryz.f92, Tryz.func92, by kernel_rfl⟩
theorem k_round_DivDown : RowOk tab ⟨93, 193, c_round_DivDown⟩ := ⟨Tryz.f93, Tryz.func93, by kernel_rfl⟩
theorem k_round_DivUp : RowOk tab ⟨94, 194, c_round_DivUp⟩ := ⟨Tryz.f94, Tryz.func94, by kernel_rfl⟩
theorem k_interval_Point : RowOk tab ⟨95, 152, c_interval_Point⟩ := ⟨Tryz.f95, Tryz.func95, by kernel_rfl⟩
theorem k_dyadic_Int : RowOk tab ⟨96, 210, c_dyadic_Int⟩ := ⟨Tryz.f96, Tryz.func96, by kernel_rfl⟩
theorem k_round_MulDown : RowOk tab ⟨97, 191, c_round_MulDown⟩ := ⟨Tryz.f97, Tryz.func97, by kernel_rfl⟩
theorem k_round_MulUp : RowOk tab ⟨98, 192, c_round_MulUp⟩ := ⟨Tryz.f98, Tryz.func98, by kernel_rfl⟩
theorem k_round_AddDown : RowOk tab ⟨99, 187, c_round_AddDown⟩ := ⟨Tryz.f99, Tryz.func99, by kernel_rfl⟩
theorem k_round_AddUp : RowOk tab ⟨100, 188, c_round_AddUp⟩ := ⟨Tryz.f100, Tryz.func100, by kernel_rfl⟩
theorem k_fpref02_compare : RowOk tab ⟨101, 63, c_fpref02_compare⟩ := ⟨Tryz.f101, Tryz.func101, by kernel_rfl⟩
theorem k_fpref05_Prec : RowOk tab ⟨102, 195, c_fpref05_Prec⟩ := ⟨Tryz.f102, Tryz.func102, by kernel_rfl⟩
theorem k_fpref05_known : RowOk tab ⟨103, 108, c_fpref05_known⟩ := ⟨Tryz.f103, Tryz.func103, by kernel_rfl⟩
theorem k_fpref05_Sign : RowOk tab ⟨104, 174, c_fpref05_Sign⟩ := ⟨Tryz.f104, Tryz.func104, by kernel_rfl⟩
theorem k_fpref05_ends : RowOk tab ⟨105, 202, c_fpref05_ends⟩ := ⟨Tryz.f105, Tryz.func105, by kernel_rfl⟩
theorem k_fpref03_Div : RowOk tab ⟨106, 206, c_fpref03_Div⟩ := ⟨Tryz.f106, Tryz.func106, by kernel_rfl⟩
theorem k_fpref05_least : RowOk tab ⟨107, 93, c_fpref05_least⟩ := ⟨Tryz.f107, Tryz.func107, by kernel_rfl⟩
theorem k_fpref05_most : RowOk tab ⟨108, 92, c_fpref05_most⟩ := ⟨Tryz.f108, Tryz.func108, by kernel_rfl⟩
theorem k_fpref03_Mul : RowOk tab ⟨109, 203, c_fpref03_Mul⟩ := ⟨Tryz.f109, Tryz.func109, by kernel_rfl⟩
theorem k_fpref03_Add : RowOk tab ⟨110, 196, c_fpref03_Add⟩ := ⟨Tryz.f110, Tryz.func110, by kernel_rfl⟩
theorem k_fpref05_made : RowOk tab ⟨111, 197, c_fpref05_made⟩ := ⟨Tryz.f111, Tryz.func111, by kernel_rfl⟩
theorem k_fpref02_Of : RowOk tab ⟨114, 85, c_fpref02_Of⟩ := ⟨Tryz.f114, Tryz.func114, by kernel_rfl⟩
theorem k_interval_Neg : RowOk tab ⟨115, 147, c_interval_Neg⟩ := ⟨Tryz.f115, Tryz.func115, by kernel_rfl⟩
theorem k_fpref05_Neg : RowOk tab ⟨116, 148, c_fpref05_Neg⟩ := ⟨Tryz.f116, Tryz.func116, by kernel_rfl⟩
theorem k_dyadic_inRange : RowOk tab ⟨117, 78, c_dyadic_inRange⟩ := ⟨Tryz.f117, Tryz.func117, by kernel_rfl⟩
theorem k_dyadic_Sign : RowOk tab ⟨118, 79, c_dyadic_Sign⟩ := ⟨Tryz.f118, Tryz.func118, by kernel_rfl⟩
theorem k_dyadic_compare : RowOk tab ⟨119, 80, c_dyadic_compare⟩ := ⟨Tryz.f119, Tryz.func119, by kernel_rfl⟩
theorem k_interval_Abs : RowOk tab ⟨120, 156, c_interval_Abs⟩ := ⟨Tryz.f120, Tryz.func120, by kernel_rfl⟩
theorem k_interval_end : RowOk tab ⟨121, 211, c_interval_end⟩ := ⟨Tryz.f121, Tryz.func121, by kernel_rfl⟩
theorem k_fpref05_Abs : RowOk tab ⟨122, 157, c_fpref05_Abs⟩ := ⟨Tryz.f122, Tryz.func122, by kernel_rfl⟩
theorem k_fpref05_powDown : RowOk tab ⟨123, 212, c_fpref05_powDown⟩ := ⟨Tryz.f123, Tryz.func123, by kernel_rfl⟩
theorem k_fpref02_Sign : RowOk tab ⟨124, 54, c_fpref02_Sign⟩ := ⟨Tryz.f124, Tryz.func124, by kernel_rfl⟩
theorem k_fpref05_powUp : RowOk tab ⟨125, 213, c_fpref05_powUp⟩ := ⟨Tryz.f125, Tryz.func125, by kernel_rfl⟩
theorem k_fpref02_Neg : RowOk tab ⟨126, 57, c_fpref02_Neg⟩ := ⟨Tryz.f126, Tryz.func126, by kernel_rfl⟩
theorem k_round_SqrtDown : RowOk tab ⟨127, 207, c_round_SqrtDown⟩ := ⟨Tryz.f127, Tryz.func127, by kernel_rfl⟩
theorem k_round_SqrtUp : RowOk tab ⟨128, 208, c_round_SqrtUp⟩ := ⟨Tryz.f128, Tryz.func128, by kernel_rfl⟩
theorem k_dyadic_exponent : RowOk tab ⟨129, 223, c_dyadic_exponent⟩ := ⟨Tryz.f129, Tryz.func129, by kernel_rfl⟩
theorem k_dyadic_checked : RowOk tab ⟨130, 224, c_dyadic_checked⟩ := ⟨Tryz.f130, Tryz.func130, by kernel_rfl⟩
theorem k_dyadic_canonical : RowOk tab ⟨131, 225, c_dyadic_canonical⟩ := ⟨Tryz.f131, Tryz.func131, by kernel_rfl⟩
theorem k_round_div : RowOk tab ⟨132, 218, c_round_div⟩ := ⟨Tryz.f132, Tryz.func132, by kernel_rfl⟩
theorem k_round_mul : RowOk tab ⟨133, 217, c_round_mul⟩ := ⟨Tryz.f133, Tryz.func133, by kernel_rfl⟩
theorem k_round_add : RowOk tab ⟨134, 216, c_round_add⟩ := ⟨Tryz.f134, Tryz.func134, by kernel_rfl⟩
theorem k_fpref05_Valid : RowOk tab ⟨135, 70, c_fpref05_Valid⟩ := ⟨Tryz.f135, Tryz.func135, by kernel_rfl⟩
theorem k_fpref03_fault : RowOk tab ⟨136, 219, c_fpref03_fault⟩ := ⟨Tryz.f136, Tryz.func136, by kernel_rfl⟩
theorem k_fpref01_Bits : RowOk tab ⟨137, 226, c_fpref01_Bits⟩ := ⟨Tryz.f137, Tryz.func137, by kernel_rfl⟩
theorem k_fpref01_DivMod : RowOk tab ⟨138, 227, c_fpref01_DivMod⟩ := ⟨Tryz.f138, Tryz.func138, by kernel_rfl⟩
theorem k_fpref01_Shl : RowOk tab ⟨139, 228, c_fpref01_Shl⟩ := ⟨Tryz.f139, Tryz.func139, by kernel_rfl⟩
theorem k_fpref03_Cut : RowOk tab ⟨140, 229, c_fpref03_Cut⟩ := ⟨Tryz.f140, Tryz.func140, by kernel_rfl⟩
theorem k_fpref02_Cmp : RowOk tab ⟨141, 18, c_fpref02_Cmp⟩ := ⟨Tryz.f141, Tryz.func141, by kernel_rfl⟩
theorem k_fpref03_exact : RowOk tab ⟨142, 220, c_fpref03_exact⟩ := ⟨Tryz.f142, Tryz.func142, by kernel_rfl⟩
theorem k_fpref02_Product : RowOk tab ⟨143, 185, c_fpref02_Product⟩ := ⟨Tryz.f143, Tryz.func143, by kernel_rfl⟩
theorem k_fpref02_Sum : RowOk tab ⟨144, 56, c_fpref02_Sum⟩ := ⟨Tryz.f144, Tryz.func144, by kernel_rfl⟩
theorem k_fpref02_trim : RowOk tab ⟨145, 101, c_fpref02_trim⟩ := ⟨Tryz.f145, Tryz.func145, by kernel_rfl⟩
theorem k_fpref02_zeros : RowOk tab ⟨146, 102, c_fpref02_zeros⟩ := ⟨Tryz.f146, Tryz.func146, by kernel_rfl⟩
theorem k_fpref02_right : RowOk tab ⟨147, 103, c_fpref02_right⟩ := ⟨Tryz.f147, Tryz.func147, by kernel_rfl⟩
theorem k_dyadic_Neg : RowOk tab ⟨148, 198, c_dyadic_Neg⟩ := ⟨Tryz.f148, Tryz.func148, by kernel_rfl⟩
theorem k_dyadic_size : RowOk tab ⟨149, 97, c_dyadic_size⟩ := ⟨Tryz.f149, Tryz.func149, by kernel_rfl⟩
theorem k_dyadic_Top : RowOk tab ⟨150, 98, c_dyadic_Top⟩ := ⟨Tryz.f150, Tryz.func150, by kernel_rfl⟩
theorem k_natural_Cmp : RowOk tab ⟨151, 99, c_natural_Cmp⟩ := ⟨Tryz.f151, Tryz.func151, by kernel_rfl⟩
theorem k_dyadic_shifted : RowOk tab ⟨152, 100, c_dyadic_shifted⟩ := ⟨Tryz.f152, Tryz.func152, by kernel_rfl⟩
theorem k_interval_Mig : RowOk tab ⟨153, 165, c_interval_Mig⟩ := ⟨Tryz.f153, Tryz.func153, by kernel_rfl⟩
theorem k_interval_Mag : RowOk tab ⟨154, 164, c_interval_Mag⟩ := ⟨Tryz.f154, Tryz.func154, by kernel_rfl⟩
theorem k_interval_power : RowOk tab ⟨155, 234, c_interval_power⟩ := ⟨Tryz.f155, Tryz.func155, by kernel_rfl⟩
theorem k_round_Up : RowOk tab ⟨156, 200, c_round_Up⟩ := ⟨Tryz.f156, Tryz.func156, by kernel_rfl⟩
theorem k_round_Down : RowOk tab ⟨157, 199, c_round_Down⟩ := ⟨Tryz.f157, Tryz.func157, by kernel_rfl⟩
theorem k_fpref05_Mig : RowOk tab ⟨158, 167, c_fpref05_Mig⟩ := ⟨Tryz.f158, Tryz.func158, by kernel_rfl⟩
theorem k_fpref05_Mag : RowOk tab ⟨159, 166, c_fpref05_Mag⟩ := ⟨Tryz.f159, Tryz.func159, by kernel_rfl⟩
theorem k_fpref03_Round : RowOk tab ⟨160, 201, c_fpref03_Round⟩ := ⟨Tryz.f160, Tryz.func160, by kernel_rfl⟩
theorem k_round_sqrt : RowOk tab ⟨161, 230, c_round_sqrt⟩ := ⟨Tryz.f161, Tryz.func161, by kernel_rfl⟩
theorem k_dyadic_trimmed : RowOk tab ⟨162, 244, c_dyadic_trimmed⟩ := ⟨Tryz.f162, Tryz.func162, by kernel_rfl⟩
theorem k_dyadic_low : RowOk tab ⟨163, 245, c_dyadic_low⟩ := ⟨Tryz.f163, Tryz.func163, by kernel_rfl⟩
theorem k_natural_Shr : RowOk tab ⟨164, 246, c_natural_Shr⟩ := ⟨Tryz.f164, Tryz.func164, by kernel_rfl⟩
theorem k_slices_Clip_uint32 : RowOk tab ⟨165, 119, c_slices_Clip_uint32⟩ := ⟨Tryz.f165, Tryz.func165, by kernel_rfl⟩
theorem k_slices_Clone_uint32 : RowOk tab ⟨166, 221, c_slices_Clone_uint32⟩ := ⟨Tryz.f166, Tryz.func166, by kernel_rfl⟩
theorem k_round_fault : RowOk tab ⟨167, 235, c_round_fault⟩ := ⟨Tryz.f167, Tryz.func167, by kernel_rfl⟩
theorem k_dyadic_Bits : RowOk tab ⟨168, 239, c_dyadic_Bits⟩ := ⟨Tryz.f168, Tryz.func168, by kernel_rfl⟩
theorem k_natural_DivMod : RowOk tab ⟨169, 240, c_natural_DivMod⟩ := ⟨Tryz.f169, Tryz.func169, by kernel_rfl⟩
theorem k_round_shl : RowOk tab ⟨170, 241, c_round_shl⟩ := ⟨Tryz.f170, Tryz.func170, by kernel_rfl⟩
theorem k_round_signed : RowOk tab ⟨171, 237, c_round_signed⟩ := ⟨Tryz.f171, Tryz.func171, by kernel_rfl⟩
theorem k_natural_Bits : RowOk tab ⟨172, 110, c_natural_Bits⟩ := ⟨Tryz.f172, Tryz.func172, by kernel_rfl⟩
theorem k_natural_Mul : RowOk tab ⟨173, 238, c_natural_Mul⟩ := ⟨Tryz.f173, Tryz.func173, by kernel_rfl⟩
theorem k_round_round : RowOk tab ⟨174, 222, c_round_round⟩ := ⟨Tryz.f174, Tryz.func174, by kernel_rfl⟩
theorem k_round_sum : RowOk tab ⟨175, 236, c_round_sum⟩ := ⟨Tryz.f175, Tryz.func175, by kernel_rfl⟩
theorem k_fpref05_zero : RowOk tab ⟨176, 91, c_fpref05_zero⟩ := ⟨Tryz.f176, Tryz.func176, by kernel_rfl⟩
theorem k_fpref02_Valid : RowOk tab ⟨177, 12, c_fpref02_Valid⟩ := ⟨Tryz.f177, Tryz.func177, by kernel_rfl⟩
theorem k_fpref03_Prec : RowOk tab ⟨178, 242, c_fpref03_Prec⟩ := ⟨Tryz.f178, Tryz.func178, by kernel_rfl⟩
theorem k_fpref01_Trim : RowOk tab ⟨179, 247, c_fpref01_Trim⟩ := ⟨Tryz.f179, Tryz.func179, by kernel_rfl⟩
theorem k_fpref01_less : RowOk tab ⟨180, 248, c_fpref01_less⟩ := ⟨Tryz.f180, Tryz.func180, by kernel_rfl⟩
theorem k_fpref01_at : RowOk tab ⟨181, 249, c_fpref01_at⟩ := ⟨Tryz.f181, Tryz.func181, by kernel_rfl⟩
theorem k_fpref01_Shr : RowOk tab ⟨182, 250, c_fpref01_Shr⟩ := ⟨Tryz.f182, Tryz.func182, by kernel_rfl⟩
theorem k_fpref01_Cmp : RowOk tab ⟨183, 232, c_fpref01_Cmp⟩ := ⟨Tryz.f183, Tryz.func183, by kernel_rfl⟩
theorem k_fpref01_Add : RowOk tab ⟨184, 251, c_fpref01_Add⟩ := ⟨Tryz.f184, Tryz.func184, by kernel_rfl⟩
theorem k_fpref03_greatest : RowOk tab ⟨185, 252, c_fpref03_greatest⟩ := ⟨Tryz.f185, Tryz.func185, by kernel_rfl⟩
theorem k_fpref02_Top : RowOk tab ⟨186, 55, c_fpref02_Top⟩ := ⟨Tryz.f186, Tryz.func186, by kernel_rfl⟩
theorem k_fpref02_times : RowOk tab ⟨187, 215, c_fpref02_times⟩ := ⟨Tryz.f187, Tryz.func187, by kernel_rfl⟩
theorem k_fpref02_left : RowOk tab ⟨188, 84, c_fpref02_left⟩ := ⟨Tryz.f188, Tryz.func188, by kernel_rfl⟩
theorem k_fpref02_plus : RowOk tab ⟨189, 86, c_fpref02_plus⟩ := ⟨Tryz.f189, Tryz.func189, by kernel_rfl⟩
theorem k_fpref02_minus : RowOk tab ⟨190, 87, c_fpref02_minus⟩ := ⟨Tryz.f190, Tryz.func190, by kernel_rfl⟩
theorem k_natural_trim : RowOk tab ⟨191, 111, c_natural_trim⟩ := ⟨Tryz.f191, Tryz.func191, by kernel_rfl⟩
theorem k_natural_Shl : RowOk tab ⟨192, 112, c_natural_Shl⟩ := ⟨Tryz.f192, Tryz.func192, by kernel_rfl⟩
theorem k_dyadic_Abs : RowOk tab ⟨193, 205, c_dyadic_Abs⟩ := ⟨Tryz.f193, Tryz.func193, by kernel_rfl⟩
theorem k_natural_Sqrt : RowOk tab ⟨194, 253, c_natural_Sqrt⟩ := ⟨Tryz.f194, Tryz.func194, by kernel_rfl⟩
theorem k_round_cut : RowOk tab ⟨195, 254, c_round_cut⟩ := ⟨Tryz.f195, Tryz.func195, by kernel_rfl⟩
theorem k_math_bits_TrailingZeros32 : RowOk tab ⟨196, 261, c_math_bits_TrailingZeros32⟩ := ⟨Tryz.f196, Tryz.func196, by kernel_rfl⟩
theorem k_natural_long : RowOk tab ⟨197, 114, c_natural_long⟩ := ⟨Tryz.f197, Tryz.func197, by kernel_rfl⟩
theorem k_natural_done : RowOk tab ⟨198, 115, c_natural_done⟩ := ⟨Tryz.f198, Tryz.func198, by kernel_rfl⟩
theorem k_natural_shr : RowOk tab ⟨199, 262, c_natural_shr⟩ := ⟨Tryz.f199, Tryz.func199, by kernel_rfl⟩
theorem k_round_precise : RowOk tab ⟨200, 255, c_round_precise⟩ := ⟨Tryz.f200, Tryz.func200, by kernel_rfl⟩
theorem k_natural_divide : RowOk tab ⟨201, 260, c_natural_divide⟩ := ⟨Tryz.f201, Tryz.func201, by kernel_rfl⟩
theorem k_math_bits_Len32 : RowOk tab ⟨202, 113, c_math_bits_Len32⟩ := ⟨Tryz.f202, Tryz.func202, by kernel_rfl⟩
theorem k_natural_mul : RowOk tab ⟨203, 259, c_natural_mul⟩ := ⟨Tryz.f203, Tryz.func203, by kernel_rfl⟩
theorem k_round_of : RowOk tab ⟨204, 243, c_round_of⟩ := ⟨Tryz.f204, Tryz.func204, by kernel_rfl⟩
theorem k_round_shr : RowOk tab ⟨205, 256, c_round_shr⟩ := ⟨Tryz.f205, Tryz.func205, by kernel_rfl⟩
theorem k_natural_Add : RowOk tab ⟨206, 257, c_natural_Add⟩ := ⟨Tryz.f206, Tryz.func206, by kernel_rfl⟩
theorem k_natural_Sub : RowOk tab ⟨207, 258, c_natural_Sub⟩ := ⟨Tryz.f207, Tryz.func207, by kernel_rfl⟩
theorem k_fpref02_bits : RowOk tab ⟨208, 49, c_fpref02_bits⟩ := ⟨Tryz.f208, Tryz.func208, by kernel_rfl⟩
theorem k_fpref01_Sub : RowOk tab ⟨209, 263, c_fpref01_Sub⟩ := ⟨Tryz.f209, Tryz.func209, by kernel_rfl⟩
theorem k_natural_shl : RowOk tab ⟨210, 116, c_natural_shl⟩ := ⟨Tryz.f210, Tryz.func210, by kernel_rfl⟩
theorem k_natural_add : RowOk tab ⟨211, 264, c_natural_add⟩ := ⟨Tryz.f211, Tryz.func211, by kernel_rfl⟩
theorem k_dyadic_Make : RowOk tab ⟨212, 265, c_dyadic_Make⟩ := ⟨Tryz.f212, Tryz.func212, by kernel_rfl⟩
theorem k_slices_ContainsFunc_uint32s : RowOk tab ⟨213, 117, c_slices_ContainsFunc_uint32s⟩ := ⟨Tryz.f213, Tryz.func213, by kernel_rfl⟩
theorem k_natural_long_1 : RowOk tab ⟨214, 118, c_natural_long_1⟩ := ⟨Tryz.f214, Tryz.func214, by kernel_rfl⟩
theorem k_natural_short : RowOk tab ⟨215, 267, c_natural_short⟩ := ⟨Tryz.f215, Tryz.func215, by kernel_rfl⟩
theorem k_math_bits_LeadingZeros32 : RowOk tab ⟨216, 268, c_math_bits_LeadingZeros32⟩ := ⟨Tryz.f216, Tryz.func216, by kernel_rfl⟩
theorem k_natural_guess : RowOk tab ⟨217, 269, c_natural_guess⟩ := ⟨Tryz.f217, Tryz.func217, by kernel_rfl⟩
theorem k_natural_take : RowOk tab ⟨218, 270, c_natural_take⟩ := ⟨Tryz.f218, Tryz.func218, by kernel_rfl⟩
theorem k_math_bits_Add32 : RowOk tab ⟨219, 271, c_math_bits_Add32⟩ := ⟨Tryz.f219, Tryz.func219, by kernel_rfl⟩
theorem k_natural_sub : RowOk tab ⟨220, 266, c_natural_sub⟩ := ⟨Tryz.f220, Tryz.func220, by kernel_rfl⟩
theorem k_slices_IndexFunc_uint32s : RowOk tab ⟨221, 120, c_slices_IndexFunc_uint32s⟩ := ⟨Tryz.f221, Tryz.func221, by kernel_rfl⟩
theorem k_math_bits_Div32 : RowOk tab ⟨222, 273, c_math_bits_Div32⟩ := ⟨Tryz.f222, Tryz.func222, by kernel_rfl⟩
theorem k_natural_digit : RowOk tab ⟨223, 274, c_natural_digit⟩ := ⟨Tryz.f223, Tryz.func223, by kernel_rfl⟩
theorem k_math_bits_Sub32 : RowOk tab ⟨224, 272, c_math_bits_Sub32⟩ := ⟨Tryz.f224, Tryz.func224, by kernel_rfl⟩

def rows : List Row :=
  [⟨6, 278, c_fplaw21_SeriesProducts⟩,
   ⟨8, 280, c_fplaw21_awake⟩,
   ⟨9, 281, c_fplaw21_great⟩,
   ⟨13, 285, c_fpref21_Right⟩,
   ⟨14, 60, c_fpref05_Equal⟩,
   ⟨15, 109, c_fpref05_Whole⟩,
   ⟨16, 286, c_fplaw21_same⟩,
   ⟨20, 290, c_series_Constant⟩,
   ⟨21, 291, c_series_Variable⟩,
   ⟨23, 293, c_fpref21_Num⟩,
   ⟨26, 296, c_fplaw21_pair⟩,
   ⟨28, 67, c_slices_ContainsFunc_Interval⟩,
   ⟨31, 77, c_interval_Valid⟩,
   ⟨33, 82, c_slices_EqualFunc_Interval⟩,
   ⟨36, 302, c_series_Mul⟩,
   ⟨37, 303, c_series_Div⟩,
   ⟨38, 304, c_series_Power⟩,
   ⟨39, 305, c_fpref21_Power⟩,
   ⟨40, 306, c_fpref21_Mul⟩,
   ⟨41, 307, c_fpref21_Div⟩,
   ⟨46, 311, c_series_Sqrt⟩,
   ⟨47, 158, c_interval_Scale⟩,
   ⟨48, 312, c_slices_ContainsFunc_Intervals⟩,
   ⟨49, 313, c_fplaw21_great_1⟩,
   ⟨50, 314, c_fplaw21_great_1_1⟩,
   ⟨51, 315, c_series_are⟩,
   ⟨52, 142, c_interval_Div⟩,
   ⟨53, 316, c_series_whole⟩,
   ⟨54, 140, c_interval_Mul⟩,
   ⟨55, 107, c_interval_Whole⟩,
   ⟨56, 138, c_interval_Add⟩,
   ⟨57, 23, c_fpref02_Equal⟩,
   ⟨58, 175, c_fpref05_Div⟩,
   ⟨59, 154, c_fpref05_Mul⟩,
   ⟨60, 145, c_fpref05_Add⟩,
   ⟨62, 153, c_fpref05_Point⟩,
   ⟨63, 74, c_fpref02_Int⟩,
   ⟨67, 139, c_interval_Sub⟩,
   ⟨68, 146, c_fpref05_Sub⟩,
   ⟨69, 89, c_slices_IndexFunc_Interval⟩,
   ⟨71, 96, c_interval_Valid_1⟩,
   ⟨72, 51, c_dyadic_Valid⟩,
   ⟨73, 52, c_dyadic_Cmp⟩,
   ⟨74, 104, c_interval_more⟩,
   ⟨75, 105, c_interval_less⟩,
   ⟨76, 322, c_series_sum⟩,
   ⟨77, 323, c_series_Mul_1⟩,
   ⟨78, 324, c_series_less⟩,
   ⟨79, 325, c_series_Div_1⟩,
   ⟨80, 330, c_slices_CloneO_Interval⟩,
   ⟨81, 178, c_interval_Power⟩,
   ⟨82, 179, c_fpref05_Power⟩,
   ⟨83, 106, c_interval_known⟩,
   ⟨85, 176, c_interval_Sqrt⟩,
   ⟨86, 326, c_series_Sqrt_1⟩,
   ⟨87, 204, c_dyadic_Scale⟩,
   ⟨88, 189, c_interval_made⟩,
   ⟨89, 327, c_slices_IndexFunc_Intervals⟩,
   ⟨90, 186, c_interval_permitted⟩,
   ⟨91, 173, c_interval_Sign⟩,
   ⟨92, 190, c_interval_four⟩,
   ⟨93, 193, c_round_DivDown⟩,
   ⟨94, 194, c_round_DivUp⟩,
   ⟨95, 152, c_interval_Point⟩,
   ⟨96, 210, c_dyadic_Int⟩,
   ⟨97, 191, c_round_MulDown⟩,
   ⟨98, 192, c_round_MulUp⟩,
   ⟨99, 187, c_round_AddDown⟩,
   ⟨100, 188, c_round_AddUp⟩,
   ⟨101, 63, c_fpref02_compare⟩,
   ⟨102, 195, c_fpref05_Prec⟩,
   ⟨103, 108, c_fpref05_known⟩,
   ⟨104, 174, c_fpref05_Sign⟩,
   ⟨105, 202, c_fpref05_ends⟩,
   ⟨106, 206, c_fpref03_Div⟩,
   ⟨107, 93, c_fpref05_least⟩,
   ⟨108, 92, c_fpref05_most⟩,
   ⟨109, 203, c_fpref03_Mul⟩,
   ⟨110, 196, c_fpref03_Add⟩,
   ⟨111, 197, c_fpref05_made⟩,
   ⟨114, 85, c_fpref02_Of⟩,
   ⟨115, 147, c_interval_Neg⟩,
   ⟨116, 148, c_fpref05_Neg⟩,
   ⟨117, 78, c_dyadic_inRange⟩,
   ⟨118, 79, c_dyadic_Sign⟩,
   ⟨119, 80, c_dyadic_compare⟩,
   ⟨120, 156, c_interval_Abs⟩,
   ⟨121, 211, c_interval_end⟩,
   ⟨122, 157, c_fpref05_Abs⟩,
   ⟨123, 212, c_fpref05_powDown⟩,
   ⟨124, 54, c_fpref02_Sign⟩,
   ⟨125, 213, c_fpref05_powUp⟩,
   ⟨126, 57, c_fpref02_Neg⟩,
   ⟨127, 207, c_round_SqrtDown⟩,
   ⟨128, 208, c_round_SqrtUp⟩,
   ⟨129, 223, c_dyadic_exponent⟩,
   ⟨130, 224, c_dyadic_checked⟩,
   ⟨131, 225, c_dyadic_canonical⟩,
   ⟨132, 218, c_round_div⟩,
   ⟨133, 217, c_round_mul⟩,
   ⟨134, 216, c_round_add⟩,
   ⟨135, 70, c_fpref05_Valid⟩,
   ⟨136, 219, c_fpref03_fault⟩,
   ⟨137, 226, c_fpref01_Bits⟩,
   ⟨138, 227, c_fpref01_DivMod⟩,
   ⟨139, 228, c_fpref01_Shl⟩,
   ⟨140, 229, c_fpref03_Cut⟩,
   ⟨141, 18, c_fpref02_Cmp⟩,
   ⟨142, 220, c_fpref03_exact⟩,
   ⟨143, 185, c_fpref02_Product⟩,
   ⟨144, 56, c_fpref02_Sum⟩,
   ⟨145, 101, c_fpref02_trim⟩,
   ⟨146, 102, c_fpref02_zeros⟩,
   ⟨147, 103, c_fpref02_right⟩,
   ⟨148, 198, c_dyadic_Neg⟩,
   ⟨149, 97, c_dyadic_size⟩,
   ⟨150, 98, c_dyadic_Top⟩,
   ⟨151, 99, c_natural_Cmp⟩,
   ⟨152, 100, c_dyadic_shifted⟩,
   ⟨153, 165, c_interval_Mig⟩,
   ⟨154, 164, c_interval_Mag⟩,
   ⟨155, 234, c_interval_power⟩,
   ⟨156, 200, c_round_Up⟩,
   ⟨157, 199, c_round_Down⟩,
   ⟨158, 167, c_fpref05_Mig⟩,
   ⟨159, 166, c_fpref05_Mag⟩,
   ⟨160, 201, c_fpref03_Round⟩,
   ⟨161, 230, c_round_sqrt⟩,
   ⟨162, 244, c_dyadic_trimmed⟩,
   ⟨163, 245, c_dyadic_low⟩,
   ⟨164, 246, c_natural_Shr⟩,
   ⟨165, 119, c_slices_Clip_uint32⟩,
   ⟨166, 221, c_slices_Clone_uint32⟩,
   ⟨167, 235, c_round_fault⟩,
   ⟨168, 239, c_dyadic_Bits⟩,
   ⟨169, 240, c_natural_DivMod⟩,
   ⟨170, 241, c_round_shl⟩,
   ⟨171, 237, c_round_signed⟩,
   ⟨172, 110, c_natural_Bits⟩,
   ⟨173, 238, c_natural_Mul⟩,
   ⟨174, 222, c_round_round⟩,
   ⟨175, 236, c_round_sum⟩,
   ⟨176, 91, c_fpref05_zero⟩,
   ⟨177, 12, c_fpref02_Valid⟩,
   ⟨178, 242, c_fpref03_Prec⟩,
   ⟨179, 247, c_fpref01_Trim⟩,
   ⟨180, 248, c_fpref01_less⟩,
   ⟨181, 249, c_fpref01_at⟩,
   ⟨182, 250, c_fpref01_Shr⟩,
   ⟨183, 232, c_fpref01_Cmp⟩,
   ⟨184, 251, c_fpref01_Add⟩,
   ⟨185, 252, c_fpref03_greatest⟩,
   ⟨186, 55, c_fpref02_Top⟩,
   ⟨187, 215, c_fpref02_times⟩,
   ⟨188, 84, c_fpref02_left⟩,
   ⟨189, 86, c_fpref02_plus⟩,
   ⟨190, 87, c_fpref02_minus⟩,
   ⟨191, 111, c_natural_trim⟩,
   ⟨192, 112, c_natural_Shl⟩,
   ⟨193, 205, c_dyadic_Abs⟩,
   ⟨194, 253, c_natural_Sqrt⟩,
   ⟨195, 254, c_round_cut⟩,
   ⟨196, 261, c_math_bits_TrailingZeros32⟩,
   ⟨197, 114, c_natural_long⟩,
   ⟨198, 115, c_natural_done⟩,
   ⟨199, 262, c_natural_shr⟩,
   ⟨200, 255, c_round_precise⟩,
   ⟨201, 260, c_natural_divide⟩,
   ⟨202, 113, c_math_bits_Len32⟩,
   ⟨203, 259, c_natural_mul⟩,
   ⟨204, 243, c_round_of⟩,
   ⟨205, 256, c_round_shr⟩,
   ⟨206, 257, c_natural_Add⟩,
   ⟨207, 258, c_natural_Sub⟩,
   ⟨208, 49, c_fpref02_bits⟩,
   ⟨209, 263, c_fpref01_Sub⟩,
   ⟨210, 116, c_natural_shl⟩,
   ⟨211, 264, c_natural_add⟩,
   ⟨212, 265, c_dyadic_Make⟩,
   ⟨213, 117, c_slices_ContainsFunc_uint32s⟩,
   ⟨214, 118, c_natural_long_1⟩,
   ⟨215, 267, c_natural_short⟩,
   ⟨216, 268, c_math_bits_LeadingZeros32⟩,
   ⟨217, 269, c_natural_guess⟩,
   ⟨218, 270, c_natural_take⟩,
   ⟨219, 271, c_math_bits_Add32⟩,
   ⟨220, 266, c_natural_sub⟩,
   ⟨221, 120, c_slices_IndexFunc_uint32s⟩,
   ⟨222, 273, c_math_bits_Div32⟩,
   ⟨223, 274, c_natural_digit⟩,
   ⟨224, 272, c_math_bits_Sub32⟩]

theorem rows_ok : ∀ r ∈ rows, RowOk tab r := (List.forall_mem_cons.2 ⟨k_fplaw21_SeriesProducts, (List.forall_mem_cons.2 ⟨k_fplaw21_awake, (List.forall_mem_cons.2 ⟨k_fplaw21_great, (List.forall_mem_cons.2 ⟨k_fpref21_Right, (List.forall_mem_cons.2 ⟨k_fpref05_Equal, (List.forall_mem_cons.2 ⟨k_fpref05_Whole, (List.forall_mem_cons.2 ⟨k_fplaw21_same, (List.forall_mem_cons.2 ⟨k_series_Constant, (List.forall_mem_cons.2 ⟨k_series_Variable, (List.forall_mem_cons.2 ⟨k_fpref21_Num, (List.forall_mem_cons.2 ⟨k_fplaw21_pair, (List.forall_mem_cons.2 ⟨k_slices_ContainsFunc_Interval, (List.forall_mem_cons.2 ⟨k_interval_Valid, (List.forall_mem_cons.2 ⟨k_slices_EqualFunc_Interval, (List.forall_mem_cons.2 ⟨k_series_Mul, (List.forall_mem_cons.2 ⟨k_series_Div, (List.forall_mem_cons.2 ⟨k_series_Power, (List.forall_mem_cons.2 ⟨k_fpref21_Power, (List.forall_mem_cons.2 ⟨k_fpref21_Mul, (List.forall_mem_cons.2 ⟨k_fpref21_Div, (List.forall_mem_cons.2 ⟨k_series_Sqrt, (List.forall_mem_cons.2 ⟨k_interval_Scale, (List.forall_mem_cons.2 ⟨k_slices_ContainsFunc_Intervals, (List.forall_mem_cons.2 ⟨k_fplaw21_great_1, (List.forall_mem_cons.2 ⟨k_fplaw21_great_1_1, (List.forall_mem_cons.2 ⟨k_series_are, (List.forall_mem_cons.2 ⟨k_interval_Div, (List.forall_mem_cons.2 ⟨k_series_whole, (List.forall_mem_cons.2 ⟨k_interval_Mul, (List.forall_mem_cons.2 ⟨k_interval_Whole, (List.forall_mem_cons.2 ⟨k_interval_Add, (List.forall_mem_cons.2 ⟨k_fpref02_Equal, (List.forall_mem_cons.2 ⟨k_fpref05_Div, (List.forall_mem_cons.2 ⟨k_fpref05_Mul, (List.forall_mem_cons.2 ⟨k_fpref05_Add, (List.forall_mem_cons.2 ⟨k_fpref05_Point, (List.forall_mem_cons.2 ⟨k_fpref02_Int, (List.forall_mem_cons.2 ⟨k_interval_Sub, (List.forall_mem_cons.2 ⟨k_fpref05_Sub, (List.forall_mem_cons.2 ⟨k_slices_IndexFunc_Interval, (List.forall_mem_cons.2 ⟨k_interval_Valid_1, (List.forall_mem_cons.2 ⟨k_dyadic_Valid, (List.forall_mem_cons.2 ⟨k_dyadic_Cmp, (List.forall_mem_cons.2 ⟨k_interval_more, (List.forall_mem_cons.2 ⟨k_interval_less, (List.forall_mem_cons.2 ⟨k_series_sum, (List.forall_mem_cons.2 ⟨k_series_Mul_1, (List.forall_mem_cons.2 ⟨k_series_less, (List.forall_mem_cons.2 ⟨k_series_Div_1, (List.forall_mem_cons.2 ⟨k_slices_CloneO_Interval, (List.forall_mem_cons.2 ⟨k_interval_Power, (List.forall_mem_cons.2 ⟨k_fpref05_Power, (List.forall_mem_cons.2 ⟨k_interval_known, (List.forall_mem_cons.2 ⟨k_interval_Sqrt, (List.forall_mem_cons.2 ⟨k_series_Sqrt_1, (List.forall_mem_cons.2 ⟨k_dyadic_Scale, (List.forall_mem_cons.2 ⟨k_interval_made, (List.forall_mem_cons.2 ⟨k_slices_IndexFunc_Intervals, (List.forall_mem_cons.2 ⟨k_interval_permitted, (List.forall_mem_cons.2 ⟨k_interval_Sign, (List.forall_mem_cons.2 ⟨k_interval_four, (List.forall_mem_cons.2 ⟨k_round_DivDown, (List.forall_mem_cons.2 ⟨k_round_DivUp, (List.forall_mem_cons.2 ⟨k_interval_Point, (List.forall_mem_cons.2 ⟨k_dyadic_Int, (List.forall_mem_cons.2 ⟨k_round_MulDown, (List.forall_mem_cons.2 ⟨k_round_MulUp, (List.forall_mem_cons.2 ⟨k_round_AddDown, (List.forall_mem_cons.2 ⟨k_round_AddUp, (List.forall_mem_cons.2 ⟨k_fpref02_compare, (List.forall_mem_cons.2 ⟨k_fpref05_Prec, (List.forall_mem_cons.2 ⟨k_fpref05_known, (List.forall_mem_cons.2 ⟨k_fpref05_Sign, (List.forall_mem_cons.2 ⟨k_fpref05_ends, (List.forall_mem_cons.2 ⟨k_fpref03_Div, (List.forall_mem_cons.2 ⟨k_fpref05_least, (List.forall_mem_cons.2 ⟨k_fpref05_most, (List.forall_mem_cons.2 ⟨k_fpref03_Mul, (List.forall_mem_cons.2 ⟨k_fpref03_Add, (List.forall_mem_cons.2 ⟨k_fpref05_made, (List.forall_mem_cons.2 ⟨k_fpref02_Of, (List.forall_mem_cons.2 ⟨k_interval_Neg, (List.forall_mem_cons.2 ⟨k_fpref05_Neg, (List.forall_mem_cons.2 ⟨k_dyadic_inRange, (List.forall_mem_cons.2 ⟨k_dyadic_Sign, (List.forall_mem_cons.2 ⟨k_dyadic_compare, (List.forall_mem_cons.2 ⟨k_interval_Abs, (List.forall_mem_cons.2 ⟨k_interval_end, (List.forall_mem_cons.2 ⟨k_fpref05_Abs, (List.forall_mem_cons.2 ⟨k_fpref05_powDown, (List.forall_mem_cons.2 ⟨k_fpref02_Sign, (List.forall_mem_cons.2 ⟨k_fpref05_powUp, (List.forall_mem_cons.2 ⟨k_fpref02_Neg, (List.forall_mem_cons.2 ⟨k_round_SqrtDown, (List.forall_mem_cons.2 ⟨k_round_SqrtUp, (List.forall_mem_cons.2 ⟨k_dyadic_exponent, (List.forall_mem_cons.2 ⟨k_dyadic_checked, (List.forall_mem_cons.2 ⟨k_dyadic_canonical, (List.forall_mem_cons.2 ⟨k_round_div, (List.forall_mem_cons.2 ⟨k_round_mul, (List.forall_mem_cons.2 ⟨k_round_add, (List.forall_mem_cons.2 ⟨k_fpref05_Valid, (List.forall_mem_cons.2 ⟨k_fpref03_fault, (List.forall_mem_cons.2 ⟨k_fpref01_Bits, (List.forall_mem_cons.2 ⟨k_fpref01_DivMod, (List.forall_mem_cons.2 ⟨k_fpref01_Shl, (List.forall_mem_cons.2 ⟨k_fpref03_Cut, (List.forall_mem_cons.2 ⟨k_fpref02_Cmp, (List.forall_mem_cons.2 ⟨k_fpref03_exact, (List.forall_mem_cons.2 ⟨k_fpref02_Product, (List.forall_mem_cons.2 ⟨k_fpref02_Sum, (List.forall_mem_cons.2 ⟨k_fpref02_trim, (List.forall_mem_cons.2 ⟨k_fpref02_zeros, (List.forall_mem_cons.2 ⟨k_fpref02_right, (List.forall_mem_cons.2 ⟨k_dyadic_Neg, (List.forall_mem_cons.2 ⟨k_dyadic_size, (List.forall_mem_cons.2 ⟨k_dyadic_Top, (List.forall_mem_cons.2 ⟨k_natural_Cmp, (List.forall_mem_cons.2 ⟨k_dyadic_shifted, (List.forall_mem_cons.2 ⟨k_interval_Mig, (List.forall_mem_cons.2 ⟨k_interval_Mag, (List.forall_mem_cons.2 ⟨k_interval_power, (List.forall_mem_cons.2 ⟨k_round_Up, (List.forall_mem_cons.2 ⟨k_round_Down, (List.forall_mem_cons.2 ⟨k_fpref05_Mig, (List.forall_mem_cons.2 ⟨k_fpref05_Mag, (List.forall_mem_cons.2 ⟨k_fpref03_Round, (List.forall_mem_cons.2 ⟨k_round_sqrt, (List.forall_mem_cons.2 ⟨k_dyadic_trimmed, (List.forall_mem_cons.2 ⟨k_dyadic_low, (List.forall_mem_cons.2 ⟨k_natural_Shr, (List.forall_mem_cons.2 ⟨k_slices_Clip_uint32, (List.forall_mem_cons.2 ⟨k_slices_Clone_uint32, (List.forall_mem_cons.2 ⟨k_round_fault, (List.forall_mem_cons.2 ⟨k_dyadic_Bits, (List.forall_mem_cons.2 ⟨k_natural_DivMod, (List.forall_mem_cons.2 ⟨k_round_shl, (List.forall_mem_cons.2 ⟨k_round_signed, (List.forall_mem_cons.2 ⟨k_natural_Bits, (List.forall_mem_cons.2 ⟨k_natural_Mul, (List.forall_mem_cons.2 ⟨k_round_round, (List.forall_mem_cons.2 ⟨k_round_sum, (List.forall_mem_cons.2 ⟨k_fpref05_zero, (List.forall_mem_cons.2 ⟨k_fpref02_Valid, (List.forall_mem_cons.2 ⟨k_fpref03_Prec, (List.forall_mem_cons.2 ⟨k_fpref01_Trim, (List.forall_mem_cons.2 ⟨k_fpref01_less, (List.forall_mem_cons.2 ⟨k_fpref01_at, (List.forall_mem_cons.2 ⟨k_fpref01_Shr, (List.forall_mem_cons.2 ⟨k_fpref01_Cmp, (List.forall_mem_cons.2 ⟨k_fpref01_Add, (List.forall_mem_cons.2 ⟨k_fpref03_greatest, (List.forall_mem_cons.2 ⟨k_fpref02_Top, (List.forall_mem_cons.2 ⟨k_fpref02_times, (List.forall_mem_cons.2 ⟨k_fpref02_left, (List.forall_mem_cons.2 ⟨k_fpref02_plus, (List.forall_mem_cons.2 ⟨k_fpref02_minus, (List.forall_mem_cons.2 ⟨k_natural_trim, (List.forall_mem_cons.2 ⟨k_natural_Shl, (List.forall_mem_cons.2 ⟨k_dyadic_Abs, (List.forall_mem_cons.2 ⟨k_natural_Sqrt, (List.forall_mem_cons.2 ⟨k_round_cut, (List.forall_mem_cons.2 ⟨k_math_bits_TrailingZeros32, (List.forall_mem_cons.2 ⟨k_natural_long, (List.forall_mem_cons.2 ⟨k_natural_done, (List.forall_mem_cons.2 ⟨k_natural_shr, (List.forall_mem_cons.2 ⟨k_round_precise, (List.forall_mem_cons.2 ⟨k_natural_divide, (List.forall_mem_cons.2 ⟨k_math_bits_Len32, (List.forall_mem_cons.2 ⟨k_natural_mul, (List.forall_mem_cons.2 ⟨k_round_of, (List.forall_mem_cons.2 ⟨k_round_shr, (List.forall_mem_cons.2 ⟨k_natural_Add, (List.forall_mem_cons.2 ⟨k_natural_Sub, (List.forall_mem_cons.2 ⟨k_fpref02_bits, (List.forall_mem_cons.2 ⟨k_fpref01_Sub, (List.forall_mem_cons.2 ⟨k_natural_shl, (List.forall_mem_cons.2 ⟨k_natural_add, (List.forall_mem_cons.2 ⟨k_dyadic_Make, (List.forall_mem_cons.2 ⟨k_slices_ContainsFunc_uint32s, (List.forall_mem_cons.2 ⟨k_natural_long_1, (List.forall_mem_cons.2 ⟨k_natural_short, (List.forall_mem_cons.2 ⟨k_math_bits_LeadingZeros32, (List.forall_mem_cons.2 ⟨k_natural_guess, (List.forall_mem_cons.2 ⟨k_natural_take, (List.forall_mem_cons.2 ⟨k_math_bits_Add32, (List.forall_mem_cons.2 ⟨k_natural_sub, (List.forall_mem_cons.2 ⟨k_slices_IndexFunc_uint32s, (List.forall_mem_cons.2 ⟨k_math_bits_Div32, (List.forall_mem_cons.2 ⟨k_natural_digit, (List.forall_mem_cons.2 ⟨k_math_bits_Sub32, (by simp)⟩)⟩)⟩)⟩)⟩)⟩)⟩)⟩)⟩)⟩)⟩)⟩)⟩)⟩)⟩)⟩)⟩)⟩)⟩)⟩)⟩)⟩)⟩)⟩)⟩)⟩)⟩)⟩)⟩)⟩)⟩)⟩)⟩)⟩)⟩)⟩)⟩)⟩)⟩)⟩)⟩)⟩)⟩)⟩)⟩)⟩)⟩)⟩)⟩)⟩)⟩)⟩)⟩)⟩)⟩)⟩)⟩)⟩)⟩)⟩)⟩)⟩)⟩)⟩)⟩)⟩)⟩)⟩)⟩)⟩)⟩)⟩)⟩)⟩)⟩)⟩)⟩)⟩)⟩)⟩)⟩)⟩)⟩)⟩)⟩)⟩)⟩)⟩)⟩)⟩)⟩)⟩)⟩)⟩)⟩)⟩)⟩)⟩)⟩)⟩)⟩)⟩)⟩)⟩)⟩)⟩)⟩)⟩)⟩)⟩)⟩)⟩)⟩)⟩)⟩)⟩)⟩)⟩)⟩)⟩)⟩)⟩)⟩)⟩)⟩)⟩)⟩)⟩)⟩)⟩)⟩)⟩)⟩)⟩)⟩)⟩)⟩)⟩)⟩)⟩)⟩)⟩)⟩)⟩)⟩)⟩)⟩)⟩)⟩)⟩)⟩)⟩)⟩)⟩)⟩)⟩)⟩)⟩)⟩)⟩)⟩)⟩)⟩)⟩)⟩)⟩)⟩)⟩)⟩)⟩)⟩)⟩)⟩)⟩)⟩)⟩)⟩)⟩)⟩)⟩)⟩)⟩)⟩)⟩)⟩)⟩)⟩)⟩)⟩)⟩)⟩)
theorem s_fplaw21_SeriesProducts : look fnList 278 = some c_fplaw21_SeriesProducts := by kernel_rfl
theorem s_fplaw21_awake : look fnList 280 = some c_fplaw21_awake := by kernel_rfl
theorem s_fplaw21_great : look fnList 281 = some c_fplaw21_great := by kernel_rfl
theorem s_fpref21_Right : look fnList 285 = some c_fpref21_Right := by kernel_rfl
theorem s_fpref05_Equal : look fnList 60 = some c_fpref05_Equal := by kernel_rfl
theorem s_fpref05_Whole : look fnList 109 = some c_fpref05_Whole := by kernel_rfl
theorem s_fplaw21_same : look fnList 286 = some c_fplaw21_same := by kernel_rfl
theorem s_series_Constant : look fnList 290 = some c_series_Constant := by kernel_rfl
theorem s_series_Variable : look fnList 291 = some c_series_Variable := by kernel_rfl
theorem s_fpref21_Num : look fnList 293 = some c_fpref21_Num := by kernel_rfl
theorem s_fplaw21_pair : look fnList 296 = some c_fplaw21_pair := by kernel_rfl
theorem s_slices_ContainsFunc_Interval : look fnList 67 = some c_slices_ContainsFunc_Interval := by kernel_rfl
theorem s_interval_Valid : look fnList 77 = some c_interval_Valid := by kernel_rfl
theorem s_slices_EqualFunc_Interval : look fnList 82 = some c_slices_EqualFunc_Interval := by kernel_rfl
theorem s_series_Mul : look fnList 302 = some c_series_Mul := by kernel_rfl
theorem s_series_Div : look fnList 303 = some c_series_Div := by kernel_rfl
theorem s_series_Power : look fnList 304 = some c_series_Power := by kernel_rfl
theorem s_fpref21_Power : look fnList 305 = some c_fpref21_Power := by kernel_rfl
theorem s_fpref21_Mul : look fnList 306 = some c_fpref21_Mul := by kernel_rfl
theorem s_fpref21_Div : look fnList 307 = some c_fpref21_Div := by kernel_rfl
theorem s_series_Sqrt : look fnList 311 = some c_series_Sqrt := by kernel_rfl
theorem s_interval_Scale : look fnList 158 = some c_interval_Scale := by kernel_rfl
theorem s_slices_ContainsFunc_Intervals : look fnList 312 = some c_slices_ContainsFunc_Intervals := by kernel_rfl
theorem s_fplaw21_great_1 : look fnList 313 = some c_fplaw21_great_1 := by kernel_rfl
theorem s_fplaw21_great_1_1 : look fnList 314 = some c_fplaw21_great_1_1 := by kernel_rfl
theorem s_series_are : look fnList 315 = some c_series_are := by kernel_rfl
theorem s_interval_Div : look fnList 142 = some c_interval_Div := by kernel_rfl
theorem s_series_whole : look fnList 316 = some c_series_whole := by kernel_rfl
theorem s_interval_Mul : look fnList 140 = some c_interval_Mul := by kernel_rfl
theorem s_interval_Whole : look fnList 107 = some c_interval_Whole := by kernel_rfl
theorem s_interval_Add : look fnList 138 = some c_interval_Add := by kernel_rfl
theorem s_fpref02_Equal : look fnList 23 = some c_fpref02_Equal := by kernel_rfl
theorem s_fpref05_Div : look fnList 175 = some c_fpref05_Div := by kernel_rfl
theorem s_fpref05_Mul : look fnList 154 = some c_fpref05_Mul := by kernel_rfl
theorem s_fpref05_Add : look fnList 145 = some c_fpref05_Add := by kernel_rfl
theorem s_fpref05_Point : look fnList 153 = some c_fpref05_Point := by kernel_rfl
theorem s_fpref02_Int : look fnList 74 = some c_fpref02_Int := by kernel_rfl
theorem s_interval_Sub : look fnList 139 = some c_interval_Sub := by kernel_rfl
theorem s_fpref05_Sub : look fnList 146 = some c_fpref05_Sub := by kernel_rfl
theorem s_slices_IndexFunc_Interval : look fnList 89 = some c_slices_IndexFunc_Interval := by kernel_rfl
theorem s_interval_Valid_1 : look fnList 96 = some c_interval_Valid_1 := by kernel_rfl
theorem s_dyadic_Valid : look fnList 51 = some c_dyadic_Valid := by kernel_rfl
theorem s_dyadic_Cmp : look fnList 52 = some c_dyadic_Cmp := by kernel_rfl
theorem s_interval_more : look fnList 104 = some c_interval_more := by kernel_rfl
theorem s_interval_less : look fnList 105 = some c_interval_less := by kernel_rfl
theorem s_series_sum : look fnList 322 = some c_series_sum := by kernel_rfl
theorem s_series_Mul_1 : look fnList 323 = some c_series_Mul_1 := by kernel_rfl
theorem s_series_less : look fnList 324 = some c_series_less := by kernel_rfl
theorem s_series_Div_1 : look fnList 325 = some c_series_Div_1 := by kernel_rfl
theorem s_slices_CloneO_Interval : look fnList 330 = some c_slices_CloneO_Interval := by kernel_rfl
theorem s_interval_Power : look fnList 178 = some c_interval_Power := by kernel_rfl
theorem s_fpref05_Power : look fnList 179 = some c_fpref05_Power := by kernel_rfl
theorem s_interval_known : look fnList 106 = some c_interval_known := by kernel_rfl
theorem s_interval_Sqrt : look fnList 176 = some c_interval_Sqrt := by kernel_rfl
theorem s_series_Sqrt_1 : look fnList 326 = some c_series_Sqrt_1 := by kernel_rfl
theorem s_dyadic_Scale : look fnList 204 = some c_dyadic_Scale := by kernel_rfl
theorem s_interval_made : look fnList 189 = some c_interval_made := by kernel_rfl
theorem s_slices_IndexFunc_Intervals : look fnList 327 = some c_slices_IndexFunc_Intervals := by kernel_rfl
theorem s_interval_permitted : look fnList 186 = some c_interval_permitted := by kernel_rfl
theorem s_interval_Sign : look fnList 173 = some c_interval_Sign := by kernel_rfl
theorem s_interval_four : look fnList 190 = some c_interval_four := by kernel_rfl
theorem s_round_DivDown : look fnList 193 = some c_round_DivDown := by kernel_rfl
theorem s_round_DivUp : look fnList 194 = some c_round_DivUp := by kernel_rfl
theorem s_interval_Point : look fnList 152 = some c_interval_Point := by kernel_rfl
theorem s_dyadic_Int : look fnList 210 = some c_dyadic_Int := by kernel_rfl
theorem s_round_MulDown : look fnList 191 = some c_round_MulDown := by kernel_rfl
theorem s_round_MulUp : look fnList 192 = some c_round_MulUp := by kernel_rfl
theorem s_round_AddDown : look fnList 187 = some c_round_AddDown := by kernel_rfl
theorem s_round_AddUp : look fnList 188 = some c_round_AddUp := by kernel_rfl
theorem s_fpref02_compare : look fnList 63 = some c_fpref02_compare := by kernel_rfl
theorem s_fpref05_Prec : look fnList 195 = some c_fpref05_Prec := by kernel_rfl
theorem s_fpref05_known : look fnList 108 = some c_fpref05_known := by kernel_rfl
theorem s_fpref05_Sign : look fnList 174 = some c_fpref05_Sign := by kernel_rfl
theorem s_fpref05_ends : look fnList 202 = some c_fpref05_ends := by kernel_rfl
theorem s_fpref03_Div : look fnList 206 = some c_fpref03_Div := by kernel_rfl
theorem s_fpref05_least : look fnList 93 = some c_fpref05_least := by kernel_rfl
theorem s_fpref05_most : look fnList 92 = some c_fpref05_most := by kernel_rfl
theorem s_fpref03_Mul : look fnList 203 = some c_fpref03_Mul := by kernel_rfl
theorem s_fpref03_Add : look fnList 196 = some c_fpref03_Add := by kernel_rfl
theorem s_fpref05_made : look fnList 197 = some c_fpref05_made := by kernel_rfl
theorem s_fpref02_Of : look fnList 85 = some c_fpref02_Of := by kernel_rfl
theorem s_interval_Neg : look fnList 147 = some c_interval_Neg := by kernel_rfl
theorem s_fpref05_Neg : look fnList 148 = some c_fpref05_Neg := by kernel_rfl
theorem s_dyadic_inRange : look fnList 78 = some c_dyadic_inRange := by kernel_rfl
theorem s_dyadic_Sign : look fnList 79 = some c_dyadic_Sign := by kernel_rfl
theorem s_dyadic_compare : look fnList 80 = some c_dyadic_compare := by kernel_rfl
theorem s_interval_Abs : look fnList 156 = some c_interval_Abs := by kernel_rfl
theorem s_interval_end : look fnList 211 = some c_interval_end := by kernel_rfl
theorem s_fpref05_Abs : look fnList 157 = some c_fpref05_Abs := by kernel_rfl
theorem s_fpref05_powDown : look fnList 212 = some c_fpref05_powDown := by kernel_rfl
theorem s_fpref02_Sign : look fnList 54 = some c_fpref02_Sign := by kernel_rfl
theorem s_fpref05_powUp : look fnList 213 = some c_fpref05_powUp := by kernel_rfl
theorem s_fpref02_Neg : look fnList 57 = some c_fpref02_Neg := by kernel_rfl
theorem s_round_SqrtDown : look fnList 207 = some c_round_SqrtDown := by kernel_rfl
theorem s_round_SqrtUp : look fnList 208 = some c_round_SqrtUp := by kernel_rfl
theorem s_dyadic_exponent : look fnList 223 = some c_dyadic_exponent := by kernel_rfl
theorem s_dyadic_checked : look fnList 224 = some c_dyadic_checked := by kernel_rfl
theorem s_dyadic_canonical : look fnList 225 = some c_dyadic_canonical := by kernel_rfl
theorem s_round_div : look fnList 218 = some c_round_div := by kernel_rfl
theorem s_round_mul : look fnList 217 = some c_round_mul := by kernel_rfl
theorem s_round_add : look fnList 216 = some c_round_add := by kernel_rfl
theorem s_fpref05_Valid : look fnList 70 = some c_fpref05_Valid := by kernel_rfl
theorem s_fpref03_fault : look fnList 219 = some c_fpref03_fault := by kernel_rfl
theorem s_fpref01_Bits : look fnList 226 = some c_fpref01_Bits := by kernel_rfl
theorem s_fpref01_DivMod : look fnList 227 = some c_fpref01_DivMod := by kernel_rfl
theorem s_fpref01_Shl : look fnList 228 = some c_fpref01_Shl := by kernel_rfl
theorem s_fpref03_Cut : look fnList 229 = some c_fpref03_Cut := by kernel_rfl
theorem s_fpref02_Cmp : look fnList 18 = some c_fpref02_Cmp := by kernel_rfl
theorem s_fpref03_exact : look fnList 220 = some c_fpref03_exact := by kernel_rfl
theorem s_fpref02_Product : look fnList 185 = some c_fpref02_Product := by kernel_rfl
theorem s_fpref02_Sum : look fnList 56 = some c_fpref02_Sum := by kernel_rfl
theorem s_fpref02_trim : look fnList 101 = some c_fpref02_trim := by kernel_rfl
theorem s_fpref02_zeros : look fnList 102 = some c_fpref02_zeros := by kernel_rfl
theorem s_fpref02_right : look fnList 103 = some c_fpref02_right := by kernel_rfl
theorem s_dyadic_Neg : look fnList 198 = some c_dyadic_Neg := by kernel_rfl
theorem s_dyadic_size : look fnList 97 = some c_dyadic_size := by kernel_rfl
theorem s_dyadic_Top : look fnList 98 = some c_dyadic_Top := by kernel_rfl
theorem s_natural_Cmp : look fnList 99 = some c_natural_Cmp := by kernel_rfl
theorem s_dyadic_shifted : look fnList 100 = some c_dyadic_shifted := by kernel_rfl
theorem s_interval_Mig : look fnList 165 = some c_interval_Mig := by kernel_rfl
theorem s_interval_Mag : look fnList 164 = some c_interval_Mag := by kernel_rfl
theorem s_interval_power : look fnList 234 = some c_interval_power := by kernel_rfl
theorem s_round_Up : look fnList 200 = some c_round_Up := by kernel_rfl
theorem s_round_Down : look fnList 199 = some c_round_Down := by kernel_rfl
theorem s_fpref05_Mig : look fnList 167 = some c_fpref05_Mig := by kernel_rfl
theorem s_fpref05_Mag : look fnList 166 = some c_fpref05_Mag := by kernel_rfl
theorem s_fpref03_Round : look fnList 201 = some c_fpref03_Round := by kernel_rfl
theorem s_round_sqrt : look fnList 230 = some c_round_sqrt := by kernel_rfl
theorem s_dyadic_trimmed : look fnList 244 = some c_dyadic_trimmed := by kernel_rfl
theorem s_dyadic_low : look fnList 245 = some c_dyadic_low := by kernel_rfl
theorem s_natural_Shr : look fnList 246 = some c_natural_Shr := by kernel_rfl
theorem s_slices_Clip_uint32 : look fnList 119 = some c_slices_Clip_uint32 := by kernel_rfl
theorem s_slices_Clone_uint32 : look fnList 221 = some c_slices_Clone_uint32 := by kernel_rfl
theorem s_round_fault : look fnList 235 = some c_round_fault := by kernel_rfl
theorem s_dyadic_Bits : look fnList 239 = some c_dyadic_Bits := by kernel_rfl
theorem s_natural_DivMod : look fnList 240 = some c_natural_DivMod := by kernel_rfl
theorem s_round_shl : look fnList 241 = some c_round_shl := by kernel_rfl
theorem s_round_signed : look fnList 237 = some c_round_signed := by kernel_rfl
theorem s_natural_Bits : look fnList 110 = some c_natural_Bits := by kernel_rfl
theorem s_natural_Mul : look fnList 238 = some c_natural_Mul := by kernel_rfl
theorem s_round_round : look fnList 222 = some c_round_round := by kernel_rfl
theorem s_round_sum : look fnList 236 = some c_round_sum := by kernel_rfl
theorem s_fpref05_zero : look fnList 91 = some c_fpref05_zero := by kernel_rfl
theorem s_fpref02_Valid : look fnList 12 = some c_fpref02_Valid := by kernel_rfl
theorem s_fpref03_Prec : look fnList 242 = some c_fpref03_Prec := by kernel_rfl
theorem s_fpref01_Trim : look fnList 247 = some c_fpref01_Trim := by kernel_rfl
theorem s_fpref01_less : look fnList 248 = some c_fpref01_less := by kernel_rfl
theorem s_fpref01_at : look fnList 249 = some c_fpref01_at := by kernel_rfl
theorem s_fpref01_Shr : look fnList 250 = some c_fpref01_Shr := by kernel_rfl
theorem s_fpref01_Cmp : look fnList 232 = some c_fpref01_Cmp := by kernel_rfl
theorem s_fpref01_Add : look fnList 251 = some c_fpref01_Add := by kernel_rfl
theorem s_fpref03_greatest : look fnList 252 = some c_fpref03_greatest := by kernel_rfl
theorem s_fpref02_Top : look fnList 55 = some c_fpref02_Top := by kernel_rfl
theorem s_fpref02_times : look fnList 215 = some c_fpref02_times := by kernel_rfl
theorem s_fpref02_left : look fnList 84 = some c_fpref02_left := by kernel_rfl
theorem s_fpref02_plus : look fnList 86 = some c_fpref02_plus := by kernel_rfl
theorem s_fpref02_minus : look fnList 87 = some c_fpref02_minus := by kernel_rfl
theorem s_natural_trim : look fnList 111 = some c_natural_trim := by kernel_rfl
theorem s_natural_Shl : look fnList 112 = some c_natural_Shl := by kernel_rfl
theorem s_dyadic_Abs : look fnList 205 = some c_dyadic_Abs := by kernel_rfl
theorem s_natural_Sqrt : look fnList 253 = some c_natural_Sqrt := by kernel_rfl
theorem s_round_cut : look fnList 254 = some c_round_cut := by kernel_rfl
theorem s_math_bits_TrailingZeros32 : look fnList 261 = some c_math_bits_TrailingZeros32 := by kernel_rfl
theorem s_natural_long : look fnList 114 = some c_natural_long := by kernel_rfl
theorem s_natural_done : look fnList 115 = some c_natural_done := by kernel_rfl
theorem s_natural_shr : look fnList 262 = some c_natural_shr := by kernel_rfl
theorem s_round_precise : look fnList 255 = some c_round_precise := by kernel_rfl
theorem s_natural_divide : look fnList 260 = some c_natural_divide := by kernel_rfl
theorem s_math_bits_Len32 : look fnList 113 = some c_math_bits_Len32 := by kernel_rfl
theorem s_natural_mul : look fnList 259 = some c_natural_mul := by kernel_rfl
theorem s_round_of : look fnList 243 = some c_round_of := by kernel_rfl
theorem s_round_shr : look fnList 256 = some c_round_shr := by kernel_rfl
theorem s_natural_Add : look fnList 257 = some c_natural_Add := by kernel_rfl
theorem s_natural_Sub : look fnList 258 = some c_natural_Sub := by kernel_rfl
theorem s_fpref02_bits : look fnList 49 = some c_fpref02_bits := by kernel_rfl
theorem s_fpref01_Sub : look fnList 263 = some c_fpref01_Sub := by kernel_rfl
theorem s_natural_shl : look fnList 116 = some c_natural_shl := by kernel_rfl
theorem s_natural_add : look fnList 264 = some c_natural_add := by kernel_rfl
theorem s_dyadic_Make : look fnList 265 = some c_dyadic_Make := by kernel_rfl
theorem s_slices_ContainsFunc_uint32s : look fnList 117 = some c_slices_ContainsFunc_uint32s := by kernel_rfl
theorem s_natural_long_1 : look fnList 118 = some c_natural_long_1 := by kernel_rfl
theorem s_natural_short : look fnList 267 = some c_natural_short := by kernel_rfl
theorem s_math_bits_LeadingZeros32 : look fnList 268 = some c_math_bits_LeadingZeros32 := by kernel_rfl
theorem s_natural_guess : look fnList 269 = some c_natural_guess := by kernel_rfl
theorem s_natural_take : look fnList 270 = some c_natural_take := by kernel_rfl
theorem s_math_bits_Add32 : look fnList 271 = some c_math_bits_Add32 := by kernel_rfl
theorem s_natural_sub : look fnList 266 = some c_natural_sub := by kernel_rfl
theorem s_slices_IndexFunc_uint32s : look fnList 120 = some c_slices_IndexFunc_uint32s := by kernel_rfl
theorem s_math_bits_Div32 : look fnList 273 = some c_math_bits_Div32 := by kernel_rfl
theorem s_natural_digit : look fnList 274 = some c_natural_digit := by kernel_rfl
theorem s_math_bits_Sub32 : look fnList 272 = some c_math_bits_Sub32 := by kernel_rfl

theorem rows_same : ∀ r ∈ rows, look fnList r.gid = some r.fn := (List.forall_mem_cons.2 ⟨s_fplaw21_SeriesProducts, (List.forall_mem_cons.2 ⟨s_fplaw21_awake, (List.forall_mem_cons.2 ⟨s_fplaw21_great, (List.forall_mem_cons.2 ⟨s_fpref21_Right, (List.forall_mem_cons.2 ⟨s_fpref05_Equal, (List.forall_mem_cons.2 ⟨s_fpref05_Whole, (List.forall_mem_cons.2 ⟨s_fplaw21_same, (List.forall_mem_cons.2 ⟨s_series_Constant, (List.forall_mem_cons.2 ⟨s_series_Variable, (List.forall_mem_cons.2 ⟨s_fpref21_Num, (List.forall_mem_cons.2 ⟨s_fplaw21_pair, (List.forall_mem_cons.2 ⟨s_slices_ContainsFunc_Interval, (List.forall_mem_cons.2 ⟨s_interval_Valid, (List.forall_mem_cons.2 ⟨s_slices_EqualFunc_Interval, (List.forall_mem_cons.2 ⟨s_series_Mul, (List.forall_mem_cons.2 ⟨s_series_Div, (List.forall_mem_cons.2 ⟨s_series_Power, (List.forall_mem_cons.2 ⟨s_fpref21_Power, (List.forall_mem_cons.2 ⟨s_fpref21_Mul, (List.forall_mem_cons.2 ⟨s_fpref21_Div, (List.forall_mem_cons.2 ⟨s_series_Sqrt, (List.forall_mem_cons.2 ⟨s_interval_Scale, (List.forall_mem_cons.2 ⟨s_slices_ContainsFunc_Intervals, (List.forall_mem_cons.2 ⟨s_fplaw21_great_1, (List.forall_mem_cons.2 ⟨s_fplaw21_great_1_1, (List.forall_mem_cons.2 ⟨s_series_are, (List.forall_mem_cons.2 ⟨s_interval_Div, (List.forall_mem_cons.2 ⟨s_series_whole, (List.forall_mem_cons.2 ⟨s_interval_Mul, (List.forall_mem_cons.2 ⟨s_interval_Whole, (List.forall_mem_cons.2 ⟨s_interval_Add, (List.forall_mem_cons.2 ⟨s_fpref02_Equal, (List.forall_mem_cons.2 ⟨s_fpref05_Div, (List.forall_mem_cons.2 ⟨s_fpref05_Mul, (List.forall_mem_cons.2 ⟨s_fpref05_Add, (List.forall_mem_cons.2 ⟨s_fpref05_Point, (List.forall_mem_cons.2 ⟨s_fpref02_Int, (List.forall_mem_cons.2 ⟨s_interval_Sub, (List.forall_mem_cons.2 ⟨s_fpref05_Sub, (List.forall_mem_cons.2 ⟨s_slices_IndexFunc_Interval, (List.forall_mem_cons.2 ⟨s_interval_Valid_1, (List.forall_mem_cons.2 ⟨s_dyadic_Valid, (List.forall_mem_cons.2 ⟨s_dyadic_Cmp, (List.forall_mem_cons.2 ⟨s_interval_more, (List.forall_mem_cons.2 ⟨s_interval_less, (List.forall_mem_cons.2 ⟨s_series_sum, (List.forall_mem_cons.2 ⟨s_series_Mul_1, (List.forall_mem_cons.2 ⟨s_series_less, (List.forall_mem_cons.2 ⟨s_series_Div_1, (List.forall_mem_cons.2 ⟨s_slices_CloneO_Interval, (List.forall_mem_cons.2 ⟨s_interval_Power, (List.forall_mem_cons.2 ⟨s_fpref05_Power, (List.forall_mem_cons.2 ⟨s_interval_known, (List.forall_mem_cons.2 ⟨s_interval_Sqrt, (List.forall_mem_cons.2 ⟨s_series_Sqrt_1, (List.forall_mem_cons.2 ⟨s_dyadic_Scale, (List.forall_mem_cons.2 ⟨s_interval_made, (List.forall_mem_cons.2 ⟨s_slices_IndexFunc_Intervals, (List.forall_mem_cons.2 ⟨s_interval_permitted, (List.forall_mem_cons.2 ⟨s_interval_Sign, (List.forall_mem_cons.2 ⟨s_interval_four, (List.forall_mem_cons.2 ⟨s_round_DivDown, (List.forall_mem_cons.2 ⟨s_round_DivUp, (List.forall_mem_cons.2 ⟨s_interval_Point, (List.forall_mem_cons.2 ⟨s_dyadic_Int, (List.forall_mem_cons.2 ⟨s_round_MulDown, (List.forall_mem_cons.2 ⟨s_round_MulUp, (List.forall_mem_cons.2 ⟨s_round_AddDown, (List.forall_mem_cons.2 ⟨s_round_AddUp, (List.forall_mem_cons.2 ⟨s_fpref02_compare, (List.forall_mem_cons.2 ⟨s_fpref05_Prec, (List.forall_mem_cons.2 ⟨s_fpref05_known, (List.forall_mem_cons.2 ⟨s_fpref05_Sign, (List.forall_mem_cons.2 ⟨s_fpref05_ends, (List.forall_mem_cons.2 ⟨s_fpref03_Div, (List.forall_mem_cons.2 ⟨s_fpref05_least, (List.forall_mem_cons.2 ⟨s_fpref05_most, (List.forall_mem_cons.2 ⟨s_fpref03_Mul, (List.forall_mem_cons.2 ⟨s_fpref03_Add, (List.forall_mem_cons.2 ⟨s_fpref05_made, (List.forall_mem_cons.2 ⟨s_fpref02_Of, (List.forall_mem_cons.2 ⟨s_interval_Neg, (List.forall_mem_cons.2 ⟨s_fpref05_Neg, (List.forall_mem_cons.2 ⟨s_dyadic_inRange, (List.forall_mem_cons.2 ⟨s_dyadic_Sign, (List.forall_mem_cons.2 ⟨s_dyadic_compare, (List.forall_mem_cons.2 ⟨s_interval_Abs, (List.forall_mem_cons.2 ⟨s_interval_end, (List.forall_mem_cons.2 ⟨s_fpref05_Abs, (List.forall_mem_cons.2 ⟨s_fpref05_powDown, (List.forall_mem_cons.2 ⟨s_fpref02_Sign, (List.forall_mem_cons.2 ⟨s_fpref05_powUp, (List.forall_mem_cons.2 ⟨s_fpref02_Neg, (List.forall_mem_cons.2 ⟨s_round_SqrtDown, (List.forall_mem_cons.2 ⟨s_round_SqrtUp, (List.forall_mem_cons.2 ⟨s_dyadic_exponent, (List.forall_mem_cons.2 ⟨s_dyadic_checked, (List.forall_mem_cons.2 ⟨s_dyadic_canonical, (List.forall_mem_cons.2 ⟨s_round_div, (List.forall_mem_cons.2 ⟨s_round_mul, (List.forall_mem_cons.2 ⟨s_round_add, (List.forall_mem_cons.2 ⟨s_fpref05_Valid, (List.forall_mem_cons.2 ⟨s_fpref03_fault, (List.forall_mem_cons.2 ⟨s_fpref01_Bits, (List.forall_mem_cons.2 ⟨s_fpref01_DivMod, (List.forall_mem_cons.2 ⟨s_fpref01_Shl, (List.forall_mem_cons.2 ⟨s_fpref03_Cut, (List.forall_mem_cons.2 ⟨s_fpref02_Cmp, (List.forall_mem_cons.2 ⟨s_fpref03_exact, (List.forall_mem_cons.2 ⟨s_fpref02_Product, (List.forall_mem_cons.2 ⟨s_fpref02_Sum, (List.forall_mem_cons.2 ⟨s_fpref02_trim, (List.forall_mem_cons.2 ⟨s_fpref02_zeros, (List.forall_mem_cons.2 ⟨s_fpref02_right, (List.forall_mem_cons.2 ⟨s_dyadic_Neg, (List.forall_mem_cons.2 ⟨s_dyadic_size, (List.forall_mem_cons.2 ⟨s_dyadic_Top, (List.forall_mem_cons.2 ⟨s_natural_Cmp, (List.forall_mem_cons.2 ⟨s_dyadic_shifted, (List.forall_mem_cons.2 ⟨s_interval_Mig, (List.forall_mem_cons.2 ⟨s_interval_Mag, (List.forall_mem_cons.2 ⟨s_interval_power, (List.forall_mem_cons.2 ⟨s_round_Up, (List.forall_mem_cons.2 ⟨s_round_Down, (List.forall_mem_cons.2 ⟨s_fpref05_Mig, (List.forall_mem_cons.2 ⟨s_fpref05_Mag, (List.forall_mem_cons.2 ⟨s_fpref03_Round, (List.forall_mem_cons.2 ⟨s_round_sqrt, (List.forall_mem_cons.2 ⟨s_dyadic_trimmed, (List.forall_mem_cons.2 ⟨s_dyadic_low, (List.forall_mem_cons.2 ⟨s_natural_Shr, (List.forall_mem_cons.2 ⟨s_slices_Clip_uint32, (List.forall_mem_cons.2 ⟨s_slices_Clone_uint32, (List.forall_mem_cons.2 ⟨s_round_fault, (List.forall_mem_cons.2 ⟨s_dyadic_Bits, (List.forall_mem_cons.2 ⟨s_natural_DivMod, (List.forall_mem_cons.2 ⟨s_round_shl, (List.forall_mem_cons.2 ⟨s_round_signed, (List.forall_mem_cons.2 ⟨s_natural_Bits, (List.forall_mem_cons.2 ⟨s_natural_Mul, (List.forall_mem_cons.2 ⟨s_round_round, (List.forall_mem_cons.2 ⟨s_round_sum, (List.forall_mem_cons.2 ⟨s_fpref05_zero, (List.forall_mem_cons.2 ⟨s_fpref02_Valid, (List.forall_mem_cons.2 ⟨s_fpref03_Prec, (List.forall_mem_cons.2 ⟨s_fpref01_Trim, (List.forall_mem_cons.2 ⟨s_fpref01_less, (List.forall_mem_cons.2 ⟨s_fpref01_at, (List.forall_mem_cons.2 ⟨s_fpref01_Shr, (List.forall_mem_cons.2 ⟨s_fpref01_Cmp, (List.forall_mem_cons.2 ⟨s_fpref01_Add, (List.forall_mem_cons.2 ⟨s_fpref03_greatest, (List.forall_mem_cons.2 ⟨s_fpref02_Top, (List.forall_mem_cons.2 ⟨s_fpref02_times, (List.forall_mem_cons.2 ⟨s_fpref02_left, (List.forall_mem_cons.2 ⟨s_fpref02_plus, (List.forall_mem_cons.2 ⟨s_fpref02_minus, (List.forall_mem_cons.2 ⟨s_natural_trim, (List.forall_mem_cons.2 ⟨s_natural_Shl, (List.forall_mem_cons.2 ⟨s_dyadic_Abs, (List.forall_mem_cons.2 ⟨s_natural_Sqrt, (List.forall_mem_cons.2 ⟨s_round_cut, (List.forall_mem_cons.2 ⟨s_math_bits_TrailingZeros32, (List.forall_mem_cons.2 ⟨s_natural_long, (List.forall_mem_cons.2 ⟨s_natural_done, (List.forall_mem_cons.2 ⟨s_natural_shr, (List.forall_mem_cons.2 ⟨s_round_precise, (List.forall_mem_cons.2 ⟨s_natural_divide, (List.forall_mem_cons.2 ⟨s_math_bits_Len32, (List.forall_mem_cons.2 ⟨s_natural_mul, (List.forall_mem_cons.2 ⟨s_round_of, (List.forall_mem_cons.2 ⟨s_round_shr, (List.forall_mem_cons.2 ⟨s_natural_Add, (List.forall_mem_cons.2 ⟨s_natural_Sub, (List.forall_mem_cons.2 ⟨s_fpref02_bits, (List.forall_mem_cons.2 ⟨s_fpref01_Sub, (List.forall_mem_cons.2 ⟨s_natural_shl, (List.forall_mem_cons.2 ⟨s_natural_add, (List.forall_mem_cons.2 ⟨s_dyadic_Make, (List.forall_mem_cons.2 ⟨s_slices_ContainsFunc_uint32s, (List.forall_mem_cons.2 ⟨s_natural_long_1, (List.forall_mem_cons.2 ⟨s_natural_short, (List.forall_mem_cons.2 ⟨s_math_bits_LeadingZeros32, (List.forall_mem_cons.2 ⟨s_natural_guess, (List.forall_mem_cons.2 ⟨s_natural_take, (List.forall_mem_cons.2 ⟨s_math_bits_Add32, (List.forall_mem_cons.2 ⟨s_natural_sub, (List.forall_mem_cons.2 ⟨s_slices_IndexFunc_uint32s, (List.forall_mem_cons.2 ⟨s_math_bits_Div32, (List.forall_mem_cons.2 ⟨s_natural_digit, (List.forall_mem_cons.2 ⟨s_math_bits_Sub32, (by simp)⟩)⟩)⟩)⟩)⟩)⟩)⟩)⟩)⟩)⟩)⟩)⟩)⟩)⟩)⟩)⟩)⟩)⟩)⟩)⟩)⟩)⟩)⟩)⟩)⟩)⟩)⟩)⟩)⟩)⟩)⟩)⟩)⟩)⟩)⟩)⟩)⟩)⟩)⟩)⟩)⟩)⟩)⟩)⟩)⟩)⟩)⟩)⟩)⟩)⟩)⟩)⟩)⟩)⟩)⟩)⟩)⟩)⟩)⟩)⟩)⟩)⟩)⟩)⟩)⟩)⟩)⟩)⟩)⟩)⟩)⟩)⟩)⟩)⟩)⟩)⟩)⟩)⟩)⟩)⟩)⟩)⟩)⟩)⟩)⟩)⟩)⟩)⟩)⟩)⟩)⟩)⟩)⟩)⟩)⟩)⟩)⟩)⟩)⟩)⟩)⟩)⟩)⟩)⟩)⟩)⟩)⟩)⟩)⟩)⟩)⟩)⟩)⟩)⟩)⟩)⟩)⟩)⟩)⟩)⟩)⟩)⟩)⟩)⟩)⟩)⟩)⟩)⟩)⟩)⟩)⟩)⟩)⟩)⟩)⟩)⟩)⟩)⟩)⟩)⟩)⟩)⟩)⟩)⟩)⟩)⟩)⟩)⟩)⟩)⟩)⟩)⟩)⟩)⟩)⟩)⟩)⟩)⟩)⟩)⟩)⟩)⟩)⟩)⟩)⟩)⟩)⟩)⟩)⟩)⟩)⟩)⟩)⟩)⟩)⟩)⟩)⟩)⟩)⟩)⟩)⟩)⟩)⟩)⟩)⟩)⟩)⟩)⟩)⟩)⟩)⟩)

theorem tab_mixed : tab.P.follows .mixedOrders = true := by kernel_rfl

theorem tab_fns : ∀ fid g f, tab.gid fid = some g → prog.fn g = some f → ∃ fn C, tab.P.funcs[fid]? = some fn ∧ fn.name ≠ "runtime.NumGoroutine" ∧ fn.body = some C ∧ comp tab fn.ntmps C = some f.body ∧ cRVs tab fn.results.toList = some f.results :=
  fns_of_rows (l := gidList) rfl (fns := fnList) (S := prog) rfl rows rows_ok (by kernel_rfl) rows_same

end Go.Abs
/- Numbers and intervals as arguments, read as abstract values. -/
namespace Go.Abs.W
open Go.ChangeShapes Go.RowKit

structure Dy.T (d : Dy) : Prop where
  li : Li d.m
  len : d.m.length ≤ 9223372036854775807
structure Iv.T (x : Iv) : Prop where
  lo : x.lo.T
  hi : x.hi.T
structure BxT (l : List Iv) : Prop where
  len : l.length ≤ 9223372036854775807
  all : ∀ x ∈ l, x.T
section
variable {H : Type} {enc : TypeId × Value → H} {P : Program} {w : World} {gid : Gid}

theorem list_of {α : Type} {f : α → V} {Q : V → Prop} {T : α → Prop} (h : ∀ v, Q v → ∃ a, v = f a ∧ T a) : ∀ {l : List V}, (∀ x ∈ l, Q x) → ∃ m : List α, l = m.map f ∧ ∀ a ∈ m, T a
  | [], _ => ⟨[], rfl, by simp⟩
  | x :: l, hl => by
    obtain ⟨m, h1, h2⟩ := list_of h (l := l) (fun y hy => hl y (by simp [hy]))
    obtain ⟨a, h3, h4⟩ := h x (hl x (by simp))
    refine ⟨a :: m, by rw [h1, h3]; rfl, fun b hb => ?_⟩
    rcases List.mem_cons.1 hb with rfl | hb
    · exact h4
    · exact h2 b hb

theorem rd_u32s {t e : TypeId} (ht : P.underlying t = some (.slice e)) (he : P.underlying e = some (.int .u32)) (hz : P.cellsOf e = 1) :
    Rd enc P w gid t (fun v => ∃ l : List Nat, v = lim l ∧ Li l ∧ l.length ≤ maxLen) :=
  (rd_slice ht hz (by omega) (rd_int he) (by rintro v ⟨n, rfl, _⟩; rfl)).mono fun v => by
    rintro ⟨l, rfl, hl, hlen⟩
    obtain ⟨m, h1, h2⟩ := list_of (f := u32) (T := fun n => n < 4294967296) (by
      rintro v ⟨n, rfl, h1, h2⟩
      have h1' : 0 ≤ n := h1
      have h2' : n ≤ 4294967295 := h2
      refine ⟨n.toNat, ?_, by omega⟩
      show V.int .u32 n = V.int .u32 (n.toNat : Int)
      congr 1; omega) hl
    exact ⟨m, by rw [h1]; rfl, h2, by rw [h1] at hlen; simpa using hlen⟩

theorem Qs3 {Q0 Q1 Q2 : V → Prop} {vs : List V} (h : vs.length = 3) (hq : ∀ (i : Nat) (v : V) (Q : V → Prop), vs[i]? = some v → [Q0, Q1, Q2][i]? = some Q → Q v) : ∃ a b c, vs = [a, b, c] ∧ Q0 a ∧ Q1 b ∧ Q2 c := by
  match vs, h with
  | [a, b, c], _ => exact ⟨a, b, c, rfl, hq 0 a Q0 rfl rfl, hq 1 b Q1 rfl rfl, hq 2 c Q2 rfl rfl⟩
theorem rd_dy {t : TypeId} {f0 f1 f2 : Field} (ht : P.underlying t = some (.struct #[f0, f1, f2])) (hz : P.cellsOf t = 3)
    (h0 : P.underlying f0.type = some .bool) (h1 : Rd enc P w gid f1.type (fun v => ∃ l : List Nat, v = lim l ∧ Li l ∧ l.length ≤ maxLen)) (h2 : P.underlying f2.type = some (.int .i64))
    (hoff : [f0, f1, f2].foldl (fun (o : Option Nat) f => o.bind fun o => if f.offset = o then some (o + P.cellsOf f.type) else none) (some 0) = some 3) :
    Rd enc P w gid t (fun v => ∃ d : Dy, v = d.v ∧ d.T) :=
  (rd_struct [fun v => ∃ b, v = .bool b, fun v => ∃ l : List Nat, v = lim l ∧ Li l ∧ l.length ≤ maxLen, fun v => ∃ n, v = .int .i64 n ∧ IntKind.i64.min ≤ n ∧ n ≤ IntKind.i64.max] ht hz rfl (by
    intro i f Q hf hQ
    match i with
    | 0 => cases hf; cases hQ; exact rd_bool h0
    | 1 => cases hf; cases hQ; exact h1
    | 2 => cases hf; cases hQ; exact rd_int h2
    | i + 3 => simp at hf) hoff).mono fun v => by
    rintro ⟨vs, rfl, hl, hq⟩
    obtain ⟨a, b, c, rfl, ⟨x, rfl⟩, ⟨l, rfl, g1, g2⟩, ⟨n, rfl, _⟩⟩ := Qs3 hl hq
    exact ⟨⟨x, l, n⟩, rfl, ⟨g1, g2⟩⟩

theorem rd_iv {t : TypeId} {f0 f1 f2 : Field} (ht : P.underlying t = some (.struct #[f0, f1, f2])) (hz : P.cellsOf t = 7)
    (h0 : Rd enc P w gid f0.type (fun v => ∃ d : Dy, v = d.v ∧ d.T)) (h1 : Rd enc P w gid f1.type (fun v => ∃ d : Dy, v = d.v ∧ d.T)) (h2 : P.underlying f2.type = some .bool)
    (hoff : [f0, f1, f2].foldl (fun (o : Option Nat) f => o.bind fun o => if f.offset = o then some (o + P.cellsOf f.type) else none) (some 0) = some 7) :
    Rd enc P w gid t (fun v => ∃ x : Iv, v = x.v ∧ x.T) :=
  (rd_struct [fun v => ∃ d : Dy, v = d.v ∧ d.T, fun v => ∃ d : Dy, v = d.v ∧ d.T, fun v => ∃ b, v = .bool b] ht hz rfl (by
    intro i f Q hf hQ
    match i with
    | 0 => cases hf; cases hQ; exact h0
    | 1 => cases hf; cases hQ; exact h1
    | 2 => cases hf; cases hQ; exact rd_bool h2
    | i + 3 => simp at hf) hoff).mono fun v => by
    rintro ⟨vs, rfl, hl, hq⟩
    obtain ⟨a, b, c, rfl, ⟨x, rfl, tx⟩, ⟨y, rfl, ty⟩, ⟨z, rfl⟩⟩ := Qs3 hl hq
    exact ⟨⟨x, y, z⟩, rfl, ⟨tx, ty⟩⟩

theorem rd_ivs {t e : TypeId} (ht : P.underlying t = some (.slice e)) (hz : P.cellsOf e = 7) (he : Rd enc P w gid e (fun v => ∃ x : Iv, v = x.v ∧ x.T)) :
    Rd enc P w gid t (fun v => ∃ l : List Iv, v = ivs l ∧ BxT l) :=
  (rd_slice ht hz (by omega) he (by rintro v ⟨n, rfl, _⟩; rfl)).mono fun v => by
    rintro ⟨l, rfl, hl, hlen⟩
    obtain ⟨m, h1, h2⟩ := list_of (f := Iv.v) (T := Iv.T) (fun v h => h) hl
    exact ⟨m, by rw [h1]; rfl, ⟨by rw [h1] at hlen; simpa [maxLen] using hlen, h2⟩⟩

end

end Go.Abs.W

/- The series' seat: its program is the abstract one, its table reads as an abstract one, its arguments read as abstract values. -/
namespace Go.Proofs.YteajloobgibenaaGreatDoor
open Go.ChangeShapes Go.WideShapes Go.ChangeAt Go.RowKit

theorem own : ownKnob Tryz.prog.godebug = none := by kernel_rfl
theorem laidOut : laidOutB Tryz.prog = true := by kernel_rfl
theorem seat : Go.Abs.Seat Go.Abs.tab Go.Abs.prog := ⟨Go.Abs.tab_mixed, Go.Abs.tab_fns, fun _ _ _ _ _ _ h => by cases h⟩

section
variable {H : Type} {enc : TypeId × Value → H} {w : World}
theorem r_u32s : Go.Abs.Rd enc Tryz.prog w Go.Abs.tab.gid 23 (fun v => ∃ l : List Nat, v = Go.Abs.lim l ∧ Go.Abs.Li l ∧ l.length ≤ maxLen) := Go.Abs.W.rd_u32s Tryz.underlying23 Tryz.underlying93 (by kernel_rfl)
theorem r_dy : Go.Abs.Rd enc Tryz.prog w Go.Abs.tab.gid 25 (fun v => ∃ d : Go.Abs.W.Dy, v = d.v ∧ d.T) := Go.Abs.W.rd_dy Tryz.underlying25 (by kernel_rfl) Tryz.underlying4 r_u32s Tryz.underlying3 (by kernel_rfl)
theorem r_iv : Go.Abs.Rd enc Tryz.prog w Go.Abs.tab.gid 27 (fun v => ∃ x : Go.Abs.W.Iv, v = x.v ∧ x.T) := Go.Abs.W.rd_iv Tryz.underlying27 (by kernel_rfl) r_dy r_dy Tryz.underlying4 (by kernel_rfl)
theorem r_ivs : Go.Abs.Rd enc Tryz.prog w Go.Abs.tab.gid 22 (fun v => ∃ l : List Go.Abs.W.Iv, v = Go.Abs.W.ivs l ∧ Go.Abs.W.BxT l) := Go.Abs.W.rd_ivs Tryz.underlying22 (by kernel_rfl) r_iv
theorem r_int : Go.Abs.Rd enc Tryz.prog w Go.Abs.tab.gid 3 (fun v => ∃ n, v = .int .i64 n ∧ IntKind.i64.min ≤ n ∧ n ≤ IntKind.i64.max) := Go.Abs.rd_int Tryz.underlying3
end

theorem gTab : Tryz.prog.globalNamed "math/bits.deBruijn32tab" = some 0 := by kernel_rfl
theorem gTabType : (Tryz.prog.globals[0]?).map (·.type) = some 146 := by kernel_rfl
theorem cells146 : Tryz.prog.cellsOf 146 = 32 := by kernel_rfl
theorem cells5 : Tryz.prog.cellsOf 5 = 1 := by kernel_rfl
def nums : List Int := [0, 1, 28, 2, 29, 14, 24, 3, 30, 22, 20, 15, 25, 17, 4, 8, 31, 27, 13, 23, 21, 19, 16, 7, 26, 12, 18, 6, 11, 5, 10, 9]
theorem table {W : World} (h : laidMetH Tryz.prog [("math/bits.deBruijn32tab", Rows.laid_math_bits_deBruijn32tab)] W) : Lib.TabIs Tryz.prog W "math/bits.deBruijn32tab" .u8 nums :=
  Lib.tabIs_of_head (rest := []) gTab gTabType Tryz.underlying146 Tryz.underlying5 cells5 cells146 h

theorem tabs {W : World} (h : laidMetH Tryz.prog [("math/bits.deBruijn32tab", Rows.laid_math_bits_deBruijn32tab)] W) : Go.Abs.Tabs Go.Abs.tab.gid W fun _ => False := by
  intro g cs hg
  have hg' : Go.Abs.tabsOf Go.Abs.tabList g = some cs := hg
  unfold Go.Abs.tabList Go.Abs.tabsOf at hg'
  split at hg'
  · rename_i h0
    subst h0
    have hc : cs = nums.map (fun n => Go.Abs.V.int .u8 n) := by injection hg' with hg'; rw [← hg']; rfl
    subst hc
    have cell : ∀ i (hi : i < nums.length), W.cell? ⟨0, i, none⟩ = some (.int .u8 (nums.getD i 0)) := fun i hi => (table h).cell gTab i hi
    have hb : 0 < W.heap.size := World.block_lt_of_cell? W ⟨0, 0, none⟩ (cell 0 (by decide))
    have get : ∀ (j : Nat) (c : Go.Abs.V), (nums.map (fun n => Go.Abs.V.int .u8 n))[j]? = some c → j < nums.length ∧ c = .int .u8 (nums.getD j 0) := by
      intro j c hj
      rw [List.getElem?_map] at hj
      obtain ⟨a, ha, rfl⟩ := Option.map_eq_some_iff.1 hj
      refine ⟨(List.getElem?_eq_some_iff.1 ha).1, ?_⟩
      rw [List.getD_eq_getElem?_getD, ha]
      rfl
    refine .eptr _ _ (fun j => .int .u8 (nums.getD j 0)) rfl (fun h => h) hb ?_ ?_
    · intro j c hj
      have hl := (get j c hj).1
      have := cell j hl
      simpa using this
    · intro j c hj
      rw [(get j c hj).2]
      exact .int _ _
  · unfold Go.Abs.tabsOf at hg'
    cases hg'

/-- A world for the witness: the settled one, the table holding what its initialiser lays. -/
noncomputable def laidWorld (os : Os) : World :=
  { World.holding Tryz.prog os ⟨#[], #[], []⟩ with heap := (World.holding Tryz.prog os ⟨#[], #[], []⟩).heap.modify 0 fun
      | .cells _ t frozen => .cells (nums.map fun n => .int .u8 n).toArray t frozen
      | o => o }

end Go.Proofs.YteajloobgibenaaGreatDoor

