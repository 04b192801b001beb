/- Parts of the proof: FpSeatV, FpRead0, FpEndV0. -/
import Derived.Test.YtmhloagengcelaaGreatDoorProg
import Derived.KernelRfl
import Derived.Test.YtmhloagengcelaaGreatDoorCards
import Derived.Test.YtmhloagengcelaaGreatDoorTie
import Derived.WalkKit
import Derived.ProofKit
import Derived.OpenShut
import Derived.Deep.DeepHandedRow
import Derived.Lib.LaidTab
import Derived.Test.YtmhloagengcelaaGreatDoorFd
import Derived.Test.YtmhloagengcelaaGreatDoorFb
import Derived.Test.YtmhloagengcelaaGreatDoorFb
import Derived.Test.YtmhloagengcelaaGreatDoorFe
/- MADE BY A PROGRAM (wip/tools/mkseat.py): the functions of this seat's program are the abstract ones. -/
namespace Go.Abs
open Go.Proofs
set_option maxRecDepth 100000

def gidList : List Nat := [0, 0, 0, 121, 122, 123, 124, 125, 126, 127, 128, 129, 130, 131, 132, 133, 134, 135, 136, 137, 138, 139, 140, 141, 142, 54, 18, 143, 144, 145, 146, 147, 148, 149, 150, 151, 70, 152, 12, 109, 153, 77, 107, 154, 155, 156, 157, 158, 159, 160, 161, 23, 162, 163, 164, 165, 166, 167, 168, 90, 71, 94, 95, 169, 83, 65, 170, 171, 172, 173, 174, 175, 176, 177, 178, 179, 180, 181, 182, 183, 51, 52, 184, 56, 57, 185, 106, 186, 187, 188, 189, 190, 191, 192, 193, 194, 55, 60, 195, 108, 196, 197, 198, 199, 200, 201, 91, 49, 96, 202, 203, 93, 92, 204, 63, 104, 205, 105, 79, 206, 207, 208, 209, 210, 211, 74, 212, 213, 214, 85, 78, 80, 84, 86, 87, 215, 216, 217, 218, 219, 220, 221, 222, 223, 224, 225, 226, 227, 228, 229, 230, 231, 232, 233, 234, 101, 102, 103, 97, 98, 99, 100, 235, 236, 237, 238, 239, 240, 241, 110, 242, 243, 244, 245, 246, 119, 247, 248, 249, 250, 251, 252, 253, 254, 111, 112, 255, 256, 257, 258, 114, 115, 259, 260, 113, 261, 262, 263, 116, 264, 265, 266, 117, 118, 267, 268, 269, 270, 271, 272, 120, 273, 274, 0, 0, 0, 0, 0, 0, 0, 0, 0, 0, 0, 0, 0, 0, 0, 0, 0, 0, 0, 0, 0]

def tabList : List (Nat × List V) := [(0, [.int .u8 0, .int .u8 1, .int .u8 28, .int .u8 2, .int .u8 29, .int .u8 14, .int .u8 24, .int .u8 3, .int .u8 30, .int .u8 22, .int .u8 20, .int .u8 15, .int .u8 25, .int .u8 17, .int .u8 4, .int .u8 8, .int .u8 31, .int .u8 27, .int .u8 13, .int .u8 23, .int .u8 21, .int .u8 19, .int .u8 16, .int .u8 7, .int .u8 26, .int .u8 12, .int .u8 18, .int .u8 6, .int .u8 11, .int .u8 5, .int .u8 10, .int .u8 9])]

noncomputable def tab : Tab := ⟨Tryz.prog, ⟨gidOf gidList, tabsOf tabList⟩⟩

theorem k_fplaw05_IntervalContains : RowOk tab ⟨3, 121, c_fplaw05_IntervalContains⟩ := ⟨Tryz.f3, Tryz.func3, by kernel_rfl⟩
theorem k_fplaw05_awake : RowOk tab ⟨14, 132, c_fplaw05_awake⟩ := ⟨Tryz.f14, Tryz.func14, by kernel_rfl⟩
theorem k_interval_Has : RowOk tab ⟨15, 133, c_interval_Has⟩ := ⟨Tryz.f15, Tryz.func15, by kernel_rfl⟩
theorem k_fplaw05_IntervalContains_1 : RowOk tab ⟨16, 134, c_fplaw05_IntervalContains_1⟩ := ⟨Tryz.f16, Tryz.func16, by kernel_rfl⟩
theorem k_fpref02_Add : RowOk tab ⟨17, 135, c_fpref02_Add⟩ := ⟨Tryz.f17, Tryz.func17, by kernel_rfl⟩
theorem k_fpref02_Sub : RowOk tab ⟨18, 136, c_fpref02_Sub⟩ := ⟨Tryz.f18, Tryz.func18, by kernel_rfl⟩
theorem k_fpref02_Mul : RowOk tab ⟨19, 137, c_fpref02_Mul⟩ := ⟨Tryz.f19, Tryz.func19, by kernel_rfl⟩
theorem k_interval_Add : RowOk tab ⟨20, 138, c_interval_Add⟩ := ⟨Tryz.f20, Tryz.func20, by kernel_rfl⟩
theorem k_interval_Sub : RowOk tab ⟨21, 139, c_interval_Sub⟩ := ⟨Tryz.f21, Tryz.func21, by kernel_rfl⟩
theorem k_interval_Mul : RowOk tab ⟨22, 140, c_interval_Mul⟩ := ⟨Tryz.f22, Tryz.func22, by kernel_rfl⟩
theorem k_interval_Square : RowOk tab ⟨23, 141, c_interval_Square⟩ := ⟨Tryz.f23, Tryz.func23, by kernel_rfl⟩
theorem k_interval_Div : RowOk tab ⟨24, 142, c_interval_Div⟩ := ⟨Tryz.f24, Tryz.func24, by kernel_rfl⟩
theorem k_fpref02_Sign : RowOk tab ⟨25, 54, c_fpref02_Sign⟩ := ⟨Tryz.f25, Tryz.func25, by kernel_rfl⟩
theorem k_fpref02_Cmp : RowOk tab ⟨26, 18, c_fpref02_Cmp⟩ := ⟨Tryz.f26, Tryz.func26, by kernel_rfl⟩
theorem k_fplaw05_same : RowOk tab ⟨28, 144, c_fplaw05_same⟩ := ⟨Tryz.f28, Tryz.func28, by kernel_rfl⟩
theorem k_interval_Neg : RowOk tab ⟨31, 147, c_interval_Neg⟩ := ⟨Tryz.f31, Tryz.func31, by kernel_rfl⟩
theorem k_fpref02_Valid : RowOk tab ⟨38, 12, c_fpref02_Valid⟩ := ⟨Tryz.f38, Tryz.func38, by kernel_rfl⟩
theorem k_interval_Valid : RowOk tab ⟨41, 77, c_interval_Valid⟩ := ⟨Tryz.f41, Tryz.func41, by kernel_rfl⟩
theorem k_interval_Whole : RowOk tab ⟨42, 107, c_interval_Whole⟩ := ⟨Tryz.f42, Tryz.func42, by kernel_rfl⟩
theorem k_interval_Abs : RowOk tab ⟨45, 156, c_interval_Abs⟩ := ⟨Tryz.f45, Tryz.func45, by kernel_rfl⟩
theorem k_fpref02_Equal : RowOk tab ⟨51, 23, c_fpref02_Equal⟩ := ⟨Tryz.f51, Tryz.func51, by kernel_rfl⟩
theorem k_interval_Mag : RowOk tab ⟨54, 164, c_interval_Mag⟩ := ⟨Tryz.f54, Tryz.func54, by kernel_rfl⟩
theorem k_interval_Mig : RowOk tab ⟨55, 165, c_interval_Mig⟩ := ⟨Tryz.f55, Tryz.func55, by kernel_rfl⟩
theorem k_interval_Sign : RowOk tab ⟨69, 173, c_interval_Sign⟩ := ⟨Tryz.f69, Tryz.func69, by kernel_rfl⟩
theorem k_fplaw05_of : RowOk tab ⟨76, 180, c_fplaw05_of⟩ := ⟨Tryz.f76, Tryz.func76, by kernel_rfl⟩
theorem k_fpref02_Scale : RowOk tab ⟨78, 182, c_fpref02_Scale⟩ := ⟨Tryz.f78, Tryz.func78, by kernel_rfl⟩
theorem k_fplaw05_n : RowOk tab ⟨79, 183, c_fplaw05_n⟩ := ⟨Tryz.f79, Tryz.func79, by kernel_rfl⟩
theorem k_dyadic_Valid : RowOk tab ⟨80, 51, c_dyadic_Valid⟩ := ⟨Tryz.f80, Tryz.func80, by kernel_rfl⟩
theorem k_dyadic_Cmp : RowOk tab ⟨81, 52, c_dyadic_Cmp⟩ := ⟨Tryz.f81, Tryz.func81, by kernel_rfl⟩
theorem k_fpref02_Checked : RowOk tab ⟨82, 184, c_fpref02_Checked⟩ := ⟨Tryz.f82, Tryz.func82, by kernel_rfl⟩
theorem k_fpref02_Sum : RowOk tab ⟨83, 56, c_fpref02_Sum⟩ := ⟨Tryz.f83, Tryz.func83, by kernel_rfl⟩
theorem k_fpref02_Neg : RowOk tab ⟨84, 57, c_fpref02_Neg⟩ := ⟨Tryz.f84, Tryz.func84, by kernel_rfl⟩
theorem k_fpref02_Product : RowOk tab ⟨85, 185, c_fpref02_Product⟩ := ⟨Tryz.f85, Tryz.func85, by kernel_rfl⟩
theorem k_interval_known : RowOk tab ⟨86, 106, c_interval_known⟩ := ⟨Tryz.f86, Tryz.func86, by kernel_rfl⟩
theorem k_interval_permitted : RowOk tab ⟨87, 186, c_interval_permitted⟩ := ⟨Tryz.f87, Tryz.func87, by kernel_rfl⟩
theorem k_round_AddDown : RowOk tab ⟨88, 187, c_round_AddDown⟩ := ⟨Tryz.f88, Tryz.func88, by kernel_rfl⟩
theorem k_round_AddUp : RowOk tab ⟨89, 188, c_round_AddUp⟩ := ⟨Tryz.f89, Tryz.func89, by kernel_rfl⟩
theorem k_interval_made : RowOk tab ⟨90, 189, c_interval_made⟩ := ⟨Tryz.f90, Tryz.func90, by kernel_rfl⟩
theorem k_interval_four : RowOk tab ⟨91, 190, c_interval_four⟩ := ⟨Tryz.f91, Tryz.func91, by kernel_rfl⟩
theorem k_round_MulDown : RowOk tab ⟨92, 191, c_round_MulDown⟩ := ⟨Tryz.f92, Tryz.func92, by kernel_rfl⟩
theorem k_round_MulUp : RowOk tab ⟨93, 192, c_round_MulUp⟩ := ⟨Tryz.f93, Tryz.func93, by kernel_rfl⟩
theorem k_round_DivDown : RowOk tab ⟨94, 193, c_round_DivDown⟩ := ⟨Tryz.f94, Tryz.func94, by kernel_rfl⟩
theorem k_round_DivUp : RowOk tab ⟨95, 194, c_round_DivUp⟩ := ⟨Tryz.f95, Tryz.func95, by kernel_rfl⟩
theorem k_fpref02_Top : RowOk tab ⟨96, 55, c_fpref02_Top⟩ := ⟨Tryz.f96, Tryz.func96, by kernel_rfl⟩
theorem k_fpref05_Equal : RowOk tab ⟨97, 60, c_fpref05_Equal⟩ := ⟨Tryz.f97, Tryz.func97, by kernel_rfl⟩
theorem k_dyadic_Neg : RowOk tab ⟨102, 198, c_dyadic_Neg⟩ := ⟨Tryz.f102, Tryz.func102, by kernel_rfl⟩
theorem k_fpref02_bits : RowOk tab ⟨107, 49, c_fpref02_bits⟩ := ⟨Tryz.f107, Tryz.func107, by kernel_rfl⟩
theorem k_interval_Valid_1 : RowOk tab ⟨108, 96, c_interval_Valid_1⟩ := ⟨Tryz.f108, Tryz.func108, by kernel_rfl⟩
theorem k_fpref02_compare : RowOk tab ⟨114, 63, c_fpref02_compare⟩ := ⟨Tryz.f114, Tryz.func114, by kernel_rfl⟩
theorem k_interval_more : RowOk tab ⟨115, 104, c_interval_more⟩ := ⟨Tryz.f115, Tryz.func115, by kernel_rfl⟩
theorem k_dyadic_Abs : RowOk tab ⟨116, 205, c_dyadic_Abs⟩ := ⟨Tryz.f116, Tryz.func116, by kernel_rfl⟩
theorem k_interval_less : RowOk tab ⟨117, 105, c_interval_less⟩ := ⟨Tryz.f117, Tryz.func117, by kernel_rfl⟩
theorem k_dyadic_Sign : RowOk tab ⟨118, 79, c_dyadic_Sign⟩ := ⟨Tryz.f118, Tryz.func118, by kernel_rfl⟩
theorem k_fpref02_Int : RowOk tab ⟨125, 74, c_fpref02_Int⟩ := ⟨Tryz.f125, Tryz.func125, by kernel_rfl⟩
theorem k_fpref02_exponent : RowOk tab ⟨128, 214, c_fpref02_exponent⟩ := ⟨Tryz.f128, Tryz.func128, by kernel_rfl⟩
theorem k_fpref02_Of : RowOk tab ⟨129, 85, c_fpref02_Of⟩ := ⟨Tryz.f129, Tryz.func129, by kernel_rfl⟩
theorem k_dyadic_inRange : RowOk tab ⟨130, 78, c_dyadic_inRange⟩ := ⟨Tryz.f130, Tryz.func130, by kernel_rfl⟩
theorem k_dyadic_compare : RowOk tab ⟨131, 80, c_dyadic_compare⟩ := ⟨Tryz.f131, Tryz.func131, by kernel_rfl⟩
theorem k_fpref02_left : RowOk tab ⟨132, 84, c_fpref02_left⟩ := ⟨Tryz.f132, Tryz.func132, by kernel_rfl⟩
theorem k_fpref02_plus : RowOk tab ⟨133, 86, c_fpref02_plus⟩ := ⟨Tryz.f133, Tryz.func133, by kernel_rfl⟩
theorem k_fpref02_minus : RowOk tab ⟨134, 87, c_fpref02_minus⟩ := ⟨Tryz.f134, Tryz.func134, by kernel_rfl⟩
theorem k_fpref02_times : RowOk tab ⟨135, 215, c_fpref02_times⟩ := ⟨Tryz.f135, Tryz.func135, by kernel_rfl⟩
theorem k_round_add : RowOk tab ⟨136, 216, c_round_add⟩ := ⟨Tryz.f136, Tryz.func136, by kernel_rfl⟩
theorem k_round_mul : RowOk tab ⟨137, 217, c_round_mul⟩ := ⟨Tryz.f137, Tryz.func137, by kernel_rfl⟩
theorem k_round_div : RowOk tab ⟨138, 218, c_round_div⟩ := ⟨Tryz.f138, Tryz.func138, by kernel_rfl⟩
theorem k_slices_Clone_uint32 : RowOk tab ⟨141, 221, c_slices_Clone_uint32⟩ := ⟨Tryz.f141, Tryz.func141, by kernel_rfl⟩
theorem k_round_round : RowOk tab ⟨142, 222, c_round_round⟩ := ⟨Tryz.f142, Tryz.func142, by kernel_rfl⟩
theorem k_dyadic_exponent : RowOk tab ⟨143, 223, c_dyadic_exponent⟩ := ⟨Tryz.f143, Tryz.func143, by kernel_rfl⟩
theorem k_dyadic_checked : RowOk tab ⟨144, 224, c_dyadic_checked⟩ := ⟨Tryz.f144, Tryz.func144, by kernel_rfl⟩
theorem k_dyadic_canonical : RowOk tab ⟨145, 225, c_dyadic_canonical⟩ := ⟨Tryz.f145, Tryz.func145, by kernel_rfl⟩
theorem k_fpref02_trim : RowOk tab ⟨155, 101, c_fpref02_trim⟩ := ⟨Tryz.f155, Tryz.func155, by kernel_rfl⟩
theorem k_fpref02_zeros : RowOk tab ⟨156, 102, c_fpref02_zeros⟩ := ⟨Tryz.f156, Tryz.func156, by kernel_rfl⟩
theorem k_fpref02_right : RowOk tab ⟨157, 103, c_fpref02_right⟩ := ⟨Tryz.f157, Tryz.func157, by kernel_rfl⟩
theorem k_dyadic_size : RowOk tab ⟨158, 97, c_dyadic_size⟩ := ⟨Tryz.f158, Tryz.func158, by kernel_rfl⟩
theorem k_dyadic_Top : RowOk tab ⟨159, 98, c_dyadic_Top⟩ := ⟨Tryz.f159, Tryz.func159, by kernel_rfl⟩
theorem k_natural_Cmp : RowOk tab ⟨160, 99, c_natural_Cmp⟩ := ⟨Tryz.f160, Tryz.func160, by kernel_rfl⟩
theorem k_dyadic_shifted : RowOk tab ⟨161, 100, c_dyadic_shifted⟩ := ⟨Tryz.f161, Tryz.func161, by kernel_rfl⟩
theorem k_round_fault : RowOk tab ⟨162, 235, c_round_fault⟩ := ⟨Tryz.f162, Tryz.func162, by kernel_rfl⟩
theorem k_round_sum : RowOk tab ⟨163, 236, c_round_sum⟩ := ⟨Tryz.f163, Tryz.func163, by kernel_rfl⟩
theorem k_round_signed : RowOk tab ⟨164, 237, c_round_signed⟩ := ⟨Tryz.f164, Tryz.func164, by kernel_rfl⟩
theorem k_natural_Mul : RowOk tab ⟨165, 238, c_natural_Mul⟩ := ⟨Tryz.f165, Tryz.func165, by kernel_rfl⟩
theorem k_dyadic_Bits : RowOk tab ⟨166, 239, c_dyadic_Bits⟩ := ⟨Tryz.f166, Tryz.func166, by kernel_rfl⟩
theorem k_natural_DivMod : RowOk tab ⟨167, 240, c_natural_DivMod⟩ := ⟨Tryz.f167, Tryz.func167, by kernel_rfl⟩
theorem k_round_shl : RowOk tab ⟨168, 241, c_round_shl⟩ := ⟨Tryz.f168, Tryz.func168, by kernel_rfl⟩
theorem k_natural_Bits : RowOk tab ⟨169, 110, c_natural_Bits⟩ := ⟨Tryz.f169, Tryz.func169, by kernel_rfl⟩
theorem k_round_of : RowOk tab ⟨171, 243, c_round_of⟩ := ⟨Tryz.f171, Tryz.func171, by kernel_rfl⟩
theorem k_dyadic_trimmed : RowOk tab ⟨172, 244, c_dyadic_trimmed⟩ := ⟨Tryz.f172, Tryz.func172, by kernel_rfl⟩
theorem k_dyadic_low : RowOk tab ⟨173, 245, c_dyadic_low⟩ := ⟨Tryz.f173, Tryz.func173, by kernel_rfl⟩
theorem k_natural_Shr : RowOk tab ⟨174, 246, c_natural_Shr⟩ := ⟨Tryz.f174, Tryz.func174, by kernel_rfl⟩
theorem k_slices_Clip_uint32 : RowOk tab ⟨175, 119, c_slices_Clip_uint32⟩ := ⟨Tryz.f175, Tryz.func175, by kernel_rfl⟩
theorem k_round_cut : RowOk tab ⟨183, 254, c_round_cut⟩ := ⟨Tryz.f183, Tryz.func183, by kernel_rfl⟩
theorem k_natural_trim : RowOk tab ⟨184, 111, c_natural_trim⟩ := ⟨Tryz.f184, Tryz.func184, by kernel_rfl⟩
theorem k_natural_Shl : RowOk tab ⟨185, 112, c_natural_Shl⟩ := ⟨Tryz.f185, Tryz.func185, by kernel_rfl⟩
theorem k_round_precise : RowOk tab ⟨186, 255, c_round_precise⟩ := ⟨Tryz.f186, Tryz.func186, by kernel_rfl⟩
theorem k_round_shr : RowOk tab ⟨187, 256, c_round_shr⟩ := ⟨Tryz.f187, Tryz.func187, by kernel_rfl⟩
theorem k_natural_Add : RowOk tab ⟨188, 257, c_natural_Add⟩ := ⟨Tryz.f188, Tryz.func188, by kernel_rfl⟩
theorem k_natural_Sub : RowOk tab ⟨189, 258, c_natural_Sub⟩ := ⟨Tryz.f189, Tryz.func189, by kernel_rfl⟩
theorem k_natural_long : RowOk tab ⟨190, 114, c_natural_long⟩ := ⟨Tryz.f190, Tryz.func190, by kernel_rfl⟩
theorem k_natural_done : RowOk tab ⟨191, 115, c_natural_done⟩ := ⟨Tryz.f191, Tryz.func191, by kernel_rfl⟩
theorem k_natural_mul : RowOk tab ⟨192, 259, c_natural_mul⟩ := ⟨Tryz.f192, Tryz.func192, by kernel_rfl⟩
theorem k_natural_divide : RowOk tab ⟨193, 260, c_natural_divide⟩ := ⟨Tryz.f193, Tryz.func193, by kernel_rfl⟩
theorem k_math_bits_Len32 : RowOk tab ⟨194, 113, c_math_bits_Len32⟩ := ⟨Tryz.f194, Tryz.func194, by kernel_rfl⟩
theorem k_math_bits_TrailingZeros32 : RowOk tab ⟨195, 261, c_math_bits_TrailingZeros32⟩ := ⟨Tryz.f195, Tryz.func195, by kernel_rfl⟩
theorem k_natural_shr : RowOk tab ⟨196, 262, c_natural_shr⟩ := ⟨Tryz.f196, Tryz.func196, by kernel_rfl⟩
theorem k_natural_shl : RowOk tab ⟨198, 116, c_natural_shl⟩ := ⟨Tryz.f198, Tryz.func198, by kernel_rfl⟩
theorem k_natural_add : RowOk tab ⟨199, 264, c_natural_add⟩ := ⟨Tryz.f199, Tryz.func199, by kernel_rfl⟩
theorem k_dyadic_Make : RowOk tab ⟨200, 265, c_dyadic_Make⟩ := ⟨Tryz.f200, Tryz.func200, by kernel_rfl⟩
theorem k_natural_sub : RowOk tab ⟨201, 266, c_natural_sub⟩ := ⟨Tryz.f201, Tryz.func201, by kernel_rfl⟩
theorem k_slices_ContainsFunc_uint32s : RowOk tab ⟨202, 117, c_slices_ContainsFunc_uint32s⟩ := ⟨Tryz.f202, Tryz.func202, by kernel_rfl⟩
theorem k_natural_long_1 : RowOk tab ⟨203, 118, c_natural_long_1⟩ := ⟨Tryz.f203, Tryz.func203, by kernel_rfl⟩
theorem k_natural_short : RowOk tab ⟨204, 267, c_natural_short⟩ := ⟨Tryz.f204, Tryz.func204, by kernel_rfl⟩
theorem k_math_bits_LeadingZeros32 : RowOk tab ⟨205, 268, c_math_bits_LeadingZeros32⟩ := ⟨Tryz.f205, Tryz.func205, by kernel_rfl⟩
theorem k_natural_guess : RowOk tab ⟨206, 269, c_natural_guess⟩ := ⟨Tryz.f206, Tryz.func206, by kernel_rfl⟩
theorem k_natural_take : RowOk tab ⟨207, 270, c_natural_take⟩ := ⟨Tryz.f207, Tryz.func207, by kernel_rfl⟩
theorem k_math_bits_Add32 : RowOk tab ⟨208, 271, c_math_bits_Add32⟩ := ⟨Tryz.f208, Tryz.func208, by kernel_rfl⟩
theorem k_math_bits_Sub32 : RowOk tab ⟨209, 272, c_math_bits_Sub32⟩ := ⟨Tryz.f209, Tryz.func209, by kernel_rfl⟩
theorem k_slices_IndexFunc_uint32s : RowOk tab ⟨210, 120, c_slices_IndexFunc_uint32s⟩ := ⟨Tryz.f210, Tryz.func210, by kernel_rfl⟩
theorem k_math_bits_Div32 : RowOk tab ⟨211, 273, c_math_bits_Div32⟩ := ⟨Tryz.f211, Tryz.func211, by kernel_rfl⟩
theorem k_natural_digit : RowOk tab ⟨212, 274, c_natural_digit⟩ := ⟨Tryz.f212, Tryz.func212, by kernel_rfl⟩

def rows : List Row :=
 [⟨3, 121, c_fplaw05_IntervalContains⟩,
  ⟨14, 132, c_fplaw05_awake⟩,
  ⟨15, 133, c_interval_Has⟩,
  ⟨16, 134, c_fplaw05_IntervalContains_1⟩,
  ⟨17, 135, c_fpref02_Add⟩,
  ⟨18, 136, c_fpref02_Sub⟩,
  ⟨19, 137, c_fpref02_Mul⟩,
  ⟨20, 138, c_interval_Add⟩,
  ⟨21, 139, c_interval_Sub⟩,
  ⟨22, 140, c_interval_Mul⟩,
  ⟨23, 141, c_interval_Square⟩,
  ⟨24, 142, c_interval_Div⟩,
  ⟨25, 54, c_fpref02_Sign⟩,
  ⟨26, 18, c_fpref02_Cmp⟩,
  ⟨28, 144, c_fplaw05_same⟩,
  ⟨31, 147, c_interval_Neg⟩,
  ⟨38, 12, c_fpref02_Valid⟩,
  ⟨41, 77, c_interval_Valid⟩,
  ⟨42, 107, c_interval_Whole⟩,
  ⟨45, 156, c_interval_Abs⟩,
  ⟨51, 23, c_fpref02_Equal⟩,
  ⟨54, 164, c_interval_Mag⟩,
  ⟨55, 165, c_interval_Mig⟩,
  ⟨69, 173, c_interval_Sign⟩,
  ⟨76, 180, c_fplaw05_of⟩,
  ⟨78, 182, c_fpref02_Scale⟩,
  ⟨79, 183, c_fplaw05_n⟩,
  ⟨80, 51, c_dyadic_Valid⟩,
  ⟨81, 52, c_dyadic_Cmp⟩,
  ⟨82, 184, c_fpref02_Checked⟩,
  ⟨83, 56, c_fpref02_Sum⟩,
  ⟨84, 57, c_fpref02_Neg⟩,
  ⟨85, 185, c_fpref02_Product⟩,
  ⟨86, 106, c_interval_known⟩,
  ⟨87, 186, c_interval_permitted⟩,
  ⟨88, 187, c_round_AddDown⟩,
  ⟨89, 188, c_round_AddUp⟩,
  ⟨90, 189, c_interval_made⟩,
  ⟨91, 190, c_interval_four⟩,
  ⟨92, 191, c_round_MulDown⟩,
  ⟨93, 192, c_round_MulUp⟩,
  ⟨94, 193, c_round_DivDown⟩,
  ⟨95, 194, c_round_DivUp⟩,
  ⟨96, 55, c_fpref02_Top⟩,
  ⟨97, 60, c_fpref05_Equal⟩,
  ⟨102, 198, c_dyadic_Neg⟩,
  ⟨107, 49, c_fpref02_bits⟩,
  ⟨108, 96, c_interval_Valid_1⟩,
  ⟨114, 63, c_fpref02_compare⟩,
  ⟨115, 104, c_interval_more⟩,
  ⟨116, 205, c_dyadic_Abs⟩,
  ⟨117, 105, c_interval_less⟩,
  ⟨118, 79, c_dyadic_Sign⟩,
  ⟨125, 74, c_fpref02_Int⟩,
  ⟨128, 214, c_fpref02_exponent⟩,
  ⟨129, 85, c_fpref02_Of⟩,
  ⟨130, 78, c_dyadic_inRange⟩,
  ⟨131, 80, c_dyadic_compare⟩,
  ⟨132, 84, c_fpref02_left⟩,
  ⟨133, 86, c_fpref02_plus⟩,
  ⟨134, 87, c_fpref02_minus⟩,
  ⟨135, 215, c_fpref02_times⟩,
  ⟨136, 216, c_round_add⟩,
  ⟨137, 217, c_round_mul⟩,
  ⟨138, 218, c_round_div⟩,
  ⟨141, 221, c_slices_Clone_uint32⟩,
  ⟨142, 222, c_round_round⟩,
  ⟨143, 223, c_dyadic_exponent⟩,
  ⟨144, 224, c_dyadic_checked⟩,
  ⟨145, 225, c_dyadic_canonical⟩,
  ⟨155, 101, c_fpref02_trim⟩,
  ⟨156, 102, c_fpref02_zeros⟩,
  ⟨157, 103, c_fpref02_right⟩,
  ⟨158, 97, c_dyadic_size⟩,
  ⟨159, 98, c_dyadic_Top⟩,
  ⟨160, 99, c_natural_Cmp⟩,
  ⟨161, 100, c_dyadic_shifted⟩,
  ⟨162, 235, c_round_fault⟩,
  ⟨163, 236, c_round_sum⟩,
  ⟨164, 237, c_round_signed⟩,
  ⟨165, 238, c_natural_Mul⟩,
  ⟨166, 239, c_dyadic_Bits⟩,
  ⟨167, 240, c_natural_DivMod⟩,
  ⟨168, 241, c_round_shl⟩,
  ⟨169, 110, c_natural_Bits⟩,
  ⟨171, 243, c_round_of⟩,
  ⟨172, 244, c_dyadic_trimmed⟩,
  ⟨173, 245, c_dyadic_low⟩,
  ⟨174, 246, c_natural_Shr⟩,
  ⟨175, 119, c_slices_Clip_uint32⟩,
  ⟨183, 254, c_round_cut⟩,
  ⟨184, 111, c_natural_trim⟩,
  ⟨185, 112, c_natural_Shl⟩,
  ⟨186, 255, c_round_precise⟩,
  ⟨187, 256, c_round_shr⟩,
  ⟨188, 257, c_natural_Add⟩,
  ⟨189, 258, c_natural_Sub⟩,
  ⟨190, 114, c_natural_long⟩,
  ⟨191, 115, c_natural_done⟩,
  ⟨192, 259, c_natural_mul⟩,
  ⟨193, 260, c_natural_divide⟩,
  ⟨194, 113, c_math_bits_Len32⟩,
  ⟨195, 261, c_math_bits_TrailingZeros32⟩,
  ⟨196, 262, c_natural_shr⟩,
  ⟨198, 116, c_natural_shl⟩,
  ⟨199, 264, c_natural_add⟩,
  ⟨200, 265, c_dyadic_Make⟩,
  ⟨201, 266, c_natural_sub⟩,
  ⟨202, 117, c_slices_ContainsFunc_uint32s⟩,
  ⟨203, 118, c_natural_long_1⟩,
  ⟨204, 267, c_natural_short⟩,
  ⟨205, 268, c_math_bits_LeadingZeros32⟩,
  ⟨206, 269, c_natural_guess⟩,
  ⟨207, 270, c_natural_take⟩,
  ⟨208, 271, c_math_bits_Add32⟩,
  ⟨209, 272, c_math_bits_Sub32⟩,
  ⟨210, 120, c_slices_IndexFunc_uint32s⟩,
  ⟨211, 273, c_math_bits_Div32⟩,
  ⟨212, 274, c_natural_digit⟩]

theorem rows_ok : ∀ r ∈ rows, RowOk tab r := (List.forall_mem_cons.2 ⟨k_fplaw05_IntervalContains, (List.forall_mem_cons.2 ⟨k_fplaw05_awake, (List.forall_mem_cons.2 ⟨k_interval_Has, (List.forall_mem_cons.2 ⟨k_fplaw05_IntervalContains_1, (List.forall_mem_cons.2 ⟨k_fpref02_Add, (List.forall_mem_cons.2 ⟨k_fpref02_Sub, (List.forall_mem_cons.2 ⟨k_fpref02_Mul, (List.forall_mem_cons.2 ⟨k_interval_Add, (List.forall_mem_cons.2 ⟨k_interval_Sub, (List.forall_mem_cons.2 ⟨k_interval_Mul, (List.forall_mem_cons.2 ⟨k_interval_Square, (List.forall_mem_cons.2 ⟨k_interval_Div, (List.forall_mem_cons.2 ⟨k_fpref02_Sign, (List.forall_mem_cons.2 ⟨k_fpref02_Cmp, (List.forall_mem_cons.2 ⟨k_fplaw05_same, (List.forall_mem_cons.2 ⟨k_interval_Neg, (List.forall_mem_cons.2 ⟨k_fpref02_Valid, (List.forall_mem_cons.2 ⟨k_interval_Valid, (List.forall_mem_cons.2 ⟨k_interval_Whole, (List.forall_mem_cons.2 ⟨k_interval_Abs, (List.forall_mem_cons.2 ⟨k_fpref02_Equal, (List.forall_mem_cons.2 ⟨k_interval_Mag, (List.forall_mem_cons.2 ⟨k_interval_Mig, (List.forall_mem_cons.2 ⟨k_interval_Sign, (List.forall_mem_cons.2 ⟨k_fplaw05_of, (List.forall_mem_cons.2 ⟨k_fpref02_Scale, (List.forall_mem_cons.2 ⟨k_fplaw05_n, (List.forall_mem_cons.2 ⟨k_dyadic_Valid, (List.forall_mem_cons.2 ⟨k_dyadic_Cmp, (List.forall_mem_cons.2 ⟨k_fpref02_Checked, (List.forall_mem_cons.2 ⟨k_fpref02_Sum, (List.forall_mem_cons.2 ⟨k_fpref02_Neg, (List.forall_mem_cons.2 ⟨k_fpref02_Product, (List.forall_mem_cons.2 ⟨k_interval_known, (List.forall_mem_cons.2 ⟨k_interval_permitted, (List.forall_mem_cons.2 ⟨k_round_AddDown, (List.forall_mem_cons.2 ⟨k_round_AddUp, (List.forall_mem_cons.2 ⟨k_interval_made, (List.forall_mem_cons.2 ⟨k_interval_four, (List.forall_mem_cons.2 ⟨k_round_MulDown, (List.forall_mem_cons.2 ⟨k_round_MulUp, (List.forall_mem_cons.2 ⟨k_round_DivDown, (List.forall_mem_cons.2 ⟨k_round_DivUp, (List.forall_mem_cons.2 ⟨k_fpref02_Top, (List.forall_mem_cons.2 ⟨k_fpref05_Equal, (List.forall_mem_cons.2 ⟨k_dyadic_Neg, (List.forall_mem_cons.2 ⟨k_fpref02_bits, (List.forall_mem_cons.2 ⟨k_interval_Valid_1, (List.forall_mem_cons.2 ⟨k_fpref02_compare, (List.forall_mem_cons.2 ⟨k_interval_more, (List.forall_mem_cons.2 ⟨k_dyadic_Abs, (List.forall_mem_cons.2 ⟨k_interval_less, (List.forall_mem_cons.2 ⟨k_dyadic_Sign, (List.forall_mem_cons.2 ⟨k_fpref02_Int, (List.forall_mem_cons.2 ⟨k_fpref02_exponent, (List.forall_mem_cons.2 ⟨k_fpref02_Of, (List.forall_mem_cons.2 ⟨k_dyadic_inRange, (List.forall_mem_cons.2 ⟨k_dyadic_compare, (List.forall_mem_cons.2 ⟨k_fpref02_left, (List.forall_mem_cons.2 ⟨k_fpref02_plus, (List.forall_mem_cons.2 ⟨k_fpref02_minus, (List.forall_mem_cons.2 ⟨k_fpref02_times, (List.forall_mem_cons.2 ⟨k_round_add, (List.forall_mem_cons.2 ⟨k_round_mul, (List.forall_mem_cons.2 ⟨k_round_div, (List.forall_mem_cons.2 ⟨k_slices_Clone_uint32, (List.forall_mem_cons.2 ⟨k_round_round, (List.forall_mem_cons.2 ⟨k_dyadic_exponent, (List.forall_mem_cons.2 ⟨k_dyadic_checked, (List.forall_mem_cons.2 ⟨k_dyadic_canonical, (List.forall_mem_cons.2 ⟨k_fpref02_trim, (List.forall_mem_cons.2 ⟨k_fpref02_zeros, (List.forall_mem_cons.2 ⟨k_fpref02_right, (List.forall_mem_cons.2 ⟨k_dyadic_size, (List.forall_mem_cons.2 ⟨k_dyadic_Top, (List.forall_mem_cons.2 ⟨k_natural_Cmp, (List.forall_mem_cons.2 ⟨k_dyadic_shifted, (List.forall_mem_cons.2 ⟨k_round_fault, (List.forall_mem_cons.2 ⟨k_round_sum, (List.forall_mem_cons.2 ⟨k_round_signed, (List.forall_mem_cons.2 ⟨k_natural_Mul, (List.forall_mem_cons.2 ⟨k_dyadic_Bits, (List.forall_mem_cons.2 ⟨k_natural_DivMod, (List.forall_mem_cons.2 ⟨k_round_shl, (List.forall_mem_cons.2 ⟨k_natural_Bits, (List.forall_mem_cons.2 ⟨k_round_of, (List.forall_mem_cons.2 ⟨k_dyadic_trimmed, (List.forall_mem_cons.2 ⟨k_dyadic_low, (List.forall_mem_cons.2 ⟨k_natural_Shr, (List.forall_mem_cons.2 ⟨k_slices_Clip_uint32, (List.forall_mem_cons.2 ⟨k_round_cut, (List.forall_mem_cons.2 ⟨k_natural_trim, (List.forall_mem_cons.2 ⟨k_natural_Shl, (List.forall_mem_cons.2 ⟨k_round_precise, (List.forall_mem_cons.2 ⟨k_round_shr, (List.forall_mem_cons.2 ⟨k_natural_Add, (List.forall_mem_cons.2 ⟨k_natural_Sub, (List.forall_mem_cons.2 ⟨k_natural_long, (List.forall_mem_cons.2 ⟨k_natural_done, (List.forall_mem_cons.2 ⟨k_natural_mul, (List.forall_mem_cons.2 ⟨k_natural_divide, (List.forall_mem_cons.2 ⟨k_math_bits_Len32, (List.forall_mem_cons.2 ⟨k_math_bits_TrailingZeros32, (List.forall_mem_cons.2 ⟨k_natural_shr, (List.forall_mem_cons.2 ⟨k_natural_shl, (List.forall_mem_cons.2 ⟨k_natural_add, (List.forall_mem_cons.2 ⟨k_dyadic_Make, (List.forall_mem_cons.2 ⟨k_natural_sub, (List.forall_mem_cons.2 ⟨k_slices_ContainsFunc_uint32s, (List.forall_mem_cons.2 ⟨k_natural_long_1, (List.forall_mem_cons.2 ⟨k_natural_short, (List.forall_mem_cons.2 ⟨k_math_bits_LeadingZeros32, (List.forall_mem_cons.2 ⟨k_natural_guess, (List.forall_mem_cons.2 ⟨k_natural_take, (List.forall_mem_cons.2 ⟨k_math_bits_Add32, (List.forall_mem_cons.2 ⟨k_math_bits_Sub32, (List.forall_mem_cons.2 ⟨k_slices_IndexFunc_uint32s, (List.forall_mem_cons.2 ⟨k_math_bits_Div32, (List.forall_mem_cons.2 ⟨k_natural_digit, (by simp)⟩)⟩)⟩)⟩)⟩)⟩)⟩)⟩)⟩)⟩)⟩)⟩)⟩)⟩)⟩)⟩)⟩)⟩)⟩)⟩)⟩)⟩)⟩)⟩)⟩)⟩)⟩)⟩)⟩)⟩)⟩)⟩)⟩)⟩)⟩)⟩)⟩)⟩)⟩)⟩)⟩)⟩)⟩)⟩)⟩)⟩)⟩)⟩)⟩)⟩)⟩)⟩)⟩)⟩)⟩)⟩)⟩)⟩)⟩)⟩)⟩)⟩)⟩)⟩)⟩)⟩)⟩)⟩)⟩)⟩)⟩)⟩)⟩)⟩)⟩)⟩)⟩)⟩)⟩)⟩)⟩)⟩)⟩)⟩)⟩)⟩)⟩)⟩)⟩)⟩)⟩)⟩)⟩)⟩)⟩)⟩)⟩)⟩)⟩)⟩)⟩)⟩)⟩)⟩)⟩)⟩)⟩)⟩)⟩)⟩)⟩)⟩)⟩)⟩)⟩)⟩)⟩)⟩)⟩)
theorem s_fplaw05_IntervalContains : look fnList 121 = some c_fplaw05_IntervalContains := by kernel_rfl
theorem s_fplaw05_awake : look fnList 132 = some c_fplaw05_awake := by kernel_rfl
theorem s_interval_Has : look fnList 133 = some c_interval_Has := by kernel_rfl
theorem s_fplaw05_IntervalContains_1 : look fnList 134 = some c_fplaw05_IntervalContains_1 := by kernel_rfl
theorem s_fpref02_Add : look fnList 135 = some c_fpref02_Add := by kernel_rfl
theorem s_fpref02_Sub : look fnList 136 = some c_fpref02_Sub := by kernel_rfl
theorem s_fpref02_Mul : look fnList 137 = some c_fpref02_Mul := by kernel_rfl
theorem s_interval_Add : look fnList 138 = some c_interval_Add := by kernel_rfl
theorem s_interval_Sub : look fnList 139 = some c_interval_Sub := by kernel_rfl
theorem s_interval_Mul : look fnList 140 = some c_interval_Mul := by kernel_rfl
theorem s_interval_Square : look fnList 141 = some c_interval_Square := by kernel_rfl
theorem s_interval_Div : look fnList 142 = some c_interval_Div := by kernel_rfl
theorem s_fpref02_Sign : look fnList 54 = some c_fpref02_Sign := by kernel_rfl
theorem s_fpref02_Cmp : look fnList 18 = some c_fpref02_Cmp := by kernel_rfl
theorem s_fplaw05_same : look fnList 144 = some c_fplaw05_same := by kernel_rfl
theorem s_interval_Neg : look fnList 147 = some c_interval_Neg := by kernel_rfl
theorem s_fpref02_Valid : look fnList 12 = some c_fpref02_Valid := by kernel_rfl
theorem s_interval_Valid : look fnList 77 = some c_interval_Valid := by kernel_rfl
theorem s_interval_Whole : look fnList 107 = some c_interval_Whole := by kernel_rfl
theorem s_interval_Abs : look fnList 156 = some c_interval_Abs := by kernel_rfl
theorem s_fpref02_Equal : look fnList 23 = some c_fpref02_Equal := by kernel_rfl
theorem s_interval_Mag : look fnList 164 = some c_interval_Mag := by kernel_rfl
theorem s_interval_Mig : look fnList 165 = some c_interval_Mig := by kernel_rfl
theorem s_interval_Sign : look fnList 173 = some c_interval_Sign := by kernel_rfl
theorem s_fplaw05_of : look fnList 180 = some c_fplaw05_of := by kernel_rfl
theorem s_fpref02_Scale : look fnList 182 = some c_fpref02_Scale := by kernel_rfl
theorem s_fplaw05_n : look fnList 183 = some c_fplaw05_n := by kernel_rfl
theorem s_dyadic_Valid : look fnList 51 = some c_dyadic_Valid := by kernel_rfl
theorem s_dyadic_Cmp : look fnList 52 = some c_dyadic_Cmp := by kernel_rfl
theorem s_fpref02_Checked : look fnList 184 = some c_fpref02_Checked := by kernel_rfl
theorem s_fpref02_Sum : look fnList 56 = some c_fpref02_Sum := by kernel_rfl
theorem s_fpref02_Neg : look fnList 57 = some c_fpref02_Neg := by kernel_rfl
theorem s_fpref02_Product : look fnList 185 = some c_fpref02_Product := by kernel_rfl
theorem s_interval_known : look fnList 106 = some c_interval_known := by kernel_rfl
theorem s_interval_permitted : look fnList 186 = some c_interval_permitted := by kernel_rfl
theorem s_round_AddDown : look fnList 187 = some c_round_AddDown := by kernel_rfl
theorem s_round_AddUp : look fnList 188 = some c_round_AddUp := by kernel_rfl
theorem s_interval_made : look fnList 189 = some c_interval_made := by kernel_rfl
theorem s_interval_four : look fnList 190 = some c_interval_four := by kernel_rfl
theorem s_round_MulDown : look fnList 191 = some c_round_MulDown := by kernel_rfl
theorem s_round_MulUp : look fnList 192 = some c_round_MulUp := by kernel_rfl
theorem s_round_DivDown : look fnList 193 = some c_round_DivDown := by kernel_rfl
theorem s_round_DivUp : look fnList 194 = some c_round_DivUp := by kernel_rfl
theorem s_fpref02_Top : look fnList 55 = some c_fpref02_Top := by kernel_rfl
theorem s_fpref05_Equal : look fnList 60 = some c_fpref05_Equal := by kernel_rfl
theorem s_dyadic_Neg : look fnList 198 = some c_dyadic_Neg := by kernel_rfl
theorem s_fpref02_bits : look fnList 49 = some c_fpref02_bits := by kernel_rfl
theorem s_interval_Valid_1 : look fnList 96 = some c_interval_Valid_1 := by kernel_rfl
theorem s_fpref02_compare : look fnList 63 = some c_fpref02_compare := by kernel_rfl
theorem s_interval_more : look fnList 104 = some c_interval_more := by kernel_rfl
theorem s_dyadic_Abs : look fnList 205 = some c_dyadic_Abs := by kernel_rfl
theorem s_interval_less : look fnList 105 = some c_interval_less := by kernel_rfl
theorem s_dyadic_Sign : look fnList 79 = some c_dyadic_Sign := by kernel_rfl
theorem s_fpref02_Int : look fnList 74 = some c_fpref02_Int := by kernel_rfl
theorem s_fpref02_exponent : look fnList 214 = some c_fpref02_exponent := by kernel_rfl
theorem s_fpref02_Of : look fnList 85 = some c_fpref02_Of := by kernel_rfl
theorem s_dyadic_inRange : look fnList 78 = some c_dyadic_inRange := by kernel_rfl
theorem s_dyadic_compare : look fnList 80 = some c_dyadic_compare := by kernel_rfl
theorem s_fpref02_left : look fnList 84 = some c_fpref02_left := by kernel_rfl
theorem s_fpref02_plus : look fnList 86 = some c_fpref02_plus := by kernel_rfl
theorem s_fpref02_minus : look fnList 87 = some c_fpref02_minus := by kernel_rfl
theorem s_fpref02_times : look fnList 215 = some c_fpref02_times := by kernel_rfl
theorem s_round_add : look fnList 216 = some c_round_add := by kernel_rfl
theorem s_round_mul : look fnList 217 = some c_round_mul := by kernel_rfl
theorem s_round_div : look fnList 218 = some c_round_div := by kernel_rfl
theorem s_slices_Clone_uint32 : look fnList 221 = some c_slices_Clone_uint32 := by kernel_rfl
theorem s_round_round : look fnList 222 = some c_round_round := by kernel_rfl
theorem s_dyadic_exponent : look fnList 223 = some c_dyadic_exponent := by kernel_rfl
theorem s_dyadic_checked : look fnList 224 = some c_dyadic_checked := by kernel_rfl
theorem s_dyadic_canonical : look fnList 225 = some c_dyadic_canonical := by kernel_rfl
theorem s_fpref02_trim : look fnList 101 = some c_fpref02_trim := by kernel_rfl
theorem s_fpref02_zeros : look fnList 102 = some c_fpref02_zeros := by kernel_rfl
theorem s_fpref02_right : look fnList 103 = some c_fpref02_right := by kernel_rfl
theorem s_dyadic_size : look fnList 97 = some c_dyadic_size := by kernel_rfl
theorem s_dyadic_Top : look fnList 98 = some c_dyadic_Top := by kernel_rfl
theorem s_natural_Cmp : look fnList 99 = some c_natural_Cmp := by kernel_rfl
theorem s_dyadic_shifted : look fnList 100 = some c_dyadic_shifted := by kernel_rfl
theorem s_round_fault : look fnList 235 = some c_round_fault := by kernel_rfl
theorem s_round_sum : look fnList 236 = some c_round_sum := by kernel_rfl
theorem s_round_signed : look fnList 237 = some c_round_signed := by kernel_rfl
theorem s_natural_Mul : look fnList 238 = some c_natural_Mul := by kernel_rfl
theorem s_dyadic_Bits : look fnList 239 = some c_dyadic_Bits := by kernel_rfl
theorem s_natural_DivMod : look fnList 240 = some c_natural_DivMod := by kernel_rfl
theorem s_round_shl : look fnList 241 = some c_round_shl := by kernel_rfl
theorem s_natural_Bits : look fnList 110 = some c_natural_Bits := by kernel_rfl
theorem s_round_of : look fnList 243 = some c_round_of := by kernel_rfl
theorem s_dyadic_trimmed : look fnList 244 = some c_dyadic_trimmed := by kernel_rfl
theorem s_dyadic_low : look fnList 245 = some c_dyadic_low := by kernel_rfl
theorem s_natural_Shr : look fnList 246 = some c_natural_Shr := by kernel_rfl
theorem s_slices_Clip_uint32 : look fnList 119 = some c_slices_Clip_uint32 := by kernel_rfl
theorem s_round_cut : look fnList 254 = some c_round_cut := by kernel_rfl
theorem s_natural_trim : look fnList 111 = some c_natural_trim := by kernel_rfl
theorem s_natural_Shl : look fnList 112 = some c_natural_Shl := by kernel_rfl
theorem s_round_precise : look fnList 255 = some c_round_precise := by kernel_rfl
theorem s_round_shr : look fnList 256 = some c_round_shr := by kernel_rfl
theorem s_natural_Add : look fnList 257 = some c_natural_Add := by kernel_rfl
theorem s_natural_Sub : look fnList 258 = some c_natural_Sub := by kernel_rfl
theorem s_natural_long : look fnList 114 = some c_natural_long := by kernel_rfl
theorem s_natural_done : look fnList 115 = some c_natural_done := by kernel_rfl
theorem s_natural_mul : look fnList 259 = some c_natural_mul := by kernel_rfl
theorem s_natural_divide : look fnList 260 = some c_natural_divide := by kernel_rfl
theorem s_math_bits_Len32 : look fnList 113 = some c_math_bits_Len32 := by kernel_rfl
theorem s_math_bits_TrailingZeros32 : look fnList 261 = some c_math_bits_TrailingZeros32 := by kernel_rfl
theorem s_natural_shr : look fnList 262 = some c_natural_shr := by kernel_rfl
theorem s_natural_shl : look fnList 116 = some c_natural_shl := by kernel_rfl
theorem s_natural_add : look fnList 264 = some c_natural_add := by kernel_rfl
theorem s_dyadic_Make : look fnList 265 = some c_dyadic_Make := by kernel_rfl
theorem s_natural_sub : look fnList 266 = some c_natural_sub := by kernel_rfl
theorem s_slices_ContainsFunc_uint32s : look fnList 117 = some c_slices_ContainsFunc_uint32s := by kernel_rfl
theorem s_natural_long_1 : look fnList 118 = some c_natural_long_1 := by kernel_rfl
theorem s_natural_short : look fnList 267 = some c_natural_short := by kernel_rfl
theorem s_math_bits_LeadingZeros32 : look fnList 268 = some c_math_bits_LeadingZeros32 := by kernel_rfl
theorem s_natural_guess : look fnList 269 = some c_natural_guess := by kernel_rfl
theorem s_natural_take : look fnList 270 = some c_natural_take := by kernel_rfl
theorem s_math_bits_Add32 : look fnList 271 = some c_math_bits_Add32 := by kernel_rfl
theorem s_math_bits_Sub32 : look fnList 272 = some c_math_bits_Sub32 := by kernel_rfl
theorem s_slices_IndexFunc_uint32s : look fnList 120 = some c_slices_IndexFunc_uint32s := by kernel_rfl
theorem s_math_bits_Div32 : look fnList 273 = some c_math_bits_Div32 := by kernel_rfl
theorem s_natural_digit : look fnList 274 = some c_natural_digit := by kernel_rfl

theorem rows_same : ∀ r ∈ rows, look fnList r.gid = some r.fn := (List.forall_mem_cons.2 ⟨s_fplaw05_IntervalContains, (List.forall_mem_cons.2 ⟨s_fplaw05_awake, (List.forall_mem_cons.2 ⟨s_interval_Has, (List.forall_mem_cons.2 ⟨s_fplaw05_IntervalContains_1, (List.forall_mem_cons.2 ⟨s_fpref02_Add, (List.forall_mem_cons.2 ⟨s_fpref02_Sub, (List.forall_mem_cons.2 ⟨s_fpref02_Mul, (List.forall_mem_cons.2 ⟨s_interval_Add, (List.forall_mem_cons.2 ⟨s_interval_Sub, (List.forall_mem_cons.2 ⟨s_interval_Mul, (List.forall_mem_cons.2 ⟨s_interval_Square, (List.forall_mem_cons.2 ⟨s_interval_Div, (List.forall_mem_cons.2 ⟨s_fpref02_Sign, (List.forall_mem_cons.2 ⟨s_fpref02_Cmp, (List.forall_mem_cons.2 ⟨s_fplaw05_same, (List.forall_mem_cons.2 ⟨s_interval_Neg, (List.forall_mem_cons.2 ⟨s_fpref02_Valid, (List.forall_mem_cons.2 ⟨s_interval_Valid, (List.forall_mem_cons.2 ⟨s_interval_Whole, (List.forall_mem_cons.2 ⟨s_interval_Abs, (List.forall_mem_cons.2 ⟨s_fpref02_Equal, (List.forall_mem_cons.2 ⟨s_interval_Mag, (List.forall_mem_cons.2 ⟨s_interval_Mig, (List.forall_mem_cons.2 ⟨s_interval_Sign, (List.forall_mem_cons.2 ⟨s_fplaw05_of, (List.forall_mem_cons.2 ⟨s_fpref02_Scale, (List.forall_mem_cons.2 ⟨s_fplaw05_n, (List.forall_mem_cons.2 ⟨s_dyadic_Valid, (List.forall_mem_cons.2 ⟨s_dyadic_Cmp, (List.forall_mem_cons.2 ⟨s_fpref02_Checked, (List.forall_mem_cons.2 ⟨s_fpref02_Sum, (List.forall_mem_cons.2 ⟨s_fpref02_Neg, (List.forall_mem_cons.2 ⟨s_fpref02_Product, (List.forall_mem_cons.2 ⟨s_interval_known, (List.forall_mem_cons.2 ⟨s_interval_permitted, (List.forall_mem_cons.2 ⟨s_round_AddDown, (List.forall_mem_cons.2 ⟨s_round_AddUp, (List.forall_mem_cons.2 ⟨s_interval_made, (List.forall_mem_cons.2 ⟨s_interval_four, (List.forall_mem_cons.2 ⟨s_round_MulDown, (List.forall_mem_cons.2 ⟨s_round_MulUp, (List.forall_mem_cons.2 ⟨s_round_DivDown, (List.forall_mem_cons.2 ⟨s_round_DivUp, (List.forall_mem_cons.2 ⟨s_fpref02_Top, (List.forall_mem_cons.2 ⟨s_fpref05_Equal, (List.forall_mem_cons.2 ⟨s_dyadic_Neg, (List.forall_mem_cons.2 ⟨s_fpref02_bits, (List.forall_mem_cons.2 ⟨s_interval_Valid_1, (List.forall_mem_cons.2 ⟨s_fpref02_compare, (List.forall_mem_cons.2 ⟨s_interval_more, (List.forall_mem_cons.2 ⟨s_dyadic_Abs, (List.forall_mem_cons.2 ⟨s_interval_less, (List.forall_mem_cons.2 ⟨s_dyadic_Sign, (List.forall_mem_cons.2 ⟨s_fpref02_Int, (List.forall_mem_cons.2 ⟨s_fpref02_exponent, (List.forall_mem_cons.2 ⟨s_fpref02_Of, (List.forall_mem_cons.2 ⟨s_dyadic_inRange, (List.forall_mem_cons.2 ⟨s_dyadic_compare, (List.forall_mem_cons.2 ⟨s_fpref02_left, (List.forall_mem_cons.2 ⟨s_fpref02_plus, (List.forall_mem_cons.2 ⟨s_fpref02_minus, (List.forall_mem_cons.2 ⟨s_fpref02_times, (List.forall_mem_cons.2 ⟨s_round_add, (List.forall_mem_cons.2 ⟨s_round_mul, (List.forall_mem_cons.2 ⟨s_round_div, (List.forall_mem_cons.2 ⟨s_slices_Clone_uint32, (List.forall_mem_cons.2 ⟨s_round_round, (List.forall_mem_cons.2 ⟨s_dyadic_exponent, (List.forall_mem_cons.2 ⟨s_dyadic_checked, (List.forall_mem_cons.2 ⟨s_dyadic_canonical, (List.forall_mem_cons.2 ⟨s_fpref02_trim, (List.forall_mem_cons.2 ⟨s_fpref02_zeros, (List.forall_mem_cons.2 ⟨s_fpref02_right, (List.forall_mem_cons.2 ⟨s_dyadic_size, (List.forall_mem_cons.2 ⟨s_dyadic_Top, (List.forall_mem_cons.2 ⟨s_natural_Cmp, (List.forall_mem_cons.2 ⟨s_dyadic_shifted, (List.forall_mem_cons.2 ⟨s_round_fault, (List.forall_mem_cons.2 ⟨s_round_sum, (List.forall_mem_cons.2 ⟨s_round_signed, (List.forall_mem_cons.2 ⟨s_natural_Mul, (List.forall_mem_cons.2 ⟨s_dyadic_Bits, (List.forall_mem_cons.2 ⟨s_natural_DivMod, (List.forall_mem_cons.2 ⟨s_round_shl, (List.forall_mem_cons.2 ⟨s_natural_Bits, (List.forall_mem_cons.2 ⟨s_round_of, (List.forall_mem_cons.2 ⟨s_dyadic_trimmed, (List.forall_mem_cons.2 ⟨s_dyadic_low, (List.forall_mem_cons.2 ⟨s_natural_Shr, (List.forall_mem_cons.2 ⟨s_slices_Clip_uint32, (List.forall_mem_cons.2 ⟨s_round_cut, (List.forall_mem_cons.2 ⟨s_natural_trim, (List.forall_mem_cons.2 ⟨s_natural_Shl, (List.forall_mem_cons.2 ⟨s_round_precise, (List.forall_mem_cons.2 ⟨s_round_shr, (List.forall_mem_cons.2 ⟨s_natural_Add, (List.forall_mem_cons.2 ⟨s_natural_Sub, (List.forall_mem_cons.2 ⟨s_natural_long, (List.forall_mem_cons.2 ⟨s_natural_done, (List.forall_mem_cons.2 ⟨s_natural_mul, (List.forall_mem_cons.2 ⟨s_natural_divide, (List.forall_mem_cons.2 ⟨s_math_bits_Len32, (List.forall_mem_cons.2 ⟨s_math_bits_TrailingZeros32, (List.forall_mem_cons.2 ⟨s_natural_shr, (List.forall_mem_cons.2 ⟨s_natural_shl, (List.forall_mem_cons.2 ⟨s_natural_add, (List.forall_mem_cons.2 ⟨s_dyadic_Make, (List.forall_mem_cons.2 ⟨s_natural_sub, (List.forall_mem_cons.2 ⟨s_slices_ContainsFunc_uint32s, (List.forall_mem_cons.2 ⟨s_natural_long_1, (List.forall_mem_cons.2 ⟨s_natural_short, (List.forall_mem_cons.2 ⟨s_math_bits_LeadingZeros32, (List.forall_mem_cons.2 ⟨s_natural_guess, (List.forall_mem_cons.2 ⟨s_natural_take, (List.forall_mem_cons.2 ⟨s_math_bits_Add32, (List.forall_mem_cons.2 ⟨s_math_bits_Sub32, (List.forall_mem_cons.2 ⟨s_slices_IndexFunc_uint32s, (List.forall_mem_cons.2 ⟨s_math_bits_Div32, (List.forall_mem_cons.2 ⟨s_natural_digit, (by simp)⟩)⟩)⟩)⟩)⟩)⟩)⟩)⟩)⟩)⟩)⟩)⟩)⟩)⟩)⟩)⟩)⟩)⟩)⟩)⟩)⟩)⟩)⟩)⟩)⟩)⟩)⟩)⟩)⟩)⟩)⟩)⟩)⟩)⟩)⟩)⟩)⟩)⟩)⟩)⟩)⟩)⟩)⟩)⟩)⟩)⟩)⟩)⟩)⟩)⟩)⟩)⟩)⟩)⟩)⟩)⟩)⟩)⟩)⟩)⟩)⟩)⟩)⟩)⟩)⟩)⟩)⟩)⟩)⟩)⟩)⟩)⟩)⟩)⟩)⟩)⟩)⟩)⟩)⟩)⟩)⟩)⟩)⟩)⟩)⟩)⟩)⟩)⟩)⟩)⟩)⟩)⟩)⟩)⟩)⟩)⟩)⟩)⟩)⟩)⟩)⟩)⟩)⟩)⟩)⟩)⟩)⟩)⟩)⟩)⟩)⟩)⟩)⟩)⟩)⟩)⟩)⟩)⟩)⟩)

theorem tab_mixed : tab.P.follows .mixedOrders = true := by kernel_rfl

theorem tab_fns : ∀ fid g f, tab.gid fid = some g → prog.fn g = some f → ∃ fn C, tab.P.funcs[fid]? = some fn ∧ fn.name ≠ "runtime.NumGoroutine" ∧ fn.body = some C ∧ comp tab fn.ntmps C = some f.body ∧ cRVs tab fn.results.toList = some f.results :=
 fns_of_rows (l := gidList) rfl (fns := fnList) (S := prog) rfl rows rows_ok (by kernel_rfl) rows_same

end Go.Abs
/- Numbers and intervals as arguments, read as abstract values. -/
namespace Go.Abs.W
open Go.ChangeShapes Go.RowKit

structure Dy.T (d : Dy) : Prop where
 li : Li d.m
 len : d.m.length ≤ 9223372036854775807
structure Iv.T (x : Iv) : Prop where
 lo : x.lo.T
 hi : x.hi.T
structure BxT (l : List Iv) : Prop where
 len : l.length ≤ 9223372036854775807
 all : ∀ x ∈ l, x.T
section
variable {H : Type} {enc : TypeId × Value → H} {P : Program} {w : World} {gid : Gid}

theorem list_of {α : Type} {f : α → V} {Q : V → Prop} {T : α → Prop} (h : ∀ v, Q v → ∃ a, v = f a ∧ T a) : ∀ {l : List V}, (∀ x ∈ l, Q x) → ∃ m : List α, l = m.map f ∧ ∀ a ∈ m, T a
 | [], _ => ⟨[], rfl, by simp⟩
 | x :: l, hl => by
   obtain ⟨m, h1, h2⟩ := list_of h (l := l) (fun y hy => hl y (by simp [hy]))
   obtain ⟨a, h3, h4⟩ := h x (hl x (by simp))
   refine ⟨a :: m, by rw [h1, h3]; rfl, fun b hb => ?_⟩
   rcases List.mem_cons.1 hb with rfl | hb
   · exact h4
   · exact h2 b hb

theorem rd_u32s {t e : TypeId} (ht : P.underlying t = some (.slice e)) (he : P.underlying e = some (.int .u32)) (hz : P.cellsOf e = 1) :
   Rd enc P w gid t (fun v => ∃ l : List Nat, v = lim l ∧ Li l ∧ l.length ≤ maxLen) :=
 (rd_slice ht hz (by omega) (rd_int he) (by rintro v ⟨n, rfl, _⟩; rfl)).mono fun v => by
   rintro ⟨l, rfl, hl, hlen⟩
   obtain ⟨m, h1, h2⟩ := list_of (f := u32) (T := fun n => n < 4294967296) (by
     rintro v ⟨n, rfl, h1, h2⟩
     have h1' : 0 ≤ n := h1
     have h2' : n ≤ 4294967295 := h2
     refine ⟨n.toNat, ?_, by omega⟩
     show V.int .u32 n = V.int .u32 (n.toNat : Int)
     congr 1; omega) hl
   exact ⟨m, by rw [h1]; rfl, h2, by rw [h1] at hlen; simpa using hlen⟩

theorem Qs3 {Q0 Q1 Q2 : V → Prop} {vs : List V} (h : vs.length = 3) (hq : ∀ (i : Nat) (v : V) (Q : V → Prop), vs[i]? = some v → [Q0, Q1, Q2][i]? = some Q → Q v) : ∃ a b c, vs = [a, b, c] ∧ Q0 a ∧ Q1 b ∧ Q2 c := by
 match vs, h with
 | [a, b, c], _ => exact ⟨a, b, c, rfl, hq 0 a Q0 rfl rfl, hq 1 b Q1 rfl rfl, hq 2 c Q2 rfl rfl⟩
theorem rd_dy {t : TypeId} {f0 f1 f2 : Field} (ht : P.underlying t = some (.struct #[f0, f1, f2])) (hz : P.cellsOf t = 3)
   (h0 : P.underlying f0.type = some .bool) (h1 : Rd enc P w gid f1.type (fun v => ∃ l : List Nat, v = lim l ∧ Li l ∧ l.length ≤ maxLen)) (h2 : P.underlying f2.type = some (.int .i64))
   (hoff : [f0, f1, f2].foldl (fun (o : Option Nat) f => o.bind fun o => if f.offset = o then some (o + P.cellsOf f.type) else none) (some 0) = some 3) :
   Rd enc P w gid t (fun v => ∃ d : Dy, v = d.v ∧ d.T) :=
 (rd_struct [fun v => ∃ b, v = .bool b, fun v => ∃ l : List Nat, v = lim l ∧ Li l ∧ l.length ≤ maxLen, fun v => ∃ n, v = .int .i64 n ∧ IntKind.i64.min ≤ n ∧ n ≤ IntKind.i64.max] ht hz rfl (by
   intro i f Q hf hQ
   match i with
   | 0 => cases hf; cases hQ; exact rd_bool h0
   | 1 => cases hf; cases hQ; exact h1
   | 2 => cases hf; cases hQ; exact rd_int h2
   | i + 3 => simp at hf) hoff).mono fun v => by
   rintro ⟨vs, rfl, hl, hq⟩
   obtain ⟨a, b, c, rfl, ⟨x, rfl⟩, ⟨l, rfl, g1, g2⟩, ⟨n, rfl, _⟩⟩ := Qs3 hl hq
   exact ⟨⟨x, l, n⟩, rfl, ⟨g1, g2⟩⟩

theorem rd_iv {t : TypeId} {f0 f1 f2 : Field} (ht : P.underlying t = some (.struct #[f0, f1, f2])) (hz : P.cellsOf t = 7)
   (h0 : Rd enc P w gid f0.type (fun v => ∃ d : Dy, v = d.v ∧ d.T)) (h1 : Rd enc P w gid f1.type (fun v => ∃ d : Dy, v = d.v ∧ d.T)) (h2 : P.underlying f2.type = some .bool)
   (hoff : [f0, f1, f2].foldl (fun (o : Option Nat) f => o.bind fun o => if f.offset = o then some (o + P.cellsOf f.type) else none) (some 0) = some 7) :
   Rd enc P w gid t (fun v => ∃ x : Iv, v = x.v ∧ x.T) :=
 (rd_struct [fun v => ∃ d : Dy, v = d.v ∧ d.T, fun v => ∃ d : Dy, v = d.v ∧ d.T, fun v => ∃ b, v = .bool b] ht hz rfl (by
   intro i f Q hf hQ
   match i with
   | 0 => cases hf; cases hQ; exact h0
   | 1 => cases hf; cases hQ; exact h1
   | 2 => cases hf; cases hQ; exact rd_bool h2
   | i + 3 => simp at hf) hoff).mono fun v => by
   rintro ⟨vs, rfl, hl, hq⟩
   obtain ⟨a, b, c, rfl, ⟨x, rfl, tx⟩, ⟨y, rfl, ty⟩, ⟨z, rfl⟩⟩ := Qs3 hl hq
   exact ⟨⟨x, y, z⟩, rfl, ⟨tx, ty⟩⟩

end

end Go.Abs.W

/- The intervals' seat: its program is the abstract one, its table reads as an abstract one, its arguments read as abstract values. -/
namespace Go.Proofs.YtmhloagengcelaaGreatDoor
open Go.ChangeShapes Go.WideShapes Go.ChangeAt Go.RowKit

theorem own : ownKnob Tryz.prog.godebug = none := by kernel_rfl
theorem laidOut : laidOutB Tryz.prog = true := by kernel_rfl
theorem seat : Go.Abs.Seat Go.Abs.tab Go.Abs.prog := ⟨Go.Abs.tab_mixed, Go.Abs.tab_fns, fun _ _ _ _ _ _ h => by cases h⟩

section
variable {H : Type} {enc : TypeId × Value → H} {w : World}
theorem r_u32s : Go.Abs.Rd enc Tryz.prog w Go.Abs.tab.gid 22 (fun v => ∃ l : List Nat, v = Go.Abs.lim l ∧ Go.Abs.Li l ∧ l.length ≤ maxLen) := Go.Abs.W.rd_u32s Tryz.underlying22 Tryz.underlying85 (by kernel_rfl)
theorem r_dy : Go.Abs.Rd enc Tryz.prog w Go.Abs.tab.gid 24 (fun v => ∃ d : Go.Abs.W.Dy, v = d.v ∧ d.T) := Go.Abs.W.rd_dy Tryz.underlying24 (by kernel_rfl) Tryz.underlying4 r_u32s Tryz.underlying3 (by kernel_rfl)
theorem r_iv : Go.Abs.Rd enc Tryz.prog w Go.Abs.tab.gid 26 (fun v => ∃ x : Go.Abs.W.Iv, v = x.v ∧ x.T) := Go.Abs.W.rd_iv Tryz.underlying26 (by kernel_rfl) r_dy r_dy Tryz.underlying4 (by kernel_rfl)
theorem r_int : Go.Abs.Rd enc Tryz.prog w Go.Abs.tab.gid 3 (fun v => ∃ n, v = .int .i64 n ∧ IntKind.i64.min ≤ n ∧ n ≤ IntKind.i64.max) := Go.Abs.rd_int Tryz.underlying3
end

def zDy : Value := .agg #[.bool false, .slice none 0 0, .int .i64 0]
def zIvV : Value := .agg #[.bool false, .slice none 0 0, .int .i64 0, .bool false, .slice none 0 0, .int .i64 0, .bool false]

def dDy {H : Type} : DataW H := .agg [.lit (.bool false), .nil, .lit (.int .i64 0)]
def dIv {H : Type} : DataW H := .agg [dDy, dDy, .lit (.bool false)]

theorem gTab : Tryz.prog.globalNamed "math/bits.deBruijn32tab" = some 0 := by kernel_rfl
theorem gTabType : (Tryz.prog.globals[0]?).map (·.type) = some 140 := by kernel_rfl
theorem cells140 : Tryz.prog.cellsOf 140 = 32 := by kernel_rfl
theorem cells5 : Tryz.prog.cellsOf 5 = 1 := by kernel_rfl
def nums : List Int := [0, 1, 28, 2, 29, 14, 24, 3, 30, 22, 20, 15, 25, 17, 4, 8, 31, 27, 13, 23, 21, 19, 16, 7, 26, 12, 18, 6, 11, 5, 10, 9]
theorem table {W : World} (h : laidMetH Tryz.prog [("math/bits.deBruijn32tab", Rows.laid_math_bits_deBruijn32tab)] W) : Lib.TabIs Tryz.prog W "math/bits.deBruijn32tab" .u8 nums :=
 Lib.tabIs_of_head (rest := []) gTab gTabType Tryz.underlying140 Tryz.underlying5 cells5 cells140 h

theorem tabs {W : World} (h : laidMetH Tryz.prog [("math/bits.deBruijn32tab", Rows.laid_math_bits_deBruijn32tab)] W) : Go.Abs.Tabs Go.Abs.tab.gid W fun _ => False := by
 intro g cs hg
 have hg' : Go.Abs.tabsOf Go.Abs.tabList g = some cs := hg
 unfold Go.Abs.tabList Go.Abs.tabsOf at hg'
 split at hg'
 · rename_i h0
   subst h0
   have hc : cs = nums.map (fun n => Go.Abs.V.int .u8 n) := by injection hg' with hg'; rw [← hg']; rfl
   subst hc
   have cell : ∀ i (hi : i < nums.length), W.cell? ⟨0, i, none⟩ = some (.int .u8 (nums.getD i 0)) := fun i hi => (table h).cell gTab i hi
   have hb : 0 < W.heap.size := World.block_lt_of_cell? W ⟨0, 0, none⟩ (cell 0 (by decide))
   have get : ∀ (j : Nat) (c : Go.Abs.V), (nums.map (fun n => Go.Abs.V.int .u8 n))[j]? = some c → j < nums.length ∧ c = .int .u8 (nums.getD j 0) := by
     intro j c hj
     rw [List.getElem?_map] at hj
     obtain ⟨a, ha, rfl⟩ := Option.map_eq_some_iff.1 hj
     refine ⟨(List.getElem?_eq_some_iff.1 ha).1, ?_⟩
     rw [List.getD_eq_getElem?_getD, ha]
     rfl
   refine .eptr _ _ (fun j => .int .u8 (nums.getD j 0)) rfl (fun h => h) hb ?_ ?_
   · intro j c hj
     have hl := (get j c hj).1
     have := cell j hl
     simpa using this
   · intro j c hj
     rw [(get j c hj).2]
     exact .int _ _
 · unfold Go.Abs.tabsOf at hg'
   cases hg'

/-- A world for the witness: the settled one, the table holding what its initialiser lays. -/
noncomputable def laidWorld (os : Os) : World :=
 { World.holding Tryz.prog os ⟨#[], #[], []⟩ with heap := (World.holding Tryz.prog os ⟨#[], #[], []⟩).heap.modify 0 fun
     | .cells _ t frozen => .cells (nums.map fun n => .int .u8 n).toArray t frozen
     | o => o }

end Go.Proofs.YtmhloagengcelaaGreatDoor

