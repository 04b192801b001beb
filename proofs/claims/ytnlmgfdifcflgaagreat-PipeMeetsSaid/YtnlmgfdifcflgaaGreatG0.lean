/- Parts of the proof: FpSeatYZ, FpEndYZ0. -/
import Derived.Test.YtnlmgfdifcflgaaGreatProg
import Derived.KernelRfl
import Derived.Test.YtnlmgfdifcflgaaGreatRows
import Derived.Test.YtnlmgfdifcflgaaGreatGr
import Derived.Test.YtnlmgfdifcflgaaGreatFa
import Derived.Test.YtnlmgfdifcflgaaGreatFc
import Derived.Test.YtnlmgfdifcflgaaGreatFp
/- MADE BY A PROGRAM (wip/tools/mkseat.py): the functions of this seat's program are the abstract ones. -/
namespace Go.Abs
open Go.Proofs
set_option maxRecDepth 100000

def gidList : List Nat := [0, 0, 0, 584, 7, 8, 585, 11, 13, 23, 26, 586, 15, 17, 587, 38, 19, 39, 10, 20, 40, 41, 42, 29, 43, 44, 9, 52, 64, 588, 69, 59, 31, 12, 18, 27, 48, 63, 24, 589, 34, 590, 36, 50, 51, 46, 53, 58, 61, 591, 592, 74, 45, 47, 60, 75, 67, 68, 32, 79, 80, 593, 81, 90, 88, 70, 49, 54, 55, 56, 57, 65, 71, 37, 76, 77, 78, 82, 83, 594, 85, 89, 98, 99, 100, 104, 105, 91, 84, 86, 87, 92, 93, 73, 96, 97, 101, 102, 103, 111, 112, 95, 110, 114, 115, 116, 108, 109, 113, 117, 118, 119, 120, 0, 0, 0, 0, 0, 0, 0, 0, 0, 0, 0, 0, 0, 0, 0, 0]

def tabList : List (Nat × List V) := []

noncomputable def tab : Tab := ⟨Tryz.prog, ⟨gidOf gidList, tabsOf tabList⟩⟩

theorem k3 : RowOk tab ⟨3, 584, c_fplaw37_PipeMeets⟩ := ⟨Tryz.f3, Tryz.func3, by kernel_rfl⟩
theorem k4 : RowOk tab ⟨4, 7, c_fplaw37_awake⟩ := ⟨Tryz.f4, Tryz.func4, by kernel_rfl⟩
theorem k5 : RowOk tab ⟨5, 8, c_fplaw37_great⟩ := ⟨Tryz.f5, Tryz.func5, by kernel_rfl⟩
theorem k6 : RowOk tab ⟨6, 585, c_pipe_Meet⟩ := ⟨Tryz.f6, Tryz.func6, by kernel_rfl⟩
theorem k7 : RowOk tab ⟨7, 11, c_fpref37_Valid⟩ := ⟨Tryz.f7, Tryz.func7, by kernel_rfl⟩
theorem k8 : RowOk tab ⟨8, 13, c_fplaw37_zero⟩ := ⟨Tryz.f8, Tryz.func8, by kernel_rfl⟩
theorem k9 : RowOk tab ⟨9, 23, c_fpref02_Equal⟩ := ⟨Tryz.f9, Tryz.func9, by kernel_rfl⟩
theorem k10 : RowOk tab ⟨10, 26, c_fpref37_First⟩ := ⟨Tryz.f10, Tryz.func10, by kernel_rfl⟩
theorem k11 : RowOk tab ⟨11, 586, c_fpref37_Meet⟩ := ⟨Tryz.f11, Tryz.func11, by kernel_rfl⟩
theorem k12 : RowOk tab ⟨12, 15, c_fpref37_Same⟩ := ⟨Tryz.f12, Tryz.func12, by kernel_rfl⟩
theorem k13 : RowOk tab ⟨13, 17, c_pipe_Valid⟩ := ⟨Tryz.f13, Tryz.func13, by kernel_rfl⟩
theorem k14 : RowOk tab ⟨14, 587, c_pipe_Inside⟩ := ⟨Tryz.f14, Tryz.func14, by kernel_rfl⟩
theorem k15 : RowOk tab ⟨15, 38, c_fplaw37_example⟩ := ⟨Tryz.f15, Tryz.func15, by kernel_rfl⟩
theorem k16 : RowOk tab ⟨16, 19, c_pipe_At⟩ := ⟨Tryz.f16, Tryz.func16, by kernel_rfl⟩
theorem k17 : RowOk tab ⟨17, 39, c_fplaw37_n⟩ := ⟨Tryz.f17, Tryz.func17, by kernel_rfl⟩
theorem k18 : RowOk tab ⟨18, 10, c_pipe_Cut⟩ := ⟨Tryz.f18, Tryz.func18, by kernel_rfl⟩
theorem k19 : RowOk tab ⟨19, 20, c_fpref37_Equal⟩ := ⟨Tryz.f19, Tryz.func19, by kernel_rfl⟩
theorem k20 : RowOk tab ⟨20, 40, c_fplaw37_of⟩ := ⟨Tryz.f20, Tryz.func20, by kernel_rfl⟩
theorem k21 : RowOk tab ⟨21, 41, c_slices_ContainsFunc_Pipe⟩ := ⟨Tryz.f21, Tryz.func21, by kernel_rfl⟩
theorem k22 : RowOk tab ⟨22, 42, c_fplaw37_great_1⟩ := ⟨Tryz.f22, Tryz.func22, by kernel_rfl⟩
theorem k23 : RowOk tab ⟨23, 29, c_fplaw37_wide⟩ := ⟨Tryz.f23, Tryz.func23, by kernel_rfl⟩
theorem k24 : RowOk tab ⟨24, 43, c_slices_ContainsFunc_Segment⟩ := ⟨Tryz.f24, Tryz.func24, by kernel_rfl⟩
theorem k25 : RowOk tab ⟨25, 44, c_fplaw37_great_1_1⟩ := ⟨Tryz.f25, Tryz.func25, by kernel_rfl⟩
theorem k26 : RowOk tab ⟨26, 9, c_fplaw37_long⟩ := ⟨Tryz.f26, Tryz.func26, by kernel_rfl⟩
theorem k27 : RowOk tab ⟨27, 52, c_dyadic_Cmp⟩ := ⟨Tryz.f27, Tryz.func27, by kernel_rfl⟩
theorem k28 : RowOk tab ⟨28, 64, c_pipe_begin⟩ := ⟨Tryz.f28, Tryz.func28, by kernel_rfl⟩
theorem k29 : RowOk tab ⟨29, 588, c_pipe_pieces⟩ := ⟨Tryz.f29, Tryz.func29, by kernel_rfl⟩
theorem k30 : RowOk tab ⟨30, 69, c_box_Meet⟩ := ⟨Tryz.f30, Tryz.func30, by kernel_rfl⟩
theorem k31 : RowOk tab ⟨31, 59, c_pipe_at⟩ := ⟨Tryz.f31, Tryz.func31, by kernel_rfl⟩
theorem k32 : RowOk tab ⟨32, 31, c_fpref37_Box⟩ := ⟨Tryz.f32, Tryz.func32, by kernel_rfl⟩
theorem k33 : RowOk tab ⟨33, 12, c_fpref02_Valid⟩ := ⟨Tryz.f33, Tryz.func33, by kernel_rfl⟩
theorem k34 : RowOk tab ⟨34, 18, c_fpref02_Cmp⟩ := ⟨Tryz.f34, Tryz.func34, by kernel_rfl⟩
theorem k35 : RowOk tab ⟨35, 27, c_fpref37_Inside⟩ := ⟨Tryz.f35, Tryz.func35, by kernel_rfl⟩
theorem k36 : RowOk tab ⟨36, 48, c_fpref37_Before⟩ := ⟨Tryz.f36, Tryz.func36, by kernel_rfl⟩
theorem k37 : RowOk tab ⟨37, 63, c_fpref02_compare⟩ := ⟨Tryz.f37, Tryz.func37, by kernel_rfl⟩
theorem k38 : RowOk tab ⟨38, 24, c_fpref37_Last⟩ := ⟨Tryz.f38, Tryz.func38, by kernel_rfl⟩
theorem k39 : RowOk tab ⟨39, 589, c_fpref37_Ends⟩ := ⟨Tryz.f39, Tryz.func39, by kernel_rfl⟩
theorem k40 : RowOk tab ⟨40, 34, c_fpref37_Common⟩ := ⟨Tryz.f40, Tryz.func40, by kernel_rfl⟩
theorem k41 : RowOk tab ⟨41, 590, c_fpref37_Tube⟩ := ⟨Tryz.f41, Tryz.func41, by kernel_rfl⟩
theorem k42 : RowOk tab ⟨42, 36, c_fpref37_At⟩ := ⟨Tryz.f42, Tryz.func42, by kernel_rfl⟩
theorem k43 : RowOk tab ⟨43, 50, c_box_Valid⟩ := ⟨Tryz.f43, Tryz.func43, by kernel_rfl⟩
theorem k44 : RowOk tab ⟨44, 51, c_dyadic_Valid⟩ := ⟨Tryz.f44, Tryz.func44, by kernel_rfl⟩
theorem k45 : RowOk tab ⟨45, 46, c_pipe_less⟩ := ⟨Tryz.f45, Tryz.func45, by kernel_rfl⟩
theorem k46 : RowOk tab ⟨46, 53, c_box_Inside⟩ := ⟨Tryz.f46, Tryz.func46, by kernel_rfl⟩
theorem k47 : RowOk tab ⟨47, 58, c_pipe_during⟩ := ⟨Tryz.f47, Tryz.func47, by kernel_rfl⟩
theorem k48 : RowOk tab ⟨48, 61, c_pipe_last⟩ := ⟨Tryz.f48, Tryz.func48, by kernel_rfl⟩
theorem k49 : RowOk tab ⟨49, 591, c_slices_ContainsFunc_Dyadic⟩ := ⟨Tryz.f49, Tryz.func49, by kernel_rfl⟩
theorem k50 : RowOk tab ⟨50, 592, c_pipe_Inside_1⟩ := ⟨Tryz.f50, Tryz.func50, by kernel_rfl⟩
theorem k51 : RowOk tab ⟨51, 74, c_fpref02_Int⟩ := ⟨Tryz.f51, Tryz.func51, by kernel_rfl⟩
theorem k52 : RowOk tab ⟨52, 45, c_pipe_copied⟩ := ⟨Tryz.f52, Tryz.func52, by kernel_rfl⟩
theorem k53 : RowOk tab ⟨53, 47, c_slices_Clone_Interval⟩ := ⟨Tryz.f53, Tryz.func53, by kernel_rfl⟩
theorem k54 : RowOk tab ⟨54, 60, c_fpref05_Equal⟩ := ⟨Tryz.f54, Tryz.func54, by kernel_rfl⟩
theorem k55 : RowOk tab ⟨55, 75, c_slices_IndexFunc_Pipe⟩ := ⟨Tryz.f55, Tryz.func55, by kernel_rfl⟩
theorem k56 : RowOk tab ⟨56, 67, c_slices_ContainsFunc_Interval⟩ := ⟨Tryz.f56, Tryz.func56, by kernel_rfl⟩
theorem k57 : RowOk tab ⟨57, 68, c_fplaw37_wide_1⟩ := ⟨Tryz.f57, Tryz.func57, by kernel_rfl⟩
theorem k58 : RowOk tab ⟨58, 32, c_slices_IndexFunc_Segment⟩ := ⟨Tryz.f58, Tryz.func58, by kernel_rfl⟩
theorem k59 : RowOk tab ⟨59, 79, c_dyadic_Sign⟩ := ⟨Tryz.f59, Tryz.func59, by kernel_rfl⟩
theorem k60 : RowOk tab ⟨60, 80, c_dyadic_compare⟩ := ⟨Tryz.f60, Tryz.func60, by kernel_rfl⟩
theorem k61 : RowOk tab ⟨61, 593, c_pipe_pieces_1⟩ := ⟨Tryz.f61, Tryz.func61, by kernel_rfl⟩
theorem k62 : RowOk tab ⟨62, 81, c_box_two⟩ := ⟨Tryz.f62, Tryz.func62, by kernel_rfl⟩
theorem k63 : RowOk tab ⟨63, 90, c_interval_Meet⟩ := ⟨Tryz.f63, Tryz.func63, by kernel_rfl⟩
theorem k64 : RowOk tab ⟨64, 88, c_pipe_at_1⟩ := ⟨Tryz.f64, Tryz.func64, by kernel_rfl⟩
theorem k65 : RowOk tab ⟨65, 70, c_fpref05_Valid⟩ := ⟨Tryz.f65, Tryz.func65, by kernel_rfl⟩
theorem k66 : RowOk tab ⟨66, 49, c_fpref02_bits⟩ := ⟨Tryz.f66, Tryz.func66, by kernel_rfl⟩
theorem k67 : RowOk tab ⟨67, 54, c_fpref02_Sign⟩ := ⟨Tryz.f67, Tryz.func67, by kernel_rfl⟩
theorem k68 : RowOk tab ⟨68, 55, c_fpref02_Top⟩ := ⟨Tryz.f68, Tryz.func68, by kernel_rfl⟩
theorem k69 : RowOk tab ⟨69, 56, c_fpref02_Sum⟩ := ⟨Tryz.f69, Tryz.func69, by kernel_rfl⟩
theorem k70 : RowOk tab ⟨70, 57, c_fpref02_Neg⟩ := ⟨Tryz.f70, Tryz.func70, by kernel_rfl⟩
theorem k71 : RowOk tab ⟨71, 65, c_fpref05_Inside⟩ := ⟨Tryz.f71, Tryz.func71, by kernel_rfl⟩
theorem k72 : RowOk tab ⟨72, 71, c_fpref05_Meet⟩ := ⟨Tryz.f72, Tryz.func72, by kernel_rfl⟩
theorem k73 : RowOk tab ⟨73, 37, c_fpref37_Over⟩ := ⟨Tryz.f73, Tryz.func73, by kernel_rfl⟩
theorem k74 : RowOk tab ⟨74, 76, c_box_Valid_1⟩ := ⟨Tryz.f74, Tryz.func74, by kernel_rfl⟩
theorem k75 : RowOk tab ⟨75, 77, c_interval_Valid⟩ := ⟨Tryz.f75, Tryz.func75, by kernel_rfl⟩
theorem k76 : RowOk tab ⟨76, 78, c_dyadic_inRange⟩ := ⟨Tryz.f76, Tryz.func76, by kernel_rfl⟩
theorem k77 : RowOk tab ⟨77, 82, c_slices_EqualFunc_Interval⟩ := ⟨Tryz.f77, Tryz.func77, by kernel_rfl⟩
theorem k78 : RowOk tab ⟨78, 83, c_interval_Inside⟩ := ⟨Tryz.f78, Tryz.func78, by kernel_rfl⟩
theorem k79 : RowOk tab ⟨79, 594, c_slices_IndexFunc_Dyadic⟩ := ⟨Tryz.f79, Tryz.func79, by kernel_rfl⟩
theorem k80 : RowOk tab ⟨80, 85, c_fpref02_Of⟩ := ⟨Tryz.f80, Tryz.func80, by kernel_rfl⟩
theorem k81 : RowOk tab ⟨81, 89, c_slices_IndexFunc_Interval⟩ := ⟨Tryz.f81, Tryz.func81, by kernel_rfl⟩
theorem k82 : RowOk tab ⟨82, 98, c_dyadic_Top⟩ := ⟨Tryz.f82, Tryz.func82, by kernel_rfl⟩
theorem k83 : RowOk tab ⟨83, 99, c_natural_Cmp⟩ := ⟨Tryz.f83, Tryz.func83, by kernel_rfl⟩
theorem k84 : RowOk tab ⟨84, 100, c_dyadic_shifted⟩ := ⟨Tryz.f84, Tryz.func84, by kernel_rfl⟩
theorem k85 : RowOk tab ⟨85, 104, c_interval_more⟩ := ⟨Tryz.f85, Tryz.func85, by kernel_rfl⟩
theorem k86 : RowOk tab ⟨86, 105, c_interval_less⟩ := ⟨Tryz.f86, Tryz.func86, by kernel_rfl⟩
theorem k87 : RowOk tab ⟨87, 91, c_fpref05_zero⟩ := ⟨Tryz.f87, Tryz.func87, by kernel_rfl⟩
theorem k88 : RowOk tab ⟨88, 84, c_fpref02_left⟩ := ⟨Tryz.f88, Tryz.func88, by kernel_rfl⟩
theorem k89 : RowOk tab ⟨89, 86, c_fpref02_plus⟩ := ⟨Tryz.f89, Tryz.func89, by kernel_rfl⟩
theorem k90 : RowOk tab ⟨90, 87, c_fpref02_minus⟩ := ⟨Tryz.f90, Tryz.func90, by kernel_rfl⟩
theorem k91 : RowOk tab ⟨91, 92, c_fpref05_most⟩ := ⟨Tryz.f91, Tryz.func91, by kernel_rfl⟩
theorem k92 : RowOk tab ⟨92, 93, c_fpref05_least⟩ := ⟨Tryz.f92, Tryz.func92, by kernel_rfl⟩
theorem k93 : RowOk tab ⟨93, 73, c_fpref37_Hull⟩ := ⟨Tryz.f93, Tryz.func93, by kernel_rfl⟩
theorem k94 : RowOk tab ⟨94, 96, c_interval_Valid_1⟩ := ⟨Tryz.f94, Tryz.func94, by kernel_rfl⟩
theorem k95 : RowOk tab ⟨95, 97, c_dyadic_size⟩ := ⟨Tryz.f95, Tryz.func95, by kernel_rfl⟩
theorem k96 : RowOk tab ⟨96, 101, c_fpref02_trim⟩ := ⟨Tryz.f96, Tryz.func96, by kernel_rfl⟩
theorem k97 : RowOk tab ⟨97, 102, c_fpref02_zeros⟩ := ⟨Tryz.f97, Tryz.func97, by kernel_rfl⟩
theorem k98 : RowOk tab ⟨98, 103, c_fpref02_right⟩ := ⟨Tryz.f98, Tryz.func98, by kernel_rfl⟩
theorem k99 : RowOk tab ⟨99, 111, c_natural_trim⟩ := ⟨Tryz.f99, Tryz.func99, by kernel_rfl⟩
theorem k100 : RowOk tab ⟨100, 112, c_natural_Shl⟩ := ⟨Tryz.f100, Tryz.func100, by kernel_rfl⟩
theorem k101 : RowOk tab ⟨101, 95, c_fpref05_Hull⟩ := ⟨Tryz.f101, Tryz.func101, by kernel_rfl⟩
theorem k102 : RowOk tab ⟨102, 110, c_natural_Bits⟩ := ⟨Tryz.f102, Tryz.func102, by kernel_rfl⟩
theorem k103 : RowOk tab ⟨103, 114, c_natural_long⟩ := ⟨Tryz.f103, Tryz.func103, by kernel_rfl⟩
theorem k104 : RowOk tab ⟨104, 115, c_natural_done⟩ := ⟨Tryz.f104, Tryz.func104, by kernel_rfl⟩
theorem k105 : RowOk tab ⟨105, 116, c_natural_shl⟩ := ⟨Tryz.f105, Tryz.func105, by kernel_rfl⟩
theorem k106 : RowOk tab ⟨106, 108, c_fpref05_known⟩ := ⟨Tryz.f106, Tryz.func106, by kernel_rfl⟩
theorem k107 : RowOk tab ⟨107, 109, c_fpref05_Whole⟩ := ⟨Tryz.f107, Tryz.func107, by kernel_rfl⟩
theorem k108 : RowOk tab ⟨108, 113, c_math_bits_Len32⟩ := ⟨Tryz.f108, Tryz.func108, by kernel_rfl⟩
theorem k109 : RowOk tab ⟨109, 117, c_slices_ContainsFunc_uint32s⟩ := ⟨Tryz.f109, Tryz.func109, by kernel_rfl⟩
theorem k110 : RowOk tab ⟨110, 118, c_natural_long_1⟩ := ⟨Tryz.f110, Tryz.func110, by kernel_rfl⟩
theorem k111 : RowOk tab ⟨111, 119, c_slices_Clip_uint32⟩ := ⟨Tryz.f111, Tryz.func111, by kernel_rfl⟩
theorem k112 : RowOk tab ⟨112, 120, c_slices_IndexFunc_uint32s⟩ := ⟨Tryz.f112, Tryz.func112, by kernel_rfl⟩

def rows : List Row :=
 [⟨3, 584, c_fplaw37_PipeMeets⟩,
  ⟨4, 7, c_fplaw37_awake⟩,
  ⟨5, 8, c_fplaw37_great⟩,
  ⟨6, 585, c_pipe_Meet⟩,
  ⟨7, 11, c_fpref37_Valid⟩,
  ⟨8, 13, c_fplaw37_zero⟩,
  ⟨9, 23, c_fpref02_Equal⟩,
  ⟨10, 26, c_fpref37_First⟩,
  ⟨11, 586, c_fpref37_Meet⟩,
  ⟨12, 15, c_fpref37_Same⟩,
  ⟨13, 17, c_pipe_Valid⟩,
  ⟨14, 587, c_pipe_Inside⟩,
  ⟨15, 38, c_fplaw37_example⟩,
  ⟨16, 19, c_pipe_At⟩,
  ⟨17, 39, c_fplaw37_n⟩,
  ⟨18, 10, c_pipe_Cut⟩,
  ⟨19, 20, c_fpref37_Equal⟩,
  ⟨20, 40, c_fplaw37_of⟩,
  ⟨21, 41, c_slices_ContainsFunc_Pipe⟩,
  ⟨22, 42, c_fplaw37_great_1⟩,
  ⟨23, 29, c_fplaw37_wide⟩,
  ⟨24, 43, c_slices_ContainsFunc_Segment⟩,
  ⟨25, 44, c_fplaw37_great_1_1⟩,
  ⟨26, 9, c_fplaw37_long⟩,
  ⟨27, 52, c_dyadic_Cmp⟩,
  ⟨28, 64, c_pipe_begin⟩,
  ⟨29, 588, c_pipe_pieces⟩,
  ⟨30, 69, c_box_Meet⟩,
  ⟨31, 59, c_pipe_at⟩,
  ⟨32, 31, c_fpref37_Box⟩,
  ⟨33, 12, c_fpref02_Valid⟩,
  ⟨34, 18, c_fpref02_Cmp⟩,
  ⟨35, 27, c_fpref37_Inside⟩,
  ⟨36, 48, c_fpref37_Before⟩,
  ⟨37, 63, c_fpref02_compare⟩,
  ⟨38, 24, c_fpref37_Last⟩,
  ⟨39, 589, c_fpref37_Ends⟩,
  ⟨40, 34, c_fpref37_Common⟩,
  ⟨41, 590, c_fpref37_Tube⟩,
  ⟨42, 36, c_fpref37_At⟩,
  ⟨43, 50, c_box_Valid⟩,
  ⟨44, 51, c_dyadic_Valid⟩,
  ⟨45, 46, c_pipe_less⟩,
  ⟨46, 53, c_box_Inside⟩,
  ⟨47, 58, c_pipe_during⟩,
  ⟨48, 61, c_pipe_last⟩,
  ⟨49, 591, c_slices_ContainsFunc_Dyadic⟩,
  ⟨50, 592, c_pipe_Inside_1⟩,
  ⟨51, 74, c_fpref02_Int⟩,
  ⟨52, 45, c_pipe_copied⟩,
  ⟨53, 47, c_slices_Clone_Interval⟩,
  ⟨54, 60, c_fpref05_Equal⟩,
  ⟨55, 75, c_slices_IndexFunc_Pipe⟩,
  ⟨56, 67, c_slices_ContainsFunc_Interval⟩,
  ⟨57, 68, c_fplaw37_wide_1⟩,
  ⟨58, 32, c_slices_IndexFunc_Segment⟩,
  ⟨59, 79, c_dyadic_Sign⟩,
  ⟨60, 80, c_dyadic_compare⟩,
  ⟨61, 593, c_pipe_pieces_1⟩,
  ⟨62, 81, c_box_two⟩,
  ⟨63, 90, c_interval_Meet⟩,
  ⟨64, 88, c_pipe_at_1⟩,
  ⟨65, 70, c_fpref05_Valid⟩,
  ⟨66, 49, c_fpref02_bits⟩,
  ⟨67, 54, c_fpref02_Sign⟩,
  ⟨68, 55, c_fpref02_Top⟩,
  ⟨69, 56, c_fpref02_Sum⟩,
  ⟨70, 57, c_fpref02_Neg⟩,
  ⟨71, 65, c_fpref05_Inside⟩,
  ⟨72, 71, c_fpref05_Meet⟩,
  ⟨73, 37, c_fpref37_Over⟩,
  ⟨74, 76, c_box_Valid_1⟩,
  ⟨75, 77, c_interval_Valid⟩,
  ⟨76, 78, c_dyadic_inRange⟩,
  ⟨77, 82, c_slices_EqualFunc_Interval⟩,
  ⟨78, 83, c_interval_Inside⟩,
  ⟨79, 594, c_slices_IndexFunc_Dyadic⟩,
  ⟨80, 85, c_fpref02_Of⟩,
  ⟨81, 89, c_slices_IndexFunc_Interval⟩,
  ⟨82, 98, c_dyadic_Top⟩,
  ⟨83, 99, c_natural_Cmp⟩,
  ⟨84, 100, c_dyadic_shifted⟩,
  ⟨85, 104, c_interval_more⟩,
  ⟨86, 105, c_interval_less⟩,
  ⟨87, 91, c_fpref05_zero⟩,
  ⟨88, 84, c_fpref02_left⟩,
  ⟨89, 86, c_fpref02_plus⟩,
  ⟨90, 87, c_fpref02_minus⟩,
  ⟨91, 92, c_fpref05_most⟩,
  ⟨92, 93, c_fpref05_least⟩,
  ⟨93, 73, c_fpref37_Hull⟩,
  ⟨94, 96, c_interval_Valid_1⟩,
  ⟨95, 97, c_dyadic_size⟩,
  ⟨96, 101, c_fpref02_trim⟩,
  ⟨97, 102, c_fpref02_zeros⟩,
  ⟨98, 103, c_fpref02_right⟩,
  ⟨99, 111, c_natural_trim⟩,
  ⟨100, 112, c_natural_Shl⟩,
  ⟨101, 95, c_fpref05_Hull⟩,
  ⟨102, 110, c_natural_Bits⟩,
  ⟨103, 114, c_natural_long⟩,
  ⟨104, 115, c_natural_done⟩,
  ⟨105, 116, c_natural_shl⟩,
  ⟨106, 108, c_fpref05_known⟩,
  ⟨107, 109, c_fpref05_Whole⟩,
  ⟨108, 113, c_math_bits_Len32⟩,
  ⟨109, 117, c_slices_ContainsFunc_uint32s⟩,
  ⟨110, 118, c_natural_long_1⟩,
  ⟨111, 119, c_slices_Clip_uint32⟩,
  ⟨112, 120, c_slices_IndexFunc_uint32s⟩]

theorem fc {p : Row → Prop} {a : Row} {l : List Row} (h : p a) (t : ∀ x ∈ l, p x) : ∀ x ∈ a :: l, p x := List.forall_mem_cons.2 ⟨h, t⟩
theorem rows_ok : ∀ r ∈ rows, RowOk tab r := (fc k3 (fc k4 (fc k5 (fc k6 (fc k7 (fc k8 (fc k9 (fc k10 (fc k11 (fc k12 (fc k13 (fc k14 (fc k15 (fc k16 (fc k17 (fc k18 (fc k19 (fc k20 (fc k21 (fc k22 (fc k23 (fc k24 (fc k25 (fc k26 (fc k27 (fc k28 (fc k29 (fc k30 (fc k31 (fc k32 (fc k33 (fc k34 (fc k35 (fc k36 (fc k37 (fc k38 (fc k39 (fc k40 (fc k41 (fc k42 (fc k43 (fc k44 (fc k45 (fc k46 (fc k47 (fc k48 (fc k49 (fc k50 (fc k51 (fc k52 (fc k53 (fc k54 (fc k55 (fc k56 (fc k57 (fc k58 (fc k59 (fc k60 (fc k61 (fc k62 (fc k63 (fc k64 (fc k65 (fc k66 (fc k67 (fc k68 (fc k69 (fc k70 (fc k71 (fc k72 (fc k73 (fc k74 (fc k75 (fc k76 (fc k77 (fc k78 (fc k79 (fc k80 (fc k81 (fc k82 (fc k83 (fc k84 (fc k85 (fc k86 (fc k87 (fc k88 (fc k89 (fc k90 (fc k91 (fc k92 (fc k93 (fc k94 (fc k95 (fc k96 (fc k97 (fc k98 (fc k99 (fc k100 (fc k101 (fc k102 (fc k103 (fc k104 (fc k105 (fc k106 (fc k107 (fc k108 (fc k109 (fc k110 (fc k111 (fc k112 (fun _ h => by cases h)))))))))))))))))))))))))))))))))))))))))))))))))))))))))))))))))))))))))))))))))))))))))))))))))))))))))))))))
theorem rs : rows.map (fun r => look fnList r.gid) = rows.map (fun r => some r.fn) := by kernel_rfl
theorem rows_same : ∀ r ∈ rows, look fnList r.gid = some r.fn := List.map_inj_left.1 rs

theorem tab_mixed : tab.P.follows .mixedOrders = true := by kernel_rfl

theorem tab_fns : ∀ fid g f, tab.gid fid = some g → prog.fn g = some f → ∃ fn C, tab.P.funcs[fid]? = some fn ∧ fn.name ≠ "runtime.NumGoroutine" ∧ fn.body = some C ∧ comp tab fn.ntmps C = some f.body ∧ cRVs tab fn.results.toList = some f.results :=
 fns_of_rows (l := gidList) rfl (fns := fnList) (S := prog) rfl rows rows_ok (by kernel_rfl) rows_same

end Go.Abs
/- The seat's program is the abstract one; its arguments read as abstract values. -/
namespace Go.Proofs.YtnlmgfdifcflgaaGreat
open Go.ChangeShapes Go.WideShapes Go.ChangeAt Go.RowKit

theorem Tryz.own : ownKnob Tryz.prog.godebug = none := by kernel_rfl
theorem Tryz.laidOut : laidOutB Tryz.prog = true := by kernel_rfl

theorem seat : Go.Abs.Seat Go.Abs.tab Go.Abs.prog := Go.Abs.seat0 Go.Abs.tab_mixed Go.Abs.tab_fns

section
variable {H : Type} {enc : TypeId × Value → H} {w : World}
theorem r_u32s : Go.Abs.Rd enc Tryz.prog w Go.Abs.tab.gid 33 (fun v => ∃ l : List Nat, v = Go.Abs.lim l ∧ Go.Abs.Li l ∧ l.length ≤ maxLen) := Go.Abs.W.rd_u32s Tryz.underlying33 Tryz.underlying84 (by kernel_rfl)
theorem r_dy : Go.Abs.Rd enc Tryz.prog w Go.Abs.tab.gid 35 (fun v => ∃ d : Go.Abs.W.Dy, v = d.v ∧ d.T) := Go.Abs.W.rd_dy Tryz.underlying35 (by kernel_rfl) Tryz.underlying4 r_u32s Tryz.underlying3 (by kernel_rfl)
theorem r_iv : Go.Abs.Rd enc Tryz.prog w Go.Abs.tab.gid 74 (fun v => ∃ x : Go.Abs.W.Iv, v = x.v ∧ x.T) := Go.Abs.W.rd_iv Tryz.underlying74 (by kernel_rfl) r_dy r_dy Tryz.underlying4 (by kernel_rfl)
theorem r_ivs : Go.Abs.Rd enc Tryz.prog w Go.Abs.tab.gid 22 (fun v => ∃ l : List Go.Abs.W.Iv, v = Go.Abs.W.ivs l ∧ Go.Abs.W.BxT l) := Go.Abs.W.rd_ivs Tryz.underlying22 (by kernel_rfl) r_iv
theorem r_sg : Go.Abs.Rd enc Tryz.prog w Go.Abs.tab.gid 48 (fun v => ∃ s : Go.Abs.W.Sg, v = s.v ∧ s.T) := Go.Abs.W.rd_sg Tryz.underlying48 (by kernel_rfl) r_dy r_dy r_ivs r_ivs (by kernel_rfl)
theorem r_sgs : Go.Abs.Rd enc Tryz.prog w Go.Abs.tab.gid 23 (fun v => ∃ l : List Go.Abs.W.Sg, v = Go.Abs.W.sgs l ∧ (∀ s ∈ l, s.T) ∧ l.length ≤ maxLen) := Go.Abs.W.rd_sgs Tryz.underlying23 (by kernel_rfl) r_sg
theorem r_pp : Go.Abs.Rd enc Tryz.prog w Go.Abs.tab.gid 25 (fun v => ∃ p : Go.Abs.W.Pp, v = p.v ∧ p.T) := Go.Abs.W.rd_pp Tryz.underlying25 (by kernel_rfl) r_ivs r_sgs (by kernel_rfl)
end

def zPp : Value := .agg #[.slice none 0 0, .slice none 0 0]

end Go.Proofs.YtnlmgfdifcflgaaGreat

