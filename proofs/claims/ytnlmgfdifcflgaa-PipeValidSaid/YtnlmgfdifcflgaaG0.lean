/- Parts of the proof: FpSeatY, FpEndY0. -/
import Derived.Test.YtnlmgfdifcflgaaProg
import Derived.KernelRfl
import Derived.Test.YtnlmgfdifcflgaaRows
import Derived.Test.YtnlmgfdifcflgaaGr
import Derived.Test.YtnlmgfdifcflgaaFa
import Derived.Test.YtnlmgfdifcflgaaFc
import Derived.Test.YtnlmgfdifcflgaaFp
/- MADE BY A PROGRAM (wip/tools/mkseat.py): the functions of this seat's program are the abstract ones. -/
namespace Go.Abs
open Go.Proofs
set_option maxRecDepth 100000

def gidList : List Nat := [0, 0, 0, 2, 7, 8, 17, 11, 21, 22, 20, 23, 24, 38, 19, 39, 10, 40, 41, 42, 29, 43, 44, 9, 50, 51, 46, 52, 53, 31, 12, 18, 27, 48, 47, 61, 62, 45, 60, 63, 58, 59, 74, 75, 67, 68, 32, 76, 77, 78, 79, 80, 81, 82, 83, 70, 49, 54, 55, 56, 57, 65, 64, 88, 85, 89, 96, 97, 98, 99, 100, 91, 84, 86, 87, 101, 102, 103, 110, 111, 112, 113, 114, 115, 116, 117, 118, 119, 120, 0, 0, 0, 0, 0, 0, 0, 0, 0, 0, 0, 0, 0, 0, 0, 0]

def tabList : List (Nat × List V) := []

noncomputable def tab : Tab := ⟨Try.prog, ⟨gidOf gidList, tabsOf tabList⟩⟩

theorem k3 : RowOk tab ⟨3, 2, c_fplaw37_PipeValid⟩ := ⟨Try.f3, Try.func3, by kernel_rfl⟩
theorem k4 : RowOk tab ⟨4, 7, c_fplaw37_awake⟩ := ⟨Try.f4, Try.func4, by kernel_rfl⟩
theorem k5 : RowOk tab ⟨5, 8, c_fplaw37_great⟩ := ⟨Try.f5, Try.func5, by kernel_rfl⟩
theorem k6 : RowOk tab ⟨6, 17, c_pipe_Valid⟩ := ⟨Try.f6, Try.func6, by kernel_rfl⟩
theorem k7 : RowOk tab ⟨7, 11, c_fpref37_Valid⟩ := ⟨Try.f7, Try.func7, by kernel_rfl⟩
theorem k8 : RowOk tab ⟨8, 21, c_pipe_End⟩ := ⟨Try.f8, Try.func8, by kernel_rfl⟩
theorem k9 : RowOk tab ⟨9, 22, c_pipe_All⟩ := ⟨Try.f9, Try.func9, by kernel_rfl⟩
theorem k10 : RowOk tab ⟨10, 20, c_fpref37_Equal⟩ := ⟨Try.f10, Try.func10, by kernel_rfl⟩
theorem k11 : RowOk tab ⟨11, 23, c_fpref02_Equal⟩ := ⟨Try.f11, Try.func11, by kernel_rfl⟩
theorem k12 : RowOk tab ⟨12, 24, c_fpref37_Last⟩ := ⟨Try.f12, Try.func12, by kernel_rfl⟩
theorem k13 : RowOk tab ⟨13, 38, c_fplaw37_example⟩ := ⟨Try.f13, Try.func13, by kernel_rfl⟩
theorem k14 : RowOk tab ⟨14, 19, c_pipe_At⟩ := ⟨Try.f14, Try.func14, by kernel_rfl⟩
theorem k15 : RowOk tab ⟨15, 39, c_fplaw37_n⟩ := ⟨Try.f15, Try.func15, by kernel_rfl⟩
theorem k16 : RowOk tab ⟨16, 10, c_pipe_Cut⟩ := ⟨Try.f16, Try.func16, by kernel_rfl⟩
theorem k17 : RowOk tab ⟨17, 40, c_fplaw37_of⟩ := ⟨Try.f17, Try.func17, by kernel_rfl⟩
theorem k18 : RowOk tab ⟨18, 41, c_slices_ContainsFunc_Pipe⟩ := ⟨Try.f18, Try.func18, by kernel_rfl⟩
theorem k19 : RowOk tab ⟨19, 42, c_fplaw37_great_1⟩ := ⟨Try.f19, Try.func19, by kernel_rfl⟩
theorem k20 : RowOk tab ⟨20, 29, c_fplaw37_wide⟩ := ⟨Try.f20, Try.func20, by kernel_rfl⟩
theorem k21 : RowOk tab ⟨21, 43, c_slices_ContainsFunc_Segment⟩ := ⟨Try.f21, Try.func21, by kernel_rfl⟩
theorem k22 : RowOk tab ⟨22, 44, c_fplaw37_great_1_1⟩ := ⟨Try.f22, Try.func22, by kernel_rfl⟩
theorem k23 : RowOk tab ⟨23, 9, c_fplaw37_long⟩ := ⟨Try.f23, Try.func23, by kernel_rfl⟩
theorem k24 : RowOk tab ⟨24, 50, c_box_Valid⟩ := ⟨Try.f24, Try.func24, by kernel_rfl⟩
theorem k25 : RowOk tab ⟨25, 51, c_dyadic_Valid⟩ := ⟨Try.f25, Try.func25, by kernel_rfl⟩
theorem k26 : RowOk tab ⟨26, 46, c_pipe_less⟩ := ⟨Try.f26, Try.func26, by kernel_rfl⟩
theorem k27 : RowOk tab ⟨27, 52, c_dyadic_Cmp⟩ := ⟨Try.f27, Try.func27, by kernel_rfl⟩
theorem k28 : RowOk tab ⟨28, 53, c_box_Inside⟩ := ⟨Try.f28, Try.func28, by kernel_rfl⟩
theorem k29 : RowOk tab ⟨29, 31, c_fpref37_Box⟩ := ⟨Try.f29, Try.func29, by kernel_rfl⟩
theorem k30 : RowOk tab ⟨30, 12, c_fpref02_Valid⟩ := ⟨Try.f30, Try.func30, by kernel_rfl⟩
theorem k31 : RowOk tab ⟨31, 18, c_fpref02_Cmp⟩ := ⟨Try.f31, Try.func31, by kernel_rfl⟩
theorem k32 : RowOk tab ⟨32, 27, c_fpref37_Inside⟩ := ⟨Try.f32, Try.func32, by kernel_rfl⟩
theorem k33 : RowOk tab ⟨33, 48, c_fpref37_Before⟩ := ⟨Try.f33, Try.func33, by kernel_rfl⟩
theorem k34 : RowOk tab ⟨34, 47, c_slices_Clone_Interval⟩ := ⟨Try.f34, Try.func34, by kernel_rfl⟩
theorem k35 : RowOk tab ⟨35, 61, c_pipe_last⟩ := ⟨Try.f35, Try.func35, by kernel_rfl⟩
theorem k36 : RowOk tab ⟨36, 62, c_pipe_All_1⟩ := ⟨Try.f36, Try.func36, by kernel_rfl⟩
theorem k37 : RowOk tab ⟨37, 45, c_pipe_copied⟩ := ⟨Try.f37, Try.func37, by kernel_rfl⟩
theorem k38 : RowOk tab ⟨38, 60, c_fpref05_Equal⟩ := ⟨Try.f38, Try.func38, by kernel_rfl⟩
theorem k39 : RowOk tab ⟨39, 63, c_fpref02_compare⟩ := ⟨Try.f39, Try.func39, by kernel_rfl⟩
theorem k40 : RowOk tab ⟨40, 58, c_pipe_during⟩ := ⟨Try.f40, Try.func40, by kernel_rfl⟩
theorem k41 : RowOk tab ⟨41, 59, c_pipe_at⟩ := ⟨Try.f41, Try.func41, by kernel_rfl⟩
theorem k42 : RowOk tab ⟨42, 74, c_fpref02_Int⟩ := ⟨Try.f42, Try.func42, by kernel_rfl⟩
theorem k43 : RowOk tab ⟨43, 75, c_slices_IndexFunc_Pipe⟩ := ⟨Try.f43, Try.func43, by kernel_rfl⟩
theorem k44 : RowOk tab ⟨44, 67, c_slices_ContainsFunc_Interval⟩ := ⟨Try.f44, Try.func44, by kernel_rfl⟩
theorem k45 : RowOk tab ⟨45, 68, c_fplaw37_wide_1⟩ := ⟨Try.f45, Try.func45, by kernel_rfl⟩
theorem k46 : RowOk tab ⟨46, 32, c_slices_IndexFunc_Segment⟩ := ⟨Try.f46, Try.func46, by kernel_rfl⟩
theorem k47 : RowOk tab ⟨47, 76, c_box_Valid_1⟩ := ⟨Try.f47, Try.func47, by kernel_rfl⟩
theorem k48 : RowOk tab ⟨48, 77, c_interval_Valid⟩ := ⟨Try.f48, Try.func48, by kernel_rfl⟩
theorem k49 : RowOk tab ⟨49, 78, c_dyadic_inRange⟩ := ⟨Try.f49, Try.func49, by kernel_rfl⟩
theorem k50 : RowOk tab ⟨50, 79, c_dyadic_Sign⟩ := ⟨Try.f50, Try.func50, by kernel_rfl⟩
theorem k51 : RowOk tab ⟨51, 80, c_dyadic_compare⟩ := ⟨Try.f51, Try.func51, by kernel_rfl⟩
theorem k52 : RowOk tab ⟨52, 81, c_box_two⟩ := ⟨Try.f52, Try.func52, by kernel_rfl⟩
theorem k53 : RowOk tab ⟨53, 82, c_slices_EqualFunc_Interval⟩ := ⟨Try.f53, Try.func53, by kernel_rfl⟩
theorem k54 : RowOk tab ⟨54, 83, c_interval_Inside⟩ := ⟨Try.f54, Try.func54, by kernel_rfl⟩
theorem k55 : RowOk tab ⟨55, 70, c_fpref05_Valid⟩ := ⟨Try.f55, Try.func55, by kernel_rfl⟩
theorem k56 : RowOk tab ⟨56, 49, c_fpref02_bits⟩ := ⟨Try.f56, Try.func56, by kernel_rfl⟩
theorem k57 : RowOk tab ⟨57, 54, c_fpref02_Sign⟩ := ⟨Try.f57, Try.func57, by kernel_rfl⟩
theorem k58 : RowOk tab ⟨58, 55, c_fpref02_Top⟩ := ⟨Try.f58, Try.func58, by kernel_rfl⟩
theorem k59 : RowOk tab ⟨59, 56, c_fpref02_Sum⟩ := ⟨Try.f59, Try.func59, by kernel_rfl⟩
theorem k60 : RowOk tab ⟨60, 57, c_fpref02_Neg⟩ := ⟨Try.f60, Try.func60, by kernel_rfl⟩
theorem k61 : RowOk tab ⟨61, 65, c_fpref05_Inside⟩ := ⟨Try.f61, Try.func61, by kernel_rfl⟩
theorem k62 : RowOk tab ⟨62, 64, c_pipe_begin⟩ := ⟨Try.f62, Try.func62, by kernel_rfl⟩
theorem k63 : RowOk tab ⟨63, 88, c_pipe_at_1⟩ := ⟨Try.f63, Try.func63, by kernel_rfl⟩
theorem k64 : RowOk tab ⟨64, 85, c_fpref02_Of⟩ := ⟨Try.f64, Try.func64, by kernel_rfl⟩
theorem k65 : RowOk tab ⟨65, 89, c_slices_IndexFunc_Interval⟩ := ⟨Try.f65, Try.func65, by kernel_rfl⟩
theorem k66 : RowOk tab ⟨66, 96, c_interval_Valid_1⟩ := ⟨Try.f66, Try.func66, by kernel_rfl⟩
theorem k67 : RowOk tab ⟨67, 97, c_dyadic_size⟩ := ⟨Try.f67, Try.func67, by kernel_rfl⟩
theorem k68 : RowOk tab ⟨68, 98, c_dyadic_Top⟩ := ⟨Try.f68, Try.func68, by kernel_rfl⟩
theorem k69 : RowOk tab ⟨69, 99, c_natural_Cmp⟩ := ⟨Try.f69, Try.func69, by kernel_rfl⟩
theorem k70 : RowOk tab ⟨70, 100, c_dyadic_shifted⟩ := ⟨Try.f70, Try.func70, by kernel_rfl⟩
theorem k71 : RowOk tab ⟨71, 91, c_fpref05_zero⟩ := ⟨Try.f71, Try.func71, by kernel_rfl⟩
theorem k72 : RowOk tab ⟨72, 84, c_fpref02_left⟩ := ⟨Try.f72, Try.func72, by kernel_rfl⟩
theorem k73 : RowOk tab ⟨73, 86, c_fpref02_plus⟩ := ⟨Try.f73, Try.func73, by kernel_rfl⟩
theorem k74 : RowOk tab ⟨74, 87, c_fpref02_minus⟩ := ⟨Try.f74, Try.func74, by kernel_rfl⟩
theorem k75 : RowOk tab ⟨75, 101, c_fpref02_trim⟩ := ⟨Try.f75, Try.func75, by kernel_rfl⟩
theorem k76 : RowOk tab ⟨76, 102, c_fpref02_zeros⟩ := ⟨Try.f76, Try.func76, by kernel_rfl⟩
theorem k77 : RowOk tab ⟨77, 103, c_fpref02_right⟩ := ⟨Try.f77, Try.func77, by kernel_rfl⟩
theorem k78 : RowOk tab ⟨78, 110, c_natural_Bits⟩ := ⟨Try.f78, Try.func78, by kernel_rfl⟩
theorem k79 : RowOk tab ⟨79, 111, c_natural_trim⟩ := ⟨Try.f79, Try.func79, by kernel_rfl⟩
theorem k80 : RowOk tab ⟨80, 112, c_natural_Shl⟩ := ⟨Try.f80, Try.func80, by kernel_rfl⟩
theorem k81 : RowOk tab ⟨81, 113, c_math_bits_Len32⟩ := ⟨Try.f81, Try.func81, by kernel_rfl⟩
theorem k82 : RowOk tab ⟨82, 114, c_natural_long⟩ := ⟨Try.f82, Try.func82, by kernel_rfl⟩
theorem k83 : RowOk tab ⟨83, 115, c_natural_done⟩ := ⟨Try.f83, Try.func83, by kernel_rfl⟩
theorem k84 : RowOk tab ⟨84, 116, c_natural_shl⟩ := ⟨Try.f84, Try.func84, by kernel_rfl⟩
theorem k85 : RowOk tab ⟨85, 117, c_slices_ContainsFunc_uint32s⟩ := ⟨Try.f85, Try.func85, by kernel_rfl⟩
theorem k86 : RowOk tab ⟨86, 118, c_natural_long_1⟩ := ⟨Try.f86, Try.func86, by kernel_rfl⟩
theorem k87 : RowOk tab ⟨87, 119, c_slices_Clip_uint32⟩ := ⟨Try.f87, Try.func87, by kernel_rfl⟩
theorem k88 : RowOk tab ⟨88, 120, c_slices_IndexFunc_uint32s⟩ := ⟨Try.f88, Try.func88, by kernel_rfl⟩

def rows : List Row :=
 [⟨3, 2, c_fplaw37_PipeValid⟩,
  ⟨4, 7, c_fplaw37_awake⟩,
  ⟨5, 8, c_fplaw37_great⟩,
  ⟨6, 17, c_pipe_Valid⟩,
  ⟨7, 11, c_fpref37_Valid⟩,
  ⟨8, 21, c_pipe_End⟩,
  ⟨9, 22, c_pipe_All⟩,
  ⟨10, 20, c_fpref37_Equal⟩,
  ⟨11, 23, c_fpref02_Equal⟩,
  ⟨12, 24, c_fpref37_Last⟩,
  ⟨13, 38, c_fplaw37_example⟩,
  ⟨14, 19, c_pipe_At⟩,
  ⟨15, 39, c_fplaw37_n⟩,
  ⟨16, 10, c_pipe_Cut⟩,
  ⟨17, 40, c_fplaw37_of⟩,
  ⟨18, 41, c_slices_ContainsFunc_Pipe⟩,
  ⟨19, 42, c_fplaw37_great_1⟩,
  ⟨20, 29, c_fplaw37_wide⟩,
  ⟨21, 43, c_slices_ContainsFunc_Segment⟩,
  ⟨22, 44, c_fplaw37_great_1_1⟩,
  ⟨23, 9, c_fplaw37_long⟩,
  ⟨24, 50, c_box_Valid⟩,
  ⟨25, 51, c_dyadic_Valid⟩,
  ⟨26, 46, c_pipe_less⟩,
  ⟨27, 52, c_dyadic_Cmp⟩,
  ⟨28, 53, c_box_Inside⟩,
  ⟨29, 31, c_fpref37_Box⟩,
  ⟨30, 12, c_fpref02_Valid⟩,
  ⟨31, 18, c_fpref02_Cmp⟩,
  ⟨32, 27, c_fpref37_Inside⟩,
  ⟨33, 48, c_fpref37_Before⟩,
  ⟨34, 47, c_slices_Clone_Interval⟩,
  ⟨35, 61, c_pipe_last⟩,
  ⟨36, 62, c_pipe_All_1⟩,
  ⟨37, 45, c_pipe_copied⟩,
  ⟨38, 60, c_fpref05_Equal⟩,
  ⟨39, 63, c_fpref02_compare⟩,
  ⟨40, 58, c_pipe_during⟩,
  ⟨41, 59, c_pipe_at⟩,
  ⟨42, 74, c_fpref02_Int⟩,
  ⟨43, 75, c_slices_IndexFunc_Pipe⟩,
  ⟨44, 67, c_slices_ContainsFunc_Interval⟩,
  ⟨45, 68, c_fplaw37_wide_1⟩,
  ⟨46, 32, c_slices_IndexFunc_Segment⟩,
  ⟨47, 76, c_box_Valid_1⟩,
  ⟨48, 77, c_interval_Valid⟩,
  ⟨49, 78, c_dyadic_inRange⟩,
  ⟨50, 79, c_dyadic_Sign⟩,
  ⟨51, 80, c_dyadic_compare⟩,
  ⟨52, 81, c_box_two⟩,
  ⟨53, 82, c_slices_EqualFunc_Interval⟩,
  ⟨54, 83, c_interval_Inside⟩,
  ⟨55, 70, c_fpref05_Valid⟩,
  ⟨56, 49, c_fpref02_bits⟩,
  ⟨57, 54, c_fpref02_Sign⟩,
  ⟨58, 55, c_fpref02_Top⟩,
  ⟨59, 56, c_fpref02_Sum⟩,
  ⟨60, 57, c_fpref02_Neg⟩,
  ⟨61, 65, c_fpref05_Inside⟩,
  ⟨62, 64, c_pipe_begin⟩,
  ⟨63, 88, c_pipe_at_1⟩,
  ⟨64, 85, c_fpref02_Of⟩,
  ⟨65, 89, c_slices_IndexFunc_Interval⟩,
  ⟨66, 96, c_interval_Valid_1⟩,
  ⟨67, 97, c_dyadic_size⟩,
  ⟨68, 98, c_dyadic_Top⟩,
  ⟨69, 99, c_natural_Cmp⟩,
  ⟨70, 100, c_dyadic_shifted⟩,
  ⟨71, 91, c_fpref05_zero⟩,
  ⟨72, 84, c_fpref02_left⟩,
  ⟨73, 86, c_fpref02_plus⟩,
  ⟨74, 87, c_fpref02_minus⟩,
  ⟨75, 101, c_fpref02_trim⟩,
  ⟨76, 102, c_fpref02_zeros⟩,
  ⟨77, 103, c_fpref02_right⟩,
  ⟨78, 110, c_natural_Bits⟩,
  ⟨79, 111, c_natural_trim⟩,
  ⟨80, 112, c_natural_Shl⟩,
  ⟨81, 113, c_math_bits_Len32⟩,
  ⟨82, 114, c_natural_long⟩,
  ⟨83, 115, c_natural_done⟩,
  ⟨84, 116, c_natural_shl⟩,
  ⟨85, 117, c_slices_ContainsFunc_uint32s⟩,
  ⟨86, 118, c_natural_long_1⟩,
  ⟨87, 119, c_slices_Clip_uint32⟩,
  ⟨88, 120, c_slices_IndexFunc_uint32s⟩]

theorem fc {p : Row → Prop} {a : Row} {l : List Row} (h : p a) (t : ∀ x ∈ l, p x) : ∀ x ∈ a :: l, p x := List.forall_mem_cons.2 ⟨h, t⟩
theorem rows_ok : ∀ r ∈ rows, RowOk tab r := (fc k3 (fc k4 (fc k5 (fc k6 (fc k7 (fc k8 (fc k9 (fc k10 (fc k11 (fc k12 (fc k13 (fc k14 (fc k15 (fc k16 (fc k17 (fc k18 (fc k19 (fc k20 (fc k21 (fc k22 (fc k23 (fc k24 (fc k25 (fc k26 (fc k27 (fc k28 (fc k29 (fc k30 (fc k31 (fc k32 (fc k33 (fc k34 (fc k35 (fc k36 (fc k37 (fc k38 (fc k39 (fc k40 (fc k41 (fc k42 (fc k43 (fc k44 (fc k45 (fc k46 (fc k47 (fc k48 (fc k49 (fc k50 (fc k51 (fc k52 (fc k53 (fc k54 (fc k55 (fc k56 (fc k57 (fc k58 (fc k59 (fc k60 (fc k61 (fc k62 (fc k63 (fc k64 (fc k65 (fc k66 (fc k67 (fc k68 (fc k69 (fc k70 (fc k71 (fc k72 (fc k73 (fc k74 (fc k75 (fc k76 (fc k77 (fc k78 (fc k79 (fc k80 (fc k81 (fc k82 (fc k83 (fc k84 (fc k85 (fc k86 (fc k87 (fc k88 (fun _ h => by cases h)))))))))))))))))))))))))))))))))))))))))))))))))))))))))))))))))))))))))))))))))))))))
theorem rs : rows.map (fun r => look fnList r.gid) = rows.map (fun r => some r.fn) := by kernel_rfl
theorem rows_same : ∀ r ∈ rows, look fnList r.gid = some r.fn := List.map_inj_left.1 rs

theorem tab_mixed : tab.P.follows .mixedOrders = true := by kernel_rfl

theorem tab_fns : ∀ fid g f, tab.gid fid = some g → prog.fn g = some f → ∃ fn C, tab.P.funcs[fid]? = some fn ∧ fn.name ≠ "runtime.NumGoroutine" ∧ fn.body = some C ∧ comp tab fn.ntmps C = some f.body ∧ cRVs tab fn.results.toList = some f.results :=
 fns_of_rows (l := gidList) rfl (fns := fnList) (S := prog) rfl rows rows_ok (by kernel_rfl) rows_same

end Go.Abs
/- The seat's program is the abstract one; its arguments read as abstract values. -/
namespace Go.Proofs.Ytnlmgfdifcflgaa
open Go.ChangeShapes Go.WideShapes Go.ChangeAt Go.RowKit

theorem Try.own : ownKnob Try.prog.godebug = none := by kernel_rfl
theorem Try.laidOut : laidOutB Try.prog = true := by kernel_rfl

theorem seat : Go.Abs.Seat Go.Abs.tab Go.Abs.prog := Go.Abs.seat0 Go.Abs.tab_mixed Go.Abs.tab_fns

section
variable {H : Type} {enc : TypeId × Value → H} {w : World}
theorem r_u32s : Go.Abs.Rd enc Try.prog w Go.Abs.tab.gid 29 (fun v => ∃ l : List Nat, v = Go.Abs.lim l ∧ Go.Abs.Li l ∧ l.length ≤ maxLen) := Go.Abs.W.rd_u32s Try.underlying29 Try.underlying73 (by kernel_rfl)
theorem r_dy : Go.Abs.Rd enc Try.prog w Go.Abs.tab.gid 31 (fun v => ∃ d : Go.Abs.W.Dy, v = d.v ∧ d.T) := Go.Abs.W.rd_dy Try.underlying31 (by kernel_rfl) Try.underlying4 r_u32s Try.underlying3 (by kernel_rfl)
theorem r_iv : Go.Abs.Rd enc Try.prog w Go.Abs.tab.gid 61 (fun v => ∃ x : Go.Abs.W.Iv, v = x.v ∧ x.T) := Go.Abs.W.rd_iv Try.underlying61 (by kernel_rfl) r_dy r_dy Try.underlying4 (by kernel_rfl)
theorem r_ivs : Go.Abs.Rd enc Try.prog w Go.Abs.tab.gid 22 (fun v => ∃ l : List Go.Abs.W.Iv, v = Go.Abs.W.ivs l ∧ Go.Abs.W.BxT l) := Go.Abs.W.rd_ivs Try.underlying22 (by kernel_rfl) r_iv
theorem r_sg : Go.Abs.Rd enc Try.prog w Go.Abs.tab.gid 39 (fun v => ∃ s : Go.Abs.W.Sg, v = s.v ∧ s.T) := Go.Abs.W.rd_sg Try.underlying39 (by kernel_rfl) r_dy r_dy r_ivs r_ivs (by kernel_rfl)
theorem r_sgs : Go.Abs.Rd enc Try.prog w Go.Abs.tab.gid 23 (fun v => ∃ l : List Go.Abs.W.Sg, v = Go.Abs.W.sgs l ∧ (∀ s ∈ l, s.T) ∧ l.length ≤ maxLen) := Go.Abs.W.rd_sgs Try.underlying23 (by kernel_rfl) r_sg
theorem r_pp : Go.Abs.Rd enc Try.prog w Go.Abs.tab.gid 25 (fun v => ∃ p : Go.Abs.W.Pp, v = p.v ∧ p.T) := Go.Abs.W.rd_pp Try.underlying25 (by kernel_rfl) r_ivs r_sgs (by kernel_rfl)
theorem r_u8 : Go.Abs.Rd enc Try.prog w Go.Abs.tab.gid 5 (fun v => ∃ n, v = .int .u8 n ∧ IntKind.u8.min ≤ n ∧ n ≤ IntKind.u8.max) := Go.Abs.rd_int Try.underlying5
end

def zPp : Value := .agg #[.slice none 0 0, .slice none 0 0]

end Go.Proofs.Ytnlmgfdifcflgaa

