/- Parts of the proof: FpSeatB. -/
import Derived.Test.YtfioikimlnlcbaaDoorProg
import Derived.KernelRfl
import Derived.Test.YtfioikimlnlcbaaDoorGr
import Derived.Test.YtfioikimlnlcbaaDoorFa
import Derived.Test.YtfioikimlnlcbaaDoorFd
import Derived.Test.YtfioikimlnlcbaaDoorFa
namespace Go.Abs
open Go.Proofs
set_option maxRecDepth 100000
def qts : List Nat:=[0,0,0,620,621,622,623,624,625,626,627,628,629,630,631,60,632,633,634,635,636,637,552,638,639,640,70,65,641,74,23,642,643,644,645,646,647,648,649,558,559,560,561,650,651,652,653,91,12,18,85,63,654,655,656,657,658,659,660,565,566,567,568,569,570,571,661,662,663,49,54,55,56,57,101,102,103,600,664,665,666,84,86,87,605,667,0,0,0,0,0,0,0,0,0,0,0,0,0,0,0,0]
def qws : List (Nat × List V):=[]
noncomputable def tab : Tab:=⟨Tryd.prog,⟨gidOf qts,qwd qws⟩⟩
theorem k3 : RowOk tab ⟨3,620,qcr⟩:=⟨Tryd.f3,Tryd.func3,by kernel_rfl⟩
theorem k4 : RowOk tab ⟨4,621,qec⟩:=⟨Tryd.f4,Tryd.func4,by kernel_rfl⟩
theorem k5 : RowOk tab ⟨5,622,qea⟩:=⟨Tryd.f5,Tryd.func5,by kernel_rfl⟩
theorem k6 : RowOk tab ⟨6,623,qeb⟩:=⟨Tryd.f6,Tryd.func6,by kernel_rfl⟩
theorem k7 : RowOk tab ⟨7,624,qhr⟩:=⟨Tryd.f7,Tryd.func7,by kernel_rfl⟩
theorem k8 : RowOk tab ⟨8,625,qd0⟩:=⟨Tryd.f8,Tryd.func8,by kernel_rfl⟩
theorem k9 : RowOk tab ⟨9,626,qgp⟩:=⟨Tryd.f9,Tryd.func9,by kernel_rfl⟩
theorem k10 : RowOk tab ⟨10,627,qdk⟩:=⟨Tryd.f10,Tryd.func10,by kernel_rfl⟩
theorem k11 : RowOk tab ⟨11,628,qkt⟩:=⟨Tryd.f11,Tryd.func11,by kernel_rfl⟩
theorem k12 : RowOk tab ⟨12,629,qd9⟩:=⟨Tryd.f12,Tryd.func12,by kernel_rfl⟩
theorem k13 : RowOk tab ⟨13,630,qhi⟩:=⟨Tryd.f13,Tryd.func13,by kernel_rfl⟩
theorem k14 : RowOk tab ⟨14,631,qe3⟩:=⟨Tryd.f14,Tryd.func14,by kernel_rfl⟩
theorem k15 : RowOk tab ⟨15,60,qd2⟩:=⟨Tryd.f15,Tryd.func15,by kernel_rfl⟩
theorem k16 : RowOk tab ⟨16,632,qkq⟩:=⟨Tryd.f16,Tryd.func16,by kernel_rfl⟩
theorem k17 : RowOk tab ⟨17,633,qgn⟩:=⟨Tryd.f17,Tryd.func17,by kernel_rfl⟩
theorem k18 : RowOk tab ⟨18,634,qf7⟩:=⟨Tryd.f18,Tryd.func18,by kernel_rfl⟩
theorem k19 : RowOk tab ⟨19,635,qe8⟩:=⟨Tryd.f19,Tryd.func19,by kernel_rfl⟩
theorem k20 : RowOk tab ⟨20,636,qho⟩:=⟨Tryd.f20,Tryd.func20,by kernel_rfl⟩
theorem k21 : RowOk tab ⟨21,637,qhk⟩:=⟨Tryd.f21,Tryd.func21,by kernel_rfl⟩
theorem k22 : RowOk tab ⟨22,552,qc9⟩:=⟨Tryd.f22,Tryd.func22,by kernel_rfl⟩
theorem k23 : RowOk tab ⟨23,638,qhl⟩:=⟨Tryd.f23,Tryd.func23,by kernel_rfl⟩
theorem k24 : RowOk tab ⟨24,639,qiq⟩:=⟨Tryd.f24,Tryd.func24,by kernel_rfl⟩
theorem k25 : RowOk tab ⟨25,640,qhp⟩:=⟨Tryd.f25,Tryd.func25,by kernel_rfl⟩
theorem k26 : RowOk tab ⟨26,70,qd1⟩:=⟨Tryd.f26,Tryd.func26,by kernel_rfl⟩
theorem k27 : RowOk tab ⟨27,65,qdl⟩:=⟨Tryd.f27,Tryd.func27,by kernel_rfl⟩
theorem k28 : RowOk tab ⟨28,641,qhs⟩:=⟨Tryd.f28,Tryd.func28,by kernel_rfl⟩
theorem k29 : RowOk tab ⟨29,74,qfx⟩:=⟨Tryd.f29,Tryd.func29,by kernel_rfl⟩
theorem k30 : RowOk tab ⟨30,23,qd8⟩:=⟨Tryd.f30,Tryd.func30,by kernel_rfl⟩
theorem k31 : RowOk tab ⟨31,642,qf3⟩:=⟨Tryd.f31,Tryd.func31,by kernel_rfl⟩
theorem k32 : RowOk tab ⟨32,643,qbb⟩:=⟨Tryd.f32,Tryd.func32,by kernel_rfl⟩
theorem k33 : RowOk tab ⟨33,644,qfa⟩:=⟨Tryd.f33,Tryd.func33,by kernel_rfl⟩
theorem k34 : RowOk tab ⟨34,645,qhj⟩:=⟨Tryd.f34,Tryd.func34,by kernel_rfl⟩
theorem k35 : RowOk tab ⟨35,646,qin⟩:=⟨Tryd.f35,Tryd.func35,by kernel_rfl⟩
theorem k36 : RowOk tab ⟨36,647,qf5⟩:=⟨Tryd.f36,Tryd.func36,by kernel_rfl⟩
theorem k37 : RowOk tab ⟨37,648,qe9⟩:=⟨Tryd.f37,Tryd.func37,by kernel_rfl⟩
theorem k38 : RowOk tab ⟨38,649,qf0⟩:=⟨Tryd.f38,Tryd.func38,by kernel_rfl⟩
theorem k39 : RowOk tab ⟨39,558,qd3⟩:=⟨Tryd.f39,Tryd.func39,by kernel_rfl⟩
theorem k40 : RowOk tab ⟨40,559,qex⟩:=⟨Tryd.f40,Tryd.func40,by kernel_rfl⟩
theorem k41 : RowOk tab ⟨41,560,qet⟩:=⟨Tryd.f41,Tryd.func41,by kernel_rfl⟩
theorem k42 : RowOk tab ⟨42,561,qcz⟩:=⟨Tryd.f42,Tryd.func42,by kernel_rfl⟩
theorem k43 : RowOk tab ⟨43,650,qgj⟩:=⟨Tryd.f43,Tryd.func43,by kernel_rfl⟩
theorem k44 : RowOk tab ⟨44,651,qio⟩:=⟨Tryd.f44,Tryd.func44,by kernel_rfl⟩
theorem k45 : RowOk tab ⟨45,652,qks⟩:=⟨Tryd.f45,Tryd.func45,by kernel_rfl⟩
theorem k46 : RowOk tab ⟨46,653,qf4⟩:=⟨Tryd.f46,Tryd.func46,by kernel_rfl⟩
theorem k47 : RowOk tab ⟨47,91,qes⟩:=⟨Tryd.f47,Tryd.func47,by kernel_rfl⟩
theorem k48 : RowOk tab ⟨48,12,qd7⟩:=⟨Tryd.f48,Tryd.func48,by kernel_rfl⟩
theorem k49 : RowOk tab ⟨49,18,qfy⟩:=⟨Tryd.f49,Tryd.func49,by kernel_rfl⟩
theorem k50 : RowOk tab ⟨50,85,qgi⟩:=⟨Tryd.f50,Tryd.func50,by kernel_rfl⟩
theorem k51 : RowOk tab ⟨51,63,qdb⟩:=⟨Tryd.f51,Tryd.func51,by kernel_rfl⟩
theorem k52 : RowOk tab ⟨52,654,qbv⟩:=⟨Tryd.f52,Tryd.func52,by kernel_rfl⟩
theorem k53 : RowOk tab ⟨53,655,qim⟩:=⟨Tryd.f53,Tryd.func53,by kernel_rfl⟩
theorem k54 : RowOk tab ⟨54,656,qir⟩:=⟨Tryd.f54,Tryd.func54,by kernel_rfl⟩
theorem k55 : RowOk tab ⟨55,657,qgo⟩:=⟨Tryd.f55,Tryd.func55,by kernel_rfl⟩
theorem k56 : RowOk tab ⟨56,658,qgm⟩:=⟨Tryd.f56,Tryd.func56,by kernel_rfl⟩
theorem k57 : RowOk tab ⟨57,659,qib⟩:=⟨Tryd.f57,Tryd.func57,by kernel_rfl⟩
theorem k58 : RowOk tab ⟨58,660,qkr⟩:=⟨Tryd.f58,Tryd.func58,by kernel_rfl⟩
theorem k59 : RowOk tab ⟨59,565,qfs⟩:=⟨Tryd.f59,Tryd.func59,by kernel_rfl⟩
theorem k60 : RowOk tab ⟨60,566,qc4⟩:=⟨Tryd.f60,Tryd.func60,by kernel_rfl⟩
theorem k61 : RowOk tab ⟨61,567,qfr⟩:=⟨Tryd.f61,Tryd.func61,by kernel_rfl⟩
theorem k62 : RowOk tab ⟨62,568,qew⟩:=⟨Tryd.f62,Tryd.func62,by kernel_rfl⟩
theorem k63 : RowOk tab ⟨63,569,qft⟩:=⟨Tryd.f63,Tryd.func63,by kernel_rfl⟩
theorem k64 : RowOk tab ⟨64,570,qev⟩:=⟨Tryd.f64,Tryd.func64,by kernel_rfl⟩
theorem k65 : RowOk tab ⟨65,571,qeu⟩:=⟨Tryd.f65,Tryd.func65,by kernel_rfl⟩
theorem k66 : RowOk tab ⟨66,661,qip⟩:=⟨Tryd.f66,Tryd.func66,by kernel_rfl⟩
theorem k67 : RowOk tab ⟨67,662,qf6⟩:=⟨Tryd.f67,Tryd.func67,by kernel_rfl⟩
theorem k68 : RowOk tab ⟨68,663,qhq⟩:=⟨Tryd.f68,Tryd.func68,by kernel_rfl⟩
theorem k69 : RowOk tab ⟨69,49,qe1⟩:=⟨Tryd.f69,Tryd.func69,by kernel_rfl⟩
theorem k70 : RowOk tab ⟨70,54,qe2⟩:=⟨Tryd.f70,Tryd.func70,by kernel_rfl⟩
theorem k71 : RowOk tab ⟨71,55,qfu⟩:=⟨Tryd.f71,Tryd.func71,by kernel_rfl⟩
theorem k72 : RowOk tab ⟨72,56,qfv⟩:=⟨Tryd.f72,Tryd.func72,by kernel_rfl⟩
theorem k73 : RowOk tab ⟨73,57,qfw⟩:=⟨Tryd.f73,Tryd.func73,by kernel_rfl⟩
theorem k74 : RowOk tab ⟨74,101,qey⟩:=⟨Tryd.f74,Tryd.func74,by kernel_rfl⟩
theorem k75 : RowOk tab ⟨75,102,qd4⟩:=⟨Tryd.f75,Tryd.func75,by kernel_rfl⟩
theorem k76 : RowOk tab ⟨76,103,qd5⟩:=⟨Tryd.f76,Tryd.func76,by kernel_rfl⟩
theorem k77 : RowOk tab ⟨77,600,qbj⟩:=⟨Tryd.f77,Tryd.func77,by kernel_rfl⟩
theorem k78 : RowOk tab ⟨78,664,qgl⟩:=⟨Tryd.f78,Tryd.func78,by kernel_rfl⟩
theorem k79 : RowOk tab ⟨79,665,qgx⟩:=⟨Tryd.f79,Tryd.func79,by kernel_rfl⟩
theorem k80 : RowOk tab ⟨80,666,qb3⟩:=⟨Tryd.f80,Tryd.func80,by kernel_rfl⟩
theorem k81 : RowOk tab ⟨81,84,qe0⟩:=⟨Tryd.f81,Tryd.func81,by kernel_rfl⟩
theorem k82 : RowOk tab ⟨82,86,qez⟩:=⟨Tryd.f82,Tryd.func82,by kernel_rfl⟩
theorem k83 : RowOk tab ⟨83,87,qd6⟩:=⟨Tryd.f83,Tryd.func83,by kernel_rfl⟩
theorem k84 : RowOk tab ⟨84,605,qb2⟩:=⟨Tryd.f84,Tryd.func84,by kernel_rfl⟩
theorem k85 : RowOk tab ⟨85,667,qhn⟩:=⟨Tryd.f85,Tryd.func85,by kernel_rfl⟩
def rows : List Row:=
 [⟨3,620,qcr⟩,
  ⟨4,621,qec⟩,
  ⟨5,622,qea⟩,
  ⟨6,623,qeb⟩,
  ⟨7,624,qhr⟩,
  ⟨8,625,qd0⟩,
  ⟨9,626,qgp⟩,
  ⟨10,627,qdk⟩,
  ⟨11,628,qkt⟩,
  ⟨12,629,qd9⟩,
  ⟨13,630,qhi⟩,
  ⟨14,631,qe3⟩,
  ⟨15,60,qd2⟩,
  ⟨16,632,qkq⟩,
  ⟨17,633,qgn⟩,
  ⟨18,634,qf7⟩,
  ⟨19,635,qe8⟩,
  ⟨20,636,qho⟩,
  ⟨21,637,qhk⟩,
  ⟨22,552,qc9⟩,
  ⟨23,638,qhl⟩,
  ⟨24,639,qiq⟩,
  ⟨25,640,qhp⟩,
  ⟨26,70,qd1⟩,
  ⟨27,65,qdl⟩,
  ⟨28,641,qhs⟩,
  ⟨29,74,qfx⟩,
  ⟨30,23,qd8⟩,
  ⟨31,642,qf3⟩,
  ⟨32,643,qbb⟩,
  ⟨33,644,qfa⟩,
  ⟨34,645,qhj⟩,
  ⟨35,646,qin⟩,
  ⟨36,647,qf5⟩,
  ⟨37,648,qe9⟩,
  ⟨38,649,qf0⟩,
  ⟨39,558,qd3⟩,
  ⟨40,559,qex⟩,
  ⟨41,560,qet⟩,
  ⟨42,561,qcz⟩,
  ⟨43,650,qgj⟩,
  ⟨44,651,qio⟩,
  ⟨45,652,qks⟩,
  ⟨46,653,qf4⟩,
  ⟨47,91,qes⟩,
  ⟨48,12,qd7⟩,
  ⟨49,18,qfy⟩,
  ⟨50,85,qgi⟩,
  ⟨51,63,qdb⟩,
  ⟨52,654,qbv⟩,
  ⟨53,655,qim⟩,
  ⟨54,656,qir⟩,
  ⟨55,657,qgo⟩,
  ⟨56,658,qgm⟩,
  ⟨57,659,qib⟩,
  ⟨58,660,qkr⟩,
  ⟨59,565,qfs⟩,
  ⟨60,566,qc4⟩,
  ⟨61,567,qfr⟩,
  ⟨62,568,qew⟩,
  ⟨63,569,qft⟩,
  ⟨64,570,qev⟩,
  ⟨65,571,qeu⟩,
  ⟨66,661,qip⟩,
  ⟨67,662,qf6⟩,
  ⟨68,663,qhq⟩,
  ⟨69,49,qe1⟩,
  ⟨70,54,qe2⟩,
  ⟨71,55,qfu⟩,
  ⟨72,56,qfv⟩,
  ⟨73,57,qfw⟩,
  ⟨74,101,qey⟩,
  ⟨75,102,qd4⟩,
  ⟨76,103,qd5⟩,
  ⟨77,600,qbj⟩,
  ⟨78,664,qgl⟩,
  ⟨79,665,qgx⟩,
  ⟨80,666,qb3⟩,
  ⟨81,84,qe0⟩,
  ⟨82,86,qez⟩,
  ⟨83,87,qd6⟩,
  ⟨84,605,qb2⟩,
  ⟨85,667,qhn⟩]
theorem fc {p:Row->Prop}{a:Row}{l:List Row}(h:p a)(t:∀x ∈ l,p x):∀x ∈ a :: l,p x:=List.forall_mem_cons.2 ⟨h,t⟩
theorem qw0 : ∀r ∈ rows,RowOk tab r:=(fc k3 (fc k4 (fc k5 (fc k6 (fc k7 (fc k8 (fc k9 (fc k10 (fc k11 (fc k12 (fc k13 (fc k14 (fc k15 (fc k16 (fc k17 (fc k18 (fc k19 (fc k20 (fc k21 (fc k22 (fc k23 (fc k24 (fc k25 (fc k26 (fc k27 (fc k28 (fc k29 (fc k30 (fc k31 (fc k32 (fc k33 (fc k34 (fc k35 (fc k36 (fc k37 (fc k38 (fc k39 (fc k40 (fc k41 (fc k42 (fc k43 (fc k44 (fc k45 (fc k46 (fc k47 (fc k48 (fc k49 (fc k50 (fc k51 (fc k52 (fc k53 (fc k54 (fc k55 (fc k56 (fc k57 (fc k58 (fc k59 (fc k60 (fc k61 (fc k62 (fc k63 (fc k64 (fc k65 (fc k66 (fc k67 (fc k68 (fc k69 (fc k70 (fc k71 (fc k72 (fc k73 (fc k74 (fc k75 (fc k76 (fc k77 (fc k78 (fc k79 (fc k80 (fc k81 (fc k82 (fc k83 (fc k84 (fc k85 (fun _ h=>by cases h))))))))))))))))))))))))))))))))))))))))))))))))))))))))))))))))))))))))))))))))))))
theorem rs : rows.map (fun r=>look fnList r.gid)=rows.map (fun r=>some r.fn):=by kernel_rfl
theorem qs8 : ∀r ∈ rows,look fnList r.gid=some r.fn:=List.map_inj_left.1 rs
theorem qsr : tab.P.follows .mixedOrders=true:=by kernel_rfl
theorem qwr : ∀ fid g f, tab.gid fid = some g → prog.fn g = some f → ∃ fn C, tab.P.funcs[fid]? = some fn ∧ fn.name ≠ "runtime.NumGoroutine" ∧ fn.body = some C ∧ comp tab fn.ntmps C = some f.body ∧ cRVs tab fn.results.toList = some f.results :=
 qps (l:=qts) rfl (fns:=fnList) (S:=prog) rfl rows qw0 (by kernel_rfl) qs8
end Go.Abs
