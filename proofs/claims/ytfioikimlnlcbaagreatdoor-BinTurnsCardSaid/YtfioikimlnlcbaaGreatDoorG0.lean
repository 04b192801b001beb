/- Parts of the proof: FpSeatBZ, FpEndZ0. -/
import Derived.Test.YtfioikimlnlcbaaGreatDoorProg
import Derived.KernelRfl
import Derived.Test.YtfioikimlnlcbaaGreatDoorCards
import Derived.Test.YtfioikimlnlcbaaGreatDoorTie
import Derived.WalkKit
import Derived.ProofKit
import Derived.OpenShut
import Derived.Deep.DeepHandedRow
import Derived.Lib.LaidTab
import Derived.Test.YtfioikimlnlcbaaGreatDoorGr
import Derived.Test.YtfioikimlnlcbaaGreatDoorFa
import Derived.Test.YtfioikimlnlcbaaGreatDoorFd
import Derived.Test.YtfioikimlnlcbaaGreatDoorFa
namespace Go.Abs
open Go.Proofs
set_option maxRecDepth 100000
def q89 : List Nat:=[0,0,0,668,621,622,669,670,140,158,463,629,630,83,671,672,133,628,623,631,70,195,174,410,436,106,186,107,190,191,192,204,189,480,481,482,74,77,52,633,673,674,675,676,636,637,51,641,635,60,91,12,18,108,54,182,217,223,224,225,493,494,495,265,199,200,496,85,96,79,80,639,642,643,644,645,677,678,640,679,653,649,78,646,647,648,23,49,55,56,57,214,184,235,238,237,244,245,246,119,221,112,257,99,258,222,506,507,508,101,102,103,98,100,638,651,654,655,656,657,680,652,681,682,683,684,659,660,97,658,63,84,86,87,255,114,115,259,111,254,198,261,262,116,264,266,243,514,240,511,650,600,664,685,686,661,662,663,687,688,110,665,117,118,241,256,271,272,260,210,605,689,666,667,113,120,267,268,269,270,273,274,0,0,0,0,0,0,0,0,0,0,0,0,0,0,0,0,0,0,0,0,0]
def q01 : List (Nat × List V):=[(1,[.int .u8 0,.int .u8 1,.int .u8 28,.int .u8 2,.int .u8 29,.int .u8 14,.int .u8 24,.int .u8 3,.int .u8 30,.int .u8 22,.int .u8 20,.int .u8 15,.int .u8 25,.int .u8 17,.int .u8 4,.int .u8 8,.int .u8 31,.int .u8 27,.int .u8 13,.int .u8 23,.int .u8 21,.int .u8 19,.int .u8 16,.int .u8 7,.int .u8 26,.int .u8 12,.int .u8 18,.int .u8 6,.int .u8 11,.int .u8 5,.int .u8 10,.int .u8 9])]
noncomputable def tab : Tab:=⟨Tryz.prog,⟨gidOf q89,qx0 q01⟩⟩
theorem k3 : RowOk tab ⟨3,668,qe0⟩:=⟨Tryz.f3,Tryz.func3,by kernel_rfl⟩
theorem k4 : RowOk tab ⟨4,621,qhy⟩:=⟨Tryz.f4,Tryz.func4,by kernel_rfl⟩
theorem k5 : RowOk tab ⟨5,622,qhw⟩:=⟨Tryz.f5,Tryz.func5,by kernel_rfl⟩
theorem k6 : RowOk tab ⟨6,669,qew⟩:=⟨Tryz.f6,Tryz.func6,by kernel_rfl⟩
theorem k7 : RowOk tab ⟨7,670,qex⟩:=⟨Tryz.f7,Tryz.func7,by kernel_rfl⟩
theorem k8 : RowOk tab ⟨8,140,qit⟩:=⟨Tryz.f8,Tryz.func8,by kernel_rfl⟩
theorem k9 : RowOk tab ⟨9,158,qgd⟩:=⟨Tryz.f9,Tryz.func9,by kernel_rfl⟩
theorem k10 : RowOk tab ⟨10,463,qnj⟩:=⟨Tryz.f10,Tryz.func10,by kernel_rfl⟩
theorem k11 : RowOk tab ⟨11,629,qhv⟩:=⟨Tryz.f11,Tryz.func11,by kernel_rfl⟩
theorem k12 : RowOk tab ⟨12,630,qnh⟩:=⟨Tryz.f12,Tryz.func12,by kernel_rfl⟩
theorem k13 : RowOk tab ⟨13,83,qfg⟩:=⟨Tryz.f13,Tryz.func13,by kernel_rfl⟩
theorem k14 : RowOk tab ⟨14,671,qtg⟩:=⟨Tryz.f14,Tryz.func14,by kernel_rfl⟩
theorem k15 : RowOk tab ⟨15,672,qti⟩:=⟨Tryz.f15,Tryz.func15,by kernel_rfl⟩
theorem k16 : RowOk tab ⟨16,133,qiu⟩:=⟨Tryz.f16,Tryz.func16,by kernel_rfl⟩
theorem k17 : RowOk tab ⟨17,628,qth⟩:=⟨Tryz.f17,Tryz.func17,by kernel_rfl⟩
theorem k18 : RowOk tab ⟨18,623,qhx⟩:=⟨Tryz.f18,Tryz.func18,by kernel_rfl⟩
theorem k19 : RowOk tab ⟨19,631,qi3⟩:=⟨Tryz.f19,Tryz.func19,by kernel_rfl⟩
theorem k20 : RowOk tab ⟨20,70,qhn⟩:=⟨Tryz.f20,Tryz.func20,by kernel_rfl⟩
theorem k21 : RowOk tab ⟨21,195,qix⟩:=⟨Tryz.f21,Tryz.func21,by kernel_rfl⟩
theorem k22 : RowOk tab ⟨22,174,qiw⟩:=⟨Tryz.f22,Tryz.func22,by kernel_rfl⟩
theorem k23 : RowOk tab ⟨23,410,qgf⟩:=⟨Tryz.f23,Tryz.func23,by kernel_rfl⟩
theorem k24 : RowOk tab ⟨24,436,qge⟩:=⟨Tryz.f24,Tryz.func24,by kernel_rfl⟩
theorem k25 : RowOk tab ⟨25,106,qga⟩:=⟨Tryz.f25,Tryz.func25,by kernel_rfl⟩
theorem k26 : RowOk tab ⟨26,186,qdq⟩:=⟨Tryz.f26,Tryz.func26,by kernel_rfl⟩
theorem k27 : RowOk tab ⟨27,107,qgb⟩:=⟨Tryz.f27,Tryz.func27,by kernel_rfl⟩
theorem k28 : RowOk tab ⟨28,190,qhl⟩:=⟨Tryz.f28,Tryz.func28,by kernel_rfl⟩
theorem k29 : RowOk tab ⟨29,191,qhf⟩:=⟨Tryz.f29,Tryz.func29,by kernel_rfl⟩
theorem k30 : RowOk tab ⟨30,192,qj4⟩:=⟨Tryz.f30,Tryz.func30,by kernel_rfl⟩
theorem k31 : RowOk tab ⟨31,204,qi5⟩:=⟨Tryz.f31,Tryz.func31,by kernel_rfl⟩
theorem k32 : RowOk tab ⟨32,189,qhk⟩:=⟨Tryz.f32,Tryz.func32,by kernel_rfl⟩
theorem k33 : RowOk tab ⟨33,480,qgl⟩:=⟨Tryz.f33,Tryz.func33,by kernel_rfl⟩
theorem k34 : RowOk tab ⟨34,481,qkm⟩:=⟨Tryz.f34,Tryz.func34,by kernel_rfl⟩
theorem k35 : RowOk tab ⟨35,482,qni⟩:=⟨Tryz.f35,Tryz.func35,by kernel_rfl⟩
theorem k36 : RowOk tab ⟨36,74,qkh⟩:=⟨Tryz.f36,Tryz.func36,by kernel_rfl⟩
theorem k37 : RowOk tab ⟨37,77,qgc⟩:=⟨Tryz.f37,Tryz.func37,by kernel_rfl⟩
theorem k38 : RowOk tab ⟨38,52,qln⟩:=⟨Tryz.f38,Tryz.func38,by kernel_rfl⟩
theorem k39 : RowOk tab ⟨39,633,qly⟩:=⟨Tryz.f39,Tryz.func39,by kernel_rfl⟩
theorem k40 : RowOk tab ⟨40,673,qnv⟩:=⟨Tryz.f40,Tryz.func40,by kernel_rfl⟩
theorem k41 : RowOk tab ⟨41,674,qpy⟩:=⟨Tryz.f41,Tryz.func41,by kernel_rfl⟩
theorem k42 : RowOk tab ⟨42,675,qnm⟩:=⟨Tryz.f42,Tryz.func42,by kernel_rfl⟩
theorem k43 : RowOk tab ⟨43,676,qnx⟩:=⟨Tryz.f43,Tryz.func43,by kernel_rfl⟩
theorem k44 : RowOk tab ⟨44,636,qnr⟩:=⟨Tryz.f44,Tryz.func44,by kernel_rfl⟩
theorem k45 : RowOk tab ⟨45,637,qnl⟩:=⟨Tryz.f45,Tryz.func45,by kernel_rfl⟩
theorem k46 : RowOk tab ⟨46,51,qi4⟩:=⟨Tryz.f46,Tryz.func46,by kernel_rfl⟩
theorem k47 : RowOk tab ⟨47,641,qnw⟩:=⟨Tryz.f47,Tryz.func47,by kernel_rfl⟩
theorem k48 : RowOk tab ⟨48,635,qi9⟩:=⟨Tryz.f48,Tryz.func48,by kernel_rfl⟩
theorem k49 : RowOk tab ⟨49,60,qho⟩:=⟨Tryz.f49,Tryz.func49,by kernel_rfl⟩
theorem k50 : RowOk tab ⟨50,91,qiv⟩:=⟨Tryz.f50,Tryz.func50,by kernel_rfl⟩
theorem k51 : RowOk tab ⟨51,12,qhs⟩:=⟨Tryz.f51,Tryz.func51,by kernel_rfl⟩
theorem k52 : RowOk tab ⟨52,18,qki⟩:=⟨Tryz.f52,Tryz.func52,by kernel_rfl⟩
theorem k53 : RowOk tab ⟨53,108,qhm⟩:=⟨Tryz.f53,Tryz.func53,by kernel_rfl⟩
theorem k54 : RowOk tab ⟨54,54,qi2⟩:=⟨Tryz.f54,Tryz.func54,by kernel_rfl⟩
theorem k55 : RowOk tab ⟨55,182,qht⟩:=⟨Tryz.f55,Tryz.func55,by kernel_rfl⟩
theorem k56 : RowOk tab ⟨56,217,qng⟩:=⟨Tryz.f56,Tryz.func56,by kernel_rfl⟩
theorem k57 : RowOk tab ⟨57,223,qfl⟩:=⟨Tryz.f57,Tryz.func57,by kernel_rfl⟩
theorem k58 : RowOk tab ⟨58,224,qgk⟩:=⟨Tryz.f58,Tryz.func58,by kernel_rfl⟩
theorem k59 : RowOk tab ⟨59,225,qe1⟩:=⟨Tryz.f59,Tryz.func59,by kernel_rfl⟩
theorem k60 : RowOk tab ⟨60,493,qkn⟩:=⟨Tryz.f60,Tryz.func60,by kernel_rfl⟩
theorem k61 : RowOk tab ⟨61,494,qe7⟩:=⟨Tryz.f61,Tryz.func61,by kernel_rfl⟩
theorem k62 : RowOk tab ⟨62,495,qds⟩:=⟨Tryz.f62,Tryz.func62,by kernel_rfl⟩
theorem k63 : RowOk tab ⟨63,265,qkl⟩:=⟨Tryz.f63,Tryz.func63,by kernel_rfl⟩
theorem k64 : RowOk tab ⟨64,199,qlh⟩:=⟨Tryz.f64,Tryz.func64,by kernel_rfl⟩
theorem k65 : RowOk tab ⟨65,200,qpx⟩:=⟨Tryz.f65,Tryz.func65,by kernel_rfl⟩
theorem k66 : RowOk tab ⟨66,496,qgm⟩:=⟨Tryz.f66,Tryz.func66,by kernel_rfl⟩
theorem k67 : RowOk tab ⟨67,85,qli⟩:=⟨Tryz.f67,Tryz.func67,by kernel_rfl⟩
theorem k68 : RowOk tab ⟨68,96,qev⟩:=⟨Tryz.f68,Tryz.func68,by kernel_rfl⟩
theorem k69 : RowOk tab ⟨69,79,qkk⟩:=⟨Tryz.f69,Tryz.func69,by kernel_rfl⟩
theorem k70 : RowOk tab ⟨70,80,qgj⟩:=⟨Tryz.f70,Tryz.func70,by kernel_rfl⟩
theorem k71 : RowOk tab ⟨71,639,qp5⟩:=⟨Tryz.f71,Tryz.func71,by kernel_rfl⟩
theorem k72 : RowOk tab ⟨72,642,qkt⟩:=⟨Tryz.f72,Tryz.func72,by kernel_rfl⟩
theorem k73 : RowOk tab ⟨73,643,qbz⟩:=⟨Tryz.f73,Tryz.func73,by kernel_rfl⟩
theorem k74 : RowOk tab ⟨74,644,qjc⟩:=⟨Tryz.f74,Tryz.func74,by kernel_rfl⟩
theorem k75 : RowOk tab ⟨75,645,qnk⟩:=⟨Tryz.f75,Tryz.func75,by kernel_rfl⟩
theorem k76 : RowOk tab ⟨76,677,qtb⟩:=⟨Tryz.f76,Tryz.func76,by kernel_rfl⟩
theorem k77 : RowOk tab ⟨77,678,qpz⟩:=⟨Tryz.f77,Tryz.func77,by kernel_rfl⟩
theorem k78 : RowOk tab ⟨78,640,qns⟩:=⟨Tryz.f78,Tryz.func78,by kernel_rfl⟩
theorem k79 : RowOk tab ⟨79,679,qnu⟩:=⟨Tryz.f79,Tryz.func79,by kernel_rfl⟩
theorem k80 : RowOk tab ⟨80,653,qku⟩:=⟨Tryz.f80,Tryz.func80,by kernel_rfl⟩
theorem k81 : RowOk tab ⟨81,649,qkp⟩:=⟨Tryz.f81,Tryz.func81,by kernel_rfl⟩
theorem k82 : RowOk tab ⟨82,78,qgi⟩:=⟨Tryz.f82,Tryz.func82,by kernel_rfl⟩
theorem k83 : RowOk tab ⟨83,646,qp1⟩:=⟨Tryz.f83,Tryz.func83,by kernel_rfl⟩
theorem k84 : RowOk tab ⟨84,647,qkv⟩:=⟨Tryz.f84,Tryz.func84,by kernel_rfl⟩
theorem k85 : RowOk tab ⟨85,648,qjb⟩:=⟨Tryz.f85,Tryz.func85,by kernel_rfl⟩
theorem k86 : RowOk tab ⟨86,23,qhu⟩:=⟨Tryz.f86,Tryz.func86,by kernel_rfl⟩
theorem k87 : RowOk tab ⟨87,49,qi1⟩:=⟨Tryz.f87,Tryz.func87,by kernel_rfl⟩
theorem k88 : RowOk tab ⟨88,55,qke⟩:=⟨Tryz.f88,Tryz.func88,by kernel_rfl⟩
theorem k89 : RowOk tab ⟨89,56,qkf⟩:=⟨Tryz.f89,Tryz.func89,by kernel_rfl⟩
theorem k90 : RowOk tab ⟨90,57,qkg⟩:=⟨Tryz.f90,Tryz.func90,by kernel_rfl⟩
theorem k91 : RowOk tab ⟨91,214,qez⟩:=⟨Tryz.f91,Tryz.func91,by kernel_rfl⟩
theorem k92 : RowOk tab ⟨92,184,qfk⟩:=⟨Tryz.f92,Tryz.func92,by kernel_rfl⟩
theorem k93 : RowOk tab ⟨93,235,qj3⟩:=⟨Tryz.f93,Tryz.func93,by kernel_rfl⟩
theorem k94 : RowOk tab ⟨94,238,qkc⟩:=⟨Tryz.f94,Tryz.func94,by kernel_rfl⟩
theorem k95 : RowOk tab ⟨95,237,qiq⟩:=⟨Tryz.f95,Tryz.func95,by kernel_rfl⟩
theorem k96 : RowOk tab ⟨96,244,qgg⟩:=⟨Tryz.f96,Tryz.func96,by kernel_rfl⟩
theorem k97 : RowOk tab ⟨97,245,qlj⟩:=⟨Tryz.f97,Tryz.func97,by kernel_rfl⟩
theorem k98 : RowOk tab ⟨98,246,qka⟩:=⟨Tryz.f98,Tryz.func98,by kernel_rfl⟩
theorem k99 : RowOk tab ⟨99,119,qdp⟩:=⟨Tryz.f99,Tryz.func99,by kernel_rfl⟩
theorem k100 : RowOk tab ⟨100,221,qc9⟩:=⟨Tryz.f100,Tryz.func100,by kernel_rfl⟩
theorem k101 : RowOk tab ⟨101,112,qkb⟩:=⟨Tryz.f101,Tryz.func101,by kernel_rfl⟩
theorem k102 : RowOk tab ⟨102,257,qkd⟩:=⟨Tryz.f102,Tryz.func102,by kernel_rfl⟩
theorem k103 : RowOk tab ⟨103,99,qgw⟩:=⟨Tryz.f103,Tryz.func103,by kernel_rfl⟩
theorem k104 : RowOk tab ⟨104,258,qj9⟩:=⟨Tryz.f104,Tryz.func104,by kernel_rfl⟩
theorem k105 : RowOk tab ⟨105,222,qj2⟩:=⟨Tryz.f105,Tryz.func105,by kernel_rfl⟩
theorem k106 : RowOk tab ⟨106,506,qdr⟩:=⟨Tryz.f106,Tryz.func106,by kernel_rfl⟩
theorem k107 : RowOk tab ⟨107,507,qfm⟩:=⟨Tryz.f107,Tryz.func107,by kernel_rfl⟩
theorem k108 : RowOk tab ⟨108,508,qe2⟩:=⟨Tryz.f108,Tryz.func108,by kernel_rfl⟩
theorem k109 : RowOk tab ⟨109,101,qiy⟩:=⟨Tryz.f109,Tryz.func109,by kernel_rfl⟩
theorem k110 : RowOk tab ⟨110,102,qhp⟩:=⟨Tryz.f110,Tryz.func110,by kernel_rfl⟩
theorem k111 : RowOk tab ⟨111,103,qhq⟩:=⟨Tryz.f111,Tryz.func111,by kernel_rfl⟩
theorem k112 : RowOk tab ⟨112,98,qlk⟩:=⟨Tryz.f112,Tryz.func112,by kernel_rfl⟩
theorem k113 : RowOk tab ⟨113,100,qgh⟩:=⟨Tryz.f113,Tryz.func113,by kernel_rfl⟩
theorem k114 : RowOk tab ⟨114,638,qnn⟩:=⟨Tryz.f114,Tryz.func114,by kernel_rfl⟩
theorem k115 : RowOk tab ⟨115,651,qp2⟩:=⟨Tryz.f115,Tryz.func115,by kernel_rfl⟩
theorem k116 : RowOk tab ⟨116,654,qck⟩:=⟨Tryz.f116,Tryz.func116,by kernel_rfl⟩
theorem k117 : RowOk tab ⟨117,655,qp0⟩:=⟨Tryz.f117,Tryz.func117,by kernel_rfl⟩
theorem k118 : RowOk tab ⟨118,656,qp7⟩:=⟨Tryz.f118,Tryz.func118,by kernel_rfl⟩
theorem k119 : RowOk tab ⟨119,657,qlz⟩:=⟨Tryz.f119,Tryz.func119,by kernel_rfl⟩
theorem k120 : RowOk tab ⟨120,680,qp6⟩:=⟨Tryz.f120,Tryz.func120,by kernel_rfl⟩
theorem k121 : RowOk tab ⟨121,652,qtf⟩:=⟨Tryz.f121,Tryz.func121,by kernel_rfl⟩
theorem k122 : RowOk tab ⟨122,681,qtc⟩:=⟨Tryz.f122,Tryz.func122,by kernel_rfl⟩
theorem k123 : RowOk tab ⟨123,682,qja⟩:=⟨Tryz.f123,Tryz.func123,by kernel_rfl⟩
theorem k124 : RowOk tab ⟨124,683,qks⟩:=⟨Tryz.f124,Tryz.func124,by kernel_rfl⟩
theorem k125 : RowOk tab ⟨125,684,qlu⟩:=⟨Tryz.f125,Tryz.func125,by kernel_rfl⟩
theorem k126 : RowOk tab ⟨126,659,qo5⟩:=⟨Tryz.f126,Tryz.func126,by kernel_rfl⟩
theorem k127 : RowOk tab ⟨127,660,qte⟩:=⟨Tryz.f127,Tryz.func127,by kernel_rfl⟩
theorem k128 : RowOk tab ⟨128,97,qkj⟩:=⟨Tryz.f128,Tryz.func128,by kernel_rfl⟩
theorem k129 : RowOk tab ⟨129,658,qlx⟩:=⟨Tryz.f129,Tryz.func129,by kernel_rfl⟩
theorem k130 : RowOk tab ⟨130,63,qfi⟩:=⟨Tryz.f130,Tryz.func130,by kernel_rfl⟩
theorem k131 : RowOk tab ⟨131,84,qi0⟩:=⟨Tryz.f131,Tryz.func131,by kernel_rfl⟩
theorem k132 : RowOk tab ⟨132,86,qiz⟩:=⟨Tryz.f132,Tryz.func132,by kernel_rfl⟩
theorem k133 : RowOk tab ⟨133,87,qhr⟩:=⟨Tryz.f133,Tryz.func133,by kernel_rfl⟩
theorem k134 : RowOk tab ⟨134,255,qhe⟩:=⟨Tryz.f134,Tryz.func134,by kernel_rfl⟩
theorem k135 : RowOk tab ⟨135,114,qir⟩:=⟨Tryz.f135,Tryz.func135,by kernel_rfl⟩
theorem k136 : RowOk tab ⟨136,115,qis⟩:=⟨Tryz.f136,Tryz.func136,by kernel_rfl⟩
theorem k137 : RowOk tab ⟨137,259,qj7⟩:=⟨Tryz.f137,Tryz.func137,by kernel_rfl⟩
theorem k138 : RowOk tab ⟨138,111,qdx⟩:=⟨Tryz.f138,Tryz.func138,by kernel_rfl⟩
theorem k139 : RowOk tab ⟨139,254,c_round_cut⟩:=⟨Tryz.f139,Tryz.func139,by kernel_rfl⟩
theorem k140 : RowOk tab ⟨140,198,qll⟩:=⟨Tryz.f140,Tryz.func140,by kernel_rfl⟩
theorem k141 : RowOk tab ⟨141,261,qbt⟩:=⟨Tryz.f141,Tryz.func141,by kernel_rfl⟩
theorem k142 : RowOk tab ⟨142,262,qj6⟩:=⟨Tryz.f142,Tryz.func142,by kernel_rfl⟩
theorem k143 : RowOk tab ⟨143,116,qgv⟩:=⟨Tryz.f143,Tryz.func143,by kernel_rfl⟩
theorem k144 : RowOk tab ⟨144,264,qj8⟩:=⟨Tryz.f144,Tryz.func144,by kernel_rfl⟩
theorem k145 : RowOk tab ⟨145,266,qj5⟩:=⟨Tryz.f145,Tryz.func145,by kernel_rfl⟩
theorem k146 : RowOk tab ⟨146,243,qpw⟩:=⟨Tryz.f146,Tryz.func146,by kernel_rfl⟩
theorem k147 : RowOk tab ⟨147,514,qeb⟩:=⟨Tryz.f147,Tryz.func147,by kernel_rfl⟩
theorem k148 : RowOk tab ⟨148,240,qf9⟩:=⟨Tryz.f148,Tryz.func148,by kernel_rfl⟩
theorem k149 : RowOk tab ⟨149,511,qi6⟩:=⟨Tryz.f149,Tryz.func149,by kernel_rfl⟩
theorem k150 : RowOk tab ⟨150,650,qlv⟩:=⟨Tryz.f150,Tryz.func150,by kernel_rfl⟩
theorem k151 : RowOk tab ⟨151,600,qca⟩:=⟨Tryz.f151,Tryz.func151,by kernel_rfl⟩
theorem k152 : RowOk tab ⟨152,664,qlw⟩:=⟨Tryz.f152,Tryz.func152,by kernel_rfl⟩
theorem k153 : RowOk tab ⟨153,685,ql1⟩:=⟨Tryz.f153,Tryz.func153,by kernel_rfl⟩
theorem k154 : RowOk tab ⟨154,686,qnq⟩:=⟨Tryz.f154,Tryz.func154,by kernel_rfl⟩
theorem k155 : RowOk tab ⟨155,661,qp3⟩:=⟨Tryz.f155,Tryz.func155,by kernel_rfl⟩
theorem k156 : RowOk tab ⟨156,662,qkw⟩:=⟨Tryz.f156,Tryz.func156,by kernel_rfl⟩
theorem k157 : RowOk tab ⟨157,663,qnt⟩:=⟨Tryz.f157,Tryz.func157,by kernel_rfl⟩
theorem k158 : RowOk tab ⟨158,687,qtd⟩:=⟨Tryz.f158,Tryz.func158,by kernel_rfl⟩
theorem k159 : RowOk tab ⟨159,688,ql0⟩:=⟨Tryz.f159,Tryz.func159,by kernel_rfl⟩
theorem k160 : RowOk tab ⟨160,110,qfr⟩:=⟨Tryz.f160,Tryz.func160,by kernel_rfl⟩
theorem k161 : RowOk tab ⟨161,665,qmg⟩:=⟨Tryz.f161,Tryz.func161,by kernel_rfl⟩
theorem k162 : RowOk tab ⟨162,117,qbh⟩:=⟨Tryz.f162,Tryz.func162,by kernel_rfl⟩
theorem k163 : RowOk tab ⟨163,118,qf7⟩:=⟨Tryz.f163,Tryz.func163,by kernel_rfl⟩
theorem k164 : RowOk tab ⟨164,241,qnf⟩:=⟨Tryz.f164,Tryz.func164,by kernel_rfl⟩
theorem k165 : RowOk tab ⟨165,256,qne⟩:=⟨Tryz.f165,Tryz.func165,by kernel_rfl⟩
theorem k166 : RowOk tab ⟨166,271,qff⟩:=⟨Tryz.f166,Tryz.func166,by kernel_rfl⟩
theorem k167 : RowOk tab ⟨167,272,qfd⟩:=⟨Tryz.f167,Tryz.func167,by kernel_rfl⟩
theorem k168 : RowOk tab ⟨168,260,qf8⟩:=⟨Tryz.f168,Tryz.func168,by kernel_rfl⟩
theorem k169 : RowOk tab ⟨169,210,qlm⟩:=⟨Tryz.f169,Tryz.func169,by kernel_rfl⟩
theorem k170 : RowOk tab ⟨170,605,qcz⟩:=⟨Tryz.f170,Tryz.func170,by kernel_rfl⟩
theorem k171 : RowOk tab ⟨171,689,qp4⟩:=⟨Tryz.f171,Tryz.func171,by kernel_rfl⟩
theorem k172 : RowOk tab ⟨172,666,qc0⟩:=⟨Tryz.f172,Tryz.func172,by kernel_rfl⟩
theorem k173 : RowOk tab ⟨173,667,qnp⟩:=⟨Tryz.f173,Tryz.func173,by kernel_rfl⟩
theorem k174 : RowOk tab ⟨174,113,qdl⟩:=⟨Tryz.f174,Tryz.func174,by kernel_rfl⟩
theorem k175 : RowOk tab ⟨175,120,qbx⟩:=⟨Tryz.f175,Tryz.func175,by kernel_rfl⟩
theorem k176 : RowOk tab ⟨176,267,qhg⟩:=⟨Tryz.f176,Tryz.func176,by kernel_rfl⟩
theorem k177 : RowOk tab ⟨177,268,qb0⟩:=⟨Tryz.f177,Tryz.func177,by kernel_rfl⟩
theorem k178 : RowOk tab ⟨178,269,qhh⟩:=⟨Tryz.f178,Tryz.func178,by kernel_rfl⟩
theorem k179 : RowOk tab ⟨179,270,qfq⟩:=⟨Tryz.f179,Tryz.func179,by kernel_rfl⟩
theorem k180 : RowOk tab ⟨180,273,qfe⟩:=⟨Tryz.f180,Tryz.func180,by kernel_rfl⟩
theorem k181 : RowOk tab ⟨181,274,qhj⟩:=⟨Tryz.f181,Tryz.func181,by kernel_rfl⟩
def rows : List Row:=
 [⟨3,668,qe0⟩,
  ⟨4,621,qhy⟩,
  ⟨5,622,qhw⟩,
  ⟨6,669,qew⟩,
  ⟨7,670,qex⟩,
  ⟨8,140,qit⟩,
  ⟨9,158,qgd⟩,
  ⟨10,463,qnj⟩,
  ⟨11,629,qhv⟩,
  ⟨12,630,qnh⟩,
  ⟨13,83,qfg⟩,
  ⟨14,671,qtg⟩,
  ⟨15,672,qti⟩,
  ⟨16,133,qiu⟩,
  ⟨17,628,qth⟩,
  ⟨18,623,qhx⟩,
  ⟨19,631,qi3⟩,
  ⟨20,70,qhn⟩,
  ⟨21,195,qix⟩,
  ⟨22,174,qiw⟩,
  ⟨23,410,qgf⟩,
  ⟨24,436,qge⟩,
  ⟨25,106,qga⟩,
  ⟨26,186,qdq⟩,
  ⟨27,107,qgb⟩,
  ⟨28,190,qhl⟩,
  ⟨29,191,qhf⟩,
  ⟨30,192,qj4⟩,
  ⟨31,204,qi5⟩,
  ⟨32,189,qhk⟩,
  ⟨33,480,qgl⟩,
  ⟨34,481,qkm⟩,
  ⟨35,482,qni⟩,
  ⟨36,74,qkh⟩,
  ⟨37,77,qgc⟩,
  ⟨38,52,qln⟩,
  ⟨39,633,qly⟩,
  ⟨40,673,qnv⟩,
  ⟨41,674,qpy⟩,
  ⟨42,675,qnm⟩,
  ⟨43,676,qnx⟩,
  ⟨44,636,qnr⟩,
  ⟨45,637,qnl⟩,
  ⟨46,51,qi4⟩,
  ⟨47,641,qnw⟩,
  ⟨48,635,qi9⟩,
  ⟨49,60,qho⟩,
  ⟨50,91,qiv⟩,
  ⟨51,12,qhs⟩,
  ⟨52,18,qki⟩,
  ⟨53,108,qhm⟩,
  ⟨54,54,qi2⟩,
  ⟨55,182,qht⟩,
  ⟨56,217,qng⟩,
  ⟨57,223,qfl⟩,
  ⟨58,224,qgk⟩,
  ⟨59,225,qe1⟩,
  ⟨60,493,qkn⟩,
  ⟨61,494,qe7⟩,
  ⟨62,495,qds⟩,
  ⟨63,265,qkl⟩,
  ⟨64,199,qlh⟩,
  ⟨65,200,qpx⟩,
  ⟨66,496,qgm⟩,
  ⟨67,85,qli⟩,
  ⟨68,96,qev⟩,
  ⟨69,79,qkk⟩,
  ⟨70,80,qgj⟩,
  ⟨71,639,qp5⟩,
  ⟨72,642,qkt⟩,
  ⟨73,643,qbz⟩,
  ⟨74,644,qjc⟩,
  ⟨75,645,qnk⟩,
  ⟨76,677,qtb⟩,
  ⟨77,678,qpz⟩,
  ⟨78,640,qns⟩,
  ⟨79,679,qnu⟩,
  ⟨80,653,qku⟩,
  ⟨81,649,qkp⟩,
  ⟨82,78,qgi⟩,
  ⟨83,646,qp1⟩,
  ⟨84,647,qkv⟩,
  ⟨85,648,qjb⟩,
  ⟨86,23,qhu⟩,
  ⟨87,49,qi1⟩,
  ⟨88,55,qke⟩,
  ⟨89,56,qkf⟩,
  ⟨90,57,qkg⟩,
  ⟨91,214,qez⟩,
  ⟨92,184,qfk⟩,
  ⟨93,235,qj3⟩,
  ⟨94,238,qkc⟩,
  ⟨95,237,qiq⟩,
  ⟨96,244,qgg⟩,
  ⟨97,245,qlj⟩,
  ⟨98,246,qka⟩,
  ⟨99,119,qdp⟩,
  ⟨100,221,qc9⟩,
  ⟨101,112,qkb⟩,
  ⟨102,257,qkd⟩,
  ⟨103,99,qgw⟩,
  ⟨104,258,qj9⟩,
  ⟨105,222,qj2⟩,
  ⟨106,506,qdr⟩,
  ⟨107,507,qfm⟩,
  ⟨108,508,qe2⟩,
  ⟨109,101,qiy⟩,
  ⟨110,102,qhp⟩,
  ⟨111,103,qhq⟩,
  ⟨112,98,qlk⟩,
  ⟨113,100,qgh⟩,
  ⟨114,638,qnn⟩,
  ⟨115,651,qp2⟩,
  ⟨116,654,qck⟩,
  ⟨117,655,qp0⟩,
  ⟨118,656,qp7⟩,
  ⟨119,657,qlz⟩,
  ⟨120,680,qp6⟩,
  ⟨121,652,qtf⟩,
  ⟨122,681,qtc⟩,
  ⟨123,682,qja⟩,
  ⟨124,683,qks⟩,
  ⟨125,684,qlu⟩,
  ⟨126,659,qo5⟩,
  ⟨127,660,qte⟩,
  ⟨128,97,qkj⟩,
  ⟨129,658,qlx⟩,
  ⟨130,63,qfi⟩,
  ⟨131,84,qi0⟩,
  ⟨132,86,qiz⟩,
  ⟨133,87,qhr⟩,
  ⟨134,255,qhe⟩,
  ⟨135,114,qir⟩,
  ⟨136,115,qis⟩,
  ⟨137,259,qj7⟩,
  ⟨138,111,qdx⟩,
  ⟨139,254,c_round_cut⟩,
  ⟨140,198,qll⟩,
  ⟨141,261,qbt⟩,
  ⟨142,262,qj6⟩,
  ⟨143,116,qgv⟩,
  ⟨144,264,qj8⟩,
  ⟨145,266,qj5⟩,
  ⟨146,243,qpw⟩,
  ⟨147,514,qeb⟩,
  ⟨148,240,qf9⟩,
  ⟨149,511,qi6⟩,
  ⟨150,650,qlv⟩,
  ⟨151,600,qca⟩,
  ⟨152,664,qlw⟩,
  ⟨153,685,ql1⟩,
  ⟨154,686,qnq⟩,
  ⟨155,661,qp3⟩,
  ⟨156,662,qkw⟩,
  ⟨157,663,qnt⟩,
  ⟨158,687,qtd⟩,
  ⟨159,688,ql0⟩,
  ⟨160,110,qfr⟩,
  ⟨161,665,qmg⟩,
  ⟨162,117,qbh⟩,
  ⟨163,118,qf7⟩,
  ⟨164,241,qnf⟩,
  ⟨165,256,qne⟩,
  ⟨166,271,qff⟩,
  ⟨167,272,qfd⟩,
  ⟨168,260,qf8⟩,
  ⟨169,210,qlm⟩,
  ⟨170,605,qcz⟩,
  ⟨171,689,qp4⟩,
  ⟨172,666,qc0⟩,
  ⟨173,667,qnp⟩,
  ⟨174,113,qdl⟩,
  ⟨175,120,qbx⟩,
  ⟨176,267,qhg⟩,
  ⟨177,268,qb0⟩,
  ⟨178,269,qhh⟩,
  ⟨179,270,qfq⟩,
  ⟨180,273,qfe⟩,
  ⟨181,274,qhj⟩]
theorem fc {p:Row->Prop}{a:Row}{l:List Row}(h:p a)(t:∀x ∈ l,p x):∀x ∈ a :: l,p x:=List.forall_mem_cons.2 ⟨h,t⟩
theorem qagg : ∀r ∈ rows,RowOk tab r:=(fc k3 (fc k4 (fc k5 (fc k6 (fc k7 (fc k8 (fc k9 (fc k10 (fc k11 (fc k12 (fc k13 (fc k14 (fc k15 (fc k16 (fc k17 (fc k18 (fc k19 (fc k20 (fc k21 (fc k22 (fc k23 (fc k24 (fc k25 (fc k26 (fc k27 (fc k28 (fc k29 (fc k30 (fc k31 (fc k32 (fc k33 (fc k34 (fc k35 (fc k36 (fc k37 (fc k38 (fc k39 (fc k40 (fc k41 (fc k42 (fc k43 (fc k44 (fc k45 (fc k46 (fc k47 (fc k48 (fc k49 (fc k50 (fc k51 (fc k52 (fc k53 (fc k54 (fc k55 (fc k56 (fc k57 (fc k58 (fc k59 (fc k60 (fc k61 (fc k62 (fc k63 (fc k64 (fc k65 (fc k66 (fc k67 (fc k68 (fc k69 (fc k70 (fc k71 (fc k72 (fc k73 (fc k74 (fc k75 (fc k76 (fc k77 (fc k78 (fc k79 (fc k80 (fc k81 (fc k82 (fc k83 (fc k84 (fc k85 (fc k86 (fc k87 (fc k88 (fc k89 (fc k90 (fc k91 (fc k92 (fc k93 (fc k94 (fc k95 (fc k96 (fc k97 (fc k98 (fc k99 (fc k100 (fc k101 (fc k102 (fc k103 (fc k104 (fc k105 (fc k106 (fc k107 (fc k108 (fc k109 (fc k110 (fc k111 (fc k112 (fc k113 (fc k114 (fc k115 (fc k116 (fc k117 (fc k118 (fc k119 (fc k120 (fc k121 (fc k122 (fc k123 (fc k124 (fc k125 (fc k126 (fc k127 (fc k128 (fc k129 (fc k130 (fc k131 (fc k132 (fc k133 (fc k134 (fc k135 (fc k136 (fc k137 (fc k138 (fc k139 (fc k140 (fc k141 (fc k142 (fc k143 (fc k144 (fc k145 (fc k146 (fc k147 (fc k148 (fc k149 (fc k150 (fc k151 (fc k152 (fc k153 (fc k154 (fc k155 (fc k156 (fc k157 (fc k158 (fc k159 (fc k160 (fc k161 (fc k162 (fc k163 (fc k164 (fc k165 (fc k166 (fc k167 (fc k168 (fc k169 (fc k170 (fc k171 (fc k172 (fc k173 (fc k174 (fc k175 (fc k176 (fc k177 (fc k178 (fc k179 (fc k180 (fc k181 (fun _ h=>by cases h))))))))))))))))))))))))))))))))))))))))))))))))))))))))))))))))))))))))))))))))))))))))))))))))))))))))))))))))))))))))))))))))))))))))))))))))))))))))))))))))))))))))))))))))))))
theorem rs : rows.map (fun r=>look fnList r.gid)=rows.map (fun r=>some r.fn):=by kernel_rfl
theorem q70 : ∀r ∈ rows,look fnList r.gid=some r.fn:=List.map_inj_left.1 rs
theorem q7c : tab.P.follows .mixedOrders=true:=by kernel_rfl
theorem qaf2 : ∀ fid g f, tab.gid fid = some g → prog.fn g = some f → ∃ fn C, tab.P.funcs[fid]? = some fn ∧ fn.name ≠ "runtime.NumGoroutine" ∧ fn.body = some C ∧ comp tab fn.ntmps C = some f.body ∧ cRVs tab fn.results.toList = some f.results :=
 q13 (l:=q89) rfl (fns:=fnList) (S:=prog) rfl rows qagg (by kernel_rfl) q70
end Go.Abs
namespace Go.Proofs.YtfioikimlnlcbaaGreatDoor
open Go.ChangeShapes Go.WideShapes Go.ChangeAt Go.RowKit
theorem own : ownKnob Tryz.prog.godebug = none := by kernel_rfl
theorem laidOut : laidOutB Tryz.prog = true := by kernel_rfl
theorem seat : Go.Abs.Seat Go.Abs.tab Go.Abs.prog := ⟨Go.Abs.q7c, Go.Abs.qaf2, fun _ _ _ _ _ _ h => by cases h⟩
section
variable {H : Type} {enc : TypeId × Value → H} {w : World}
theorem r_u32s : Go.Abs.Rd enc Tryz.prog w Go.Abs.tab.gid 22 (fun v => ∃ l : List Nat, v = Go.Abs.lim l ∧ Go.Abs.Li l ∧ l.length ≤ maxLen) := Go.Abs.W.qagh Tryz.underlying22 Tryz.underlying41 (by kernel_rfl)
theorem r_dy : Go.Abs.Rd enc Tryz.prog w Go.Abs.tab.gid 24 (fun v => ∃ d : Go.Abs.W.Dy, v = d.v ∧ d.T) := Go.Abs.W.rd_dy Tryz.underlying24 (by kernel_rfl) Tryz.underlying4 r_u32s Tryz.underlying3 (by kernel_rfl)
theorem r_iv : Go.Abs.Rd enc Tryz.prog w Go.Abs.tab.gid 26 (fun v => ∃ x : Go.Abs.W.Iv, v = x.v ∧ x.T) := Go.Abs.W.rd_iv Tryz.underlying26 (by kernel_rfl) r_dy r_dy Tryz.underlying4 (by kernel_rfl)
theorem r_int : Go.Abs.Rd enc Tryz.prog w Go.Abs.tab.gid 3 (fun v => ∃ n, v = .int .i64 n ∧ IntKind.i64.min ≤ n ∧ n ≤ IntKind.i64.max) := Go.Abs.q3f Tryz.underlying3
end
def zIvV : Value := .agg #[.bool false, .slice none 0 0, .int .i64 0, .bool false, .slice none 0 0, .int .i64 0, .bool false]
def dDy {H : Type} : DataW H := .agg [.lit (.bool false), .nil, .lit (.int .i64 0)]
def dIv {H : Type} : DataW H := .agg [dDy, dDy, .lit (.bool false)]
theorem gTab : Tryz.prog.globalNamed "math/bits.deBruijn32tab" = some 1 := by kernel_rfl
theorem gTabType : (Tryz.prog.globals[1]?).map (·.type) = some 151 := by kernel_rfl
theorem cells151 : Tryz.prog.cellsOf 151 = 32 := by kernel_rfl
theorem cells5 : Tryz.prog.cellsOf 5 = 1 := by kernel_rfl
def nums : List Int := [0, 1, 28, 2, 29, 14, 24, 3, 30, 22, 20, 15, 25, 17, 4, 8, 31, 27, 13, 23, 21, 19, 16, 7, 26, 12, 18, 6, 11, 5, 10, 9]
theorem table {W : World} (h : laidMetH Tryz.prog [("math/bits.deBruijn32tab", Rows.laid_math_bits_deBruijn32tab)] W) : Lib.TabIs Tryz.prog W "math/bits.deBruijn32tab" .u8 nums :=
  Lib.tabIs_of_head (rest := []) gTab gTabType Tryz.underlying151 Tryz.underlying5 cells5 cells151 h
theorem tabs {W : World} (h : laidMetH Tryz.prog [("math/bits.deBruijn32tab", Rows.laid_math_bits_deBruijn32tab)] W) : Go.Abs.Tabs Go.Abs.tab.gid W fun _ => False := by
  intro g cs hg
  have hg' : Go.Abs.qx0 Go.Abs.q01 g = some cs := hg
  unfold Go.Abs.q01 Go.Abs.qx0 at hg'
  split at hg'
  · rename_i h0
    subst h0
    have hc : cs = nums.map (fun n => Go.Abs.V.int .u8 n) := by injection hg' with hg'; rw [← hg']; rfl
    subst hc
    have cell : ∀ i (hi : i < nums.length), W.cell? ⟨1, i, none⟩ = some (.int .u8 (nums.getD i 0)) := fun i hi => (table h).cell gTab i hi
    have hb : 1 < W.heap.size := World.block_lt_of_cell? W ⟨1, 0, none⟩ (cell 0 (by decide))
    have get : ∀ (j : Nat) (c : Go.Abs.V), (nums.map (fun n => Go.Abs.V.int .u8 n))[j]? = some c → j < nums.length ∧ c = .int .u8 (nums.getD j 0) := by
      intro j c hj
      rw [List.getElem?_map] at hj
      obtain ⟨a, ha, rfl⟩ := Option.map_eq_some_iff.1 hj
      refine ⟨(List.getElem?_eq_some_iff.1 ha).1, ?_⟩
      rw [List.getD_eq_getElem?_getD, ha]
      rfl
    refine .eptr _ _ (fun j => .int .u8 (nums.getD j 0)) rfl (fun h => h) hb ?_ ?_
    · intro j c hj
      have hl := (get j c hj).1
      have := cell j hl
      simpa using this
    · intro j c hj
      rw [(get j c hj).2]
      exact .int _ _
  · unfold Go.Abs.qx0 at hg'
    cases hg'
noncomputable def laidWorld (os : Os) : World :=
  { World.holding Tryz.prog os ⟨#[], #[], []⟩ with heap := (World.holding Tryz.prog os ⟨#[], #[], []⟩).heap.modify 1 fun
      | .cells _ t frozen => .cells (nums.map fun n => .int .u8 n).toArray t frozen
      | o => o }
end Go.Proofs.YtfioikimlnlcbaaGreatDoor
