/- Parts of the proof: FpSeatR, FpEndR0. -/
import Derived.Test.YtpdchdfajhbglaaGreatDoorProg
import Derived.KernelRfl
import Derived.Test.YtpdchdfajhbglaaGreatDoorCards
import Derived.Test.YtpdchdfajhbglaaGreatDoorTie
import Derived.WalkKit
import Derived.ProofKit
import Derived.OpenShut
import Derived.Deep.DeepHandedRow
import Derived.Lib.LaidTab
import Derived.Test.YtpdchdfajhbglaaGreatDoorGr
import Derived.Test.YtpdchdfajhbglaaGreatDoorFb
import Derived.Test.YtpdchdfajhbglaaGreatDoorFd
import Derived.Test.YtpdchdfajhbglaaGreatDoorFb
namespace Go.Abs
open Go.Proofs
set_option maxRecDepth 100000
def qafa : List Nat:=[0,0,0,518,521,520,517,0,280,281,527,285,311,528,529,530,470,471,286,531,532,416,533,411,537,294,295,302,303,304,538,296,67,298,536,77,290,293,310,152,210,172,133,522,523,138,524,139,525,140,526,141,147,83,158,463,474,176,173,142,0,0,596,11,597,195,60,598,95,291,312,313,314,315,539,322,540,316,324,326,541,542,145,175,148,486,82,177,146,154,159,429,437,107,430,438,79,431,318,319,320,323,325,330,178,544,89,321,96,51,52,153,74,225,106,186,187,188,189,190,191,192,90,156,198,204,480,481,482,94,489,207,208,193,194,0,0,0,0,20,0,17,41,0,0,43,0,0,31,12,18,23,27,48,599,600,601,602,108,109,93,92,327,196,197,174,202,206,57,98,499,160,500,501,209,203,182,205,445,442,149,448,444,446,443,447,423,211,548,78,80,85,244,245,246,119,221,216,217,104,105,165,164,223,224,493,494,495,265,199,200,496,502,503,504,505,230,218,0,0,0,46,50,53,75,0,32,70,49,54,55,56,63,65,603,604,605,606,607,219,220,226,227,228,229,97,509,510,511,512,513,238,514,231,232,233,185,214,184,451,449,450,234,99,100,101,102,103,261,114,115,262,235,222,236,237,112,257,258,506,507,508,253,515,516,240,239,241,254,110,64,61,0,76,81,91,84,86,87,608,609,242,247,248,249,250,251,252,259,111,215,117,118,255,243,256,116,264,266,260,113,263,120,271,272,267,268,269,270,273,274,0,0,0,0,0,0,0,0,0,0,0,0,0,0,0,0,0,0,0,0,0]
def q7a : List (Nat × List V):=[(0,[.int .u8 0,.int .u8 1,.int .u8 28,.int .u8 2,.int .u8 29,.int .u8 14,.int .u8 24,.int .u8 3,.int .u8 30,.int .u8 22,.int .u8 20,.int .u8 15,.int .u8 25,.int .u8 17,.int .u8 4,.int .u8 8,.int .u8 31,.int .u8 27,.int .u8 13,.int .u8 23,.int .u8 21,.int .u8 19,.int .u8 16,.int .u8 7,.int .u8 26,.int .u8 12,.int .u8 18,.int .u8 6,.int .u8 11,.int .u8 5,.int .u8 10,.int .u8 9])]
noncomputable def tab : Tab:=⟨Tryz.prog,⟨gidOf qafa,q4l q7a⟩⟩
theorem k3 : RowOk tab ⟨3,518,qct⟩:=⟨Tryz.f3,Tryz.func3,by kernel_rfl⟩
theorem k4 : RowOk tab ⟨4,521,qc9⟩:=⟨Tryz.f4,Tryz.func4,by kernel_rfl⟩
theorem k8 : RowOk tab ⟨8,280,qkh⟩:=⟨Tryz.f8,Tryz.func8,by kernel_rfl⟩
theorem k9 : RowOk tab ⟨9,281,qkg⟩:=⟨Tryz.f9,Tryz.func9,by kernel_rfl⟩
theorem k10 : RowOk tab ⟨10,527,qjc⟩:=⟨Tryz.f10,Tryz.func10,by kernel_rfl⟩
theorem k11 : RowOk tab ⟨11,285,qjz⟩:=⟨Tryz.f11,Tryz.func11,by kernel_rfl⟩
theorem k12 : RowOk tab ⟨12,311,qnt⟩:=⟨Tryz.f12,Tryz.func12,by kernel_rfl⟩
theorem k13 : RowOk tab ⟨13,528,qp2⟩:=⟨Tryz.f13,Tryz.func13,by kernel_rfl⟩
theorem k14 : RowOk tab ⟨14,529,qp1⟩:=⟨Tryz.f14,Tryz.func14,by kernel_rfl⟩
theorem k15 : RowOk tab ⟨15,530,qhw⟩:=⟨Tryz.f15,Tryz.func15,by kernel_rfl⟩
theorem k16 : RowOk tab ⟨16,470,qqf⟩:=⟨Tryz.f16,Tryz.func16,by kernel_rfl⟩
theorem k17 : RowOk tab ⟨17,471,qqg⟩:=⟨Tryz.f17,Tryz.func17,by kernel_rfl⟩
theorem k18 : RowOk tab ⟨18,286,qmo⟩:=⟨Tryz.f18,Tryz.func18,by kernel_rfl⟩
theorem k19 : RowOk tab ⟨19,531,ql5⟩:=⟨Tryz.f19,Tryz.func19,by kernel_rfl⟩
theorem k20 : RowOk tab ⟨20,532,qob⟩:=⟨Tryz.f20,Tryz.func20,by kernel_rfl⟩
theorem k21 : RowOk tab ⟨21,416,qmq⟩:=⟨Tryz.f21,Tryz.func21,by kernel_rfl⟩
theorem k22 : RowOk tab ⟨22,533,qoa⟩:=⟨Tryz.f22,Tryz.func22,by kernel_rfl⟩
theorem k23 : RowOk tab ⟨23,411,qmp⟩:=⟨Tryz.f23,Tryz.func23,by kernel_rfl⟩
theorem k24 : RowOk tab ⟨24,537,qn9⟩:=⟨Tryz.f24,Tryz.func24,by kernel_rfl⟩
theorem k25 : RowOk tab ⟨25,294,qp4⟩:=⟨Tryz.f25,Tryz.func25,by kernel_rfl⟩
theorem k26 : RowOk tab ⟨26,295,qp0⟩:=⟨Tryz.f26,Tryz.func26,by kernel_rfl⟩
theorem k27 : RowOk tab ⟨27,302,qk7⟩:=⟨Tryz.f27,Tryz.func27,by kernel_rfl⟩
theorem k28 : RowOk tab ⟨28,303,qp3⟩:=⟨Tryz.f28,Tryz.func28,by kernel_rfl⟩
theorem k29 : RowOk tab ⟨29,304,qlm⟩:=⟨Tryz.f29,Tryz.func29,by kernel_rfl⟩
theorem k30 : RowOk tab ⟨30,538,qlp⟩:=⟨Tryz.f30,Tryz.func30,by kernel_rfl⟩
theorem k32 : RowOk tab ⟨32,67,qbu⟩:=⟨Tryz.f32,Tryz.func32,by kernel_rfl⟩
theorem k35 : RowOk tab ⟨35,77,qhr⟩:=⟨Tryz.f35,Tryz.func35,by kernel_rfl⟩
theorem k36 : RowOk tab ⟨36,290,qeb⟩:=⟨Tryz.f36,Tryz.func36,by kernel_rfl⟩
theorem k37 : RowOk tab ⟨37,293,qn8⟩:=⟨Tryz.f37,Tryz.func37,by kernel_rfl⟩
theorem k39 : RowOk tab ⟨39,152,qhv⟩:=⟨Tryz.f39,Tryz.func39,by kernel_rfl⟩
theorem k40 : RowOk tab ⟨40,210,qqc⟩:=⟨Tryz.f40,Tryz.func40,by kernel_rfl⟩
theorem k45 : RowOk tab ⟨45,138,ql3⟩:=⟨Tryz.f45,Tryz.func45,by kernel_rfl⟩
theorem k47 : RowOk tab ⟨47,139,qlx⟩:=⟨Tryz.f47,Tryz.func47,by kernel_rfl⟩
theorem k49 : RowOk tab ⟨49,140,qlz⟩:=⟨Tryz.f49,Tryz.func49,by kernel_rfl⟩
theorem k51 : RowOk tab ⟨51,141,qgk⟩:=⟨Tryz.f51,Tryz.func51,by kernel_rfl⟩
theorem k52 : RowOk tab ⟨52,147,qly⟩:=⟨Tryz.f52,Tryz.func52,by kernel_rfl⟩
theorem k54 : RowOk tab ⟨54,158,qhs⟩:=⟨Tryz.f54,Tryz.func54,by kernel_rfl⟩
theorem k57 : RowOk tab ⟨57,176,qju⟩:=⟨Tryz.f57,Tryz.func57,by kernel_rfl⟩
theorem k58 : RowOk tab ⟨58,173,qjv⟩:=⟨Tryz.f58,Tryz.func58,by kernel_rfl⟩
theorem k59 : RowOk tab ⟨59,142,ql2⟩:=⟨Tryz.f59,Tryz.func59,by kernel_rfl⟩
theorem k65 : RowOk tab ⟨65,195,qmc⟩:=⟨Tryz.f65,Tryz.func65,by kernel_rfl⟩
theorem k66 : RowOk tab ⟨66,60,qj6⟩:=⟨Tryz.f66,Tryz.func66,by kernel_rfl⟩
theorem k69 : RowOk tab ⟨69,291,qgf⟩:=⟨Tryz.f69,Tryz.func69,by kernel_rfl⟩
theorem k70 : RowOk tab ⟨70,312,qbr⟩:=⟨Tryz.f70,Tryz.func70,by kernel_rfl⟩
theorem k71 : RowOk tab ⟨71,313,qgt⟩:=⟨Tryz.f71,Tryz.func71,by kernel_rfl⟩
theorem k72 : RowOk tab ⟨72,314,qfb⟩:=⟨Tryz.f72,Tryz.func72,by kernel_rfl⟩
theorem k73 : RowOk tab ⟨73,315,qpz⟩:=⟨Tryz.f73,Tryz.func73,by kernel_rfl⟩
theorem k74 : RowOk tab ⟨74,539,qgg⟩:=⟨Tryz.f74,Tryz.func74,by kernel_rfl⟩
theorem k75 : RowOk tab ⟨75,322,qpx⟩:=⟨Tryz.f75,Tryz.func75,by kernel_rfl⟩
theorem k76 : RowOk tab ⟨76,540,qe7⟩:=⟨Tryz.f76,Tryz.func76,by kernel_rfl⟩
theorem k77 : RowOk tab ⟨77,316,qlj⟩:=⟨Tryz.f77,Tryz.func77,by kernel_rfl⟩
theorem k78 : RowOk tab ⟨78,324,qnr⟩:=⟨Tryz.f78,Tryz.func78,by kernel_rfl⟩
theorem k79 : RowOk tab ⟨79,326,qjb⟩:=⟨Tryz.f79,Tryz.func79,by kernel_rfl⟩
theorem k80 : RowOk tab ⟨80,541,qdj⟩:=⟨Tryz.f80,Tryz.func80,by kernel_rfl⟩
theorem k81 : RowOk tab ⟨81,542,qjy⟩:=⟨Tryz.f81,Tryz.func81,by kernel_rfl⟩
theorem k82 : RowOk tab ⟨82,145,qog⟩:=⟨Tryz.f82,Tryz.func82,by kernel_rfl⟩
theorem k83 : RowOk tab ⟨83,175,qof⟩:=⟨Tryz.f83,Tryz.func83,by kernel_rfl⟩
theorem k84 : RowOk tab ⟨84,148,qod⟩:=⟨Tryz.f84,Tryz.func84,by kernel_rfl⟩
theorem k85 : RowOk tab ⟨85,486,qo2⟩:=⟨Tryz.f85,Tryz.func85,by kernel_rfl⟩
theorem k86 : RowOk tab ⟨86,82,qce⟩:=⟨Tryz.f86,Tryz.func86,by kernel_rfl⟩
theorem k87 : RowOk tab ⟨87,177,qma⟩:=⟨Tryz.f87,Tryz.func87,by kernel_rfl⟩
theorem k88 : RowOk tab ⟨88,146,qoc⟩:=⟨Tryz.f88,Tryz.func88,by kernel_rfl⟩
theorem k89 : RowOk tab ⟨89,154,qoe⟩:=⟨Tryz.f89,Tryz.func89,by kernel_rfl⟩
theorem k90 : RowOk tab ⟨90,159,qj4⟩:=⟨Tryz.f90,Tryz.func90,by kernel_rfl⟩
theorem k91 : RowOk tab ⟨91,429,qki⟩:=⟨Tryz.f91,Tryz.func91,by kernel_rfl⟩
theorem k92 : RowOk tab ⟨92,437,qfc⟩:=⟨Tryz.f92,Tryz.func92,by kernel_rfl⟩
theorem k93 : RowOk tab ⟨93,107,qhq⟩:=⟨Tryz.f93,Tryz.func93,by kernel_rfl⟩
theorem k94 : RowOk tab ⟨94,430,qkj⟩:=⟨Tryz.f94,Tryz.func94,by kernel_rfl⟩
theorem k95 : RowOk tab ⟨95,438,qh8⟩:=⟨Tryz.f95,Tryz.func95,by kernel_rfl⟩
theorem k96 : RowOk tab ⟨96,79,qow⟩:=⟨Tryz.f96,Tryz.func96,by kernel_rfl⟩
theorem k97 : RowOk tab ⟨97,431,qeo⟩:=⟨Tryz.f97,Tryz.func97,by kernel_rfl⟩
theorem k98 : RowOk tab ⟨98,318,qns⟩:=⟨Tryz.f98,Tryz.func98,by kernel_rfl⟩
theorem k99 : RowOk tab ⟨99,319,qlq⟩:=⟨Tryz.f99,Tryz.func99,by kernel_rfl⟩
theorem k100 : RowOk tab ⟨100,320,qll⟩:=⟨Tryz.f100,Tryz.func100,by kernel_rfl⟩
theorem k101 : RowOk tab ⟨101,323,qln⟩:=⟨Tryz.f101,Tryz.func101,by kernel_rfl⟩
theorem k102 : RowOk tab ⟨102,325,qlo⟩:=⟨Tryz.f102,Tryz.func102,by kernel_rfl⟩
theorem k103 : RowOk tab ⟨103,330,qbx⟩:=⟨Tryz.f103,Tryz.func103,by kernel_rfl⟩
theorem k104 : RowOk tab ⟨104,178,qhu⟩:=⟨Tryz.f104,Tryz.func104,by kernel_rfl⟩
theorem k105 : RowOk tab ⟨105,544,qpy⟩:=⟨Tryz.f105,Tryz.func105,by kernel_rfl⟩
theorem k106 : RowOk tab ⟨106,89,qcd⟩:=⟨Tryz.f106,Tryz.func106,by kernel_rfl⟩
theorem k108 : RowOk tab ⟨108,96,qf0⟩:=⟨Tryz.f108,Tryz.func108,by kernel_rfl⟩
theorem k109 : RowOk tab ⟨109,51,qmr⟩:=⟨Tryz.f109,Tryz.func109,by kernel_rfl⟩
theorem k110 : RowOk tab ⟨110,52,qqd⟩:=⟨Tryz.f110,Tryz.func110,by kernel_rfl⟩
theorem k111 : RowOk tab ⟨111,153,qj5⟩:=⟨Tryz.f111,Tryz.func111,by kernel_rfl⟩
theorem k112 : RowOk tab ⟨112,74,qon⟩:=⟨Tryz.f112,Tryz.func112,by kernel_rfl⟩
theorem k113 : RowOk tab ⟨113,225,qf7⟩:=⟨Tryz.f113,Tryz.func113,by kernel_rfl⟩
theorem k114 : RowOk tab ⟨114,106,qho⟩:=⟨Tryz.f114,Tryz.func114,by kernel_rfl⟩
theorem k115 : RowOk tab ⟨115,186,qen⟩:=⟨Tryz.f115,Tryz.func115,by kernel_rfl⟩
theorem k116 : RowOk tab ⟨116,187,qjl⟩:=⟨Tryz.f116,Tryz.func116,by kernel_rfl⟩
theorem k117 : RowOk tab ⟨117,188,qny⟩:=⟨Tryz.f117,Tryz.func117,by kernel_rfl⟩
theorem k118 : RowOk tab ⟨118,189,qjr⟩:=⟨Tryz.f118,Tryz.func118,by kernel_rfl⟩
theorem k119 : RowOk tab ⟨119,190,qjt⟩:=⟨Tryz.f119,Tryz.func119,by kernel_rfl⟩
theorem k120 : RowOk tab ⟨120,191,qjj⟩:=⟨Tryz.f120,Tryz.func120,by kernel_rfl⟩
theorem k121 : RowOk tab ⟨121,192,qnw⟩:=⟨Tryz.f121,Tryz.func121,by kernel_rfl⟩
theorem k122 : RowOk tab ⟨122,90,qjw⟩:=⟨Tryz.f122,Tryz.func122,by kernel_rfl⟩
theorem k123 : RowOk tab ⟨123,156,ql4⟩:=⟨Tryz.f123,Tryz.func123,by kernel_rfl⟩
theorem k124 : RowOk tab ⟨124,198,qqb⟩:=⟨Tryz.f124,Tryz.func124,by kernel_rfl⟩
theorem k125 : RowOk tab ⟨125,204,qms⟩:=⟨Tryz.f125,Tryz.func125,by kernel_rfl⟩
theorem k126 : RowOk tab ⟨126,480,qig⟩:=⟨Tryz.f126,Tryz.func126,by kernel_rfl⟩
theorem k127 : RowOk tab ⟨127,481,qo0⟩:=⟨Tryz.f127,Tryz.func127,by kernel_rfl⟩
theorem k128 : RowOk tab ⟨128,482,qr1⟩:=⟨Tryz.f128,Tryz.func128,by kernel_rfl⟩
theorem k129 : RowOk tab ⟨129,94,qjx⟩:=⟨Tryz.f129,Tryz.func129,by kernel_rfl⟩
theorem k131 : RowOk tab ⟨131,207,qhh⟩:=⟨Tryz.f131,Tryz.func131,by kernel_rfl⟩
theorem k132 : RowOk tab ⟨132,208,qls⟩:=⟨Tryz.f132,Tryz.func132,by kernel_rfl⟩
theorem k133 : RowOk tab ⟨133,193,qjk⟩:=⟨Tryz.f133,Tryz.func133,by kernel_rfl⟩
theorem k134 : RowOk tab ⟨134,194,qnx⟩:=⟨Tryz.f134,Tryz.func134,by kernel_rfl⟩
theorem k149 : RowOk tab ⟨149,12,qkd⟩:=⟨Tryz.f149,Tryz.func149,by kernel_rfl⟩
theorem k150 : RowOk tab ⟨150,18,qoo⟩:=⟨Tryz.f150,Tryz.func150,by kernel_rfl⟩
theorem k151 : RowOk tab ⟨151,23,qkf⟩:=⟨Tryz.f151,Tryz.func151,by kernel_rfl⟩
theorem k158 : RowOk tab ⟨158,108,qj1⟩:=⟨Tryz.f158,Tryz.func158,by kernel_rfl⟩
theorem k159 : RowOk tab ⟨159,109,qj2⟩:=⟨Tryz.f159,Tryz.func159,by kernel_rfl⟩
theorem k160 : RowOk tab ⟨160,93,qj0⟩:=⟨Tryz.f160,Tryz.func160,by kernel_rfl⟩
theorem k161 : RowOk tab ⟨161,92,ql7⟩:=⟨Tryz.f161,Tryz.func161,by kernel_rfl⟩
theorem k162 : RowOk tab ⟨162,327,qb5⟩:=⟨Tryz.f162,Tryz.func162,by kernel_rfl⟩
theorem k163 : RowOk tab ⟨163,196,qoj⟩:=⟨Tryz.f163,Tryz.func163,by kernel_rfl⟩
theorem k164 : RowOk tab ⟨164,197,ql8⟩:=⟨Tryz.f164,Tryz.func164,by kernel_rfl⟩
theorem k165 : RowOk tab ⟨165,174,qmb⟩:=⟨Tryz.f165,Tryz.func165,by kernel_rfl⟩
theorem k166 : RowOk tab ⟨166,202,ql9⟩:=⟨Tryz.f166,Tryz.func166,by kernel_rfl⟩
theorem k167 : RowOk tab ⟨167,206,qoi⟩:=⟨Tryz.f167,Tryz.func167,by kernel_rfl⟩
theorem k168 : RowOk tab ⟨168,57,qom⟩:=⟨Tryz.f168,Tryz.func168,by kernel_rfl⟩
theorem k169 : RowOk tab ⟨169,98,qqa⟩:=⟨Tryz.f169,Tryz.func169,by kernel_rfl⟩
theorem k170 : RowOk tab ⟨170,499,qoz⟩:=⟨Tryz.f170,Tryz.func170,by kernel_rfl⟩
theorem k171 : RowOk tab ⟨171,160,qhp⟩:=⟨Tryz.f171,Tryz.func171,by kernel_rfl⟩
theorem k172 : RowOk tab ⟨172,500,qmv⟩:=⟨Tryz.f172,Tryz.func172,by kernel_rfl⟩
theorem k173 : RowOk tab ⟨173,501,qmw⟩:=⟨Tryz.f173,Tryz.func173,by kernel_rfl⟩
theorem k174 : RowOk tab ⟨174,209,qmd⟩:=⟨Tryz.f174,Tryz.func174,by kernel_rfl⟩
theorem k175 : RowOk tab ⟨175,203,qoh⟩:=⟨Tryz.f175,Tryz.func175,by kernel_rfl⟩
theorem k176 : RowOk tab ⟨176,182,qke⟩:=⟨Tryz.f176,Tryz.func176,by kernel_rfl⟩
theorem k177 : RowOk tab ⟨177,205,qqe⟩:=⟨Tryz.f177,Tryz.func177,by kernel_rfl⟩
theorem k178 : RowOk tab ⟨178,445,qh7⟩:=⟨Tryz.f178,Tryz.func178,by kernel_rfl⟩
theorem k179 : RowOk tab ⟨179,442,qh9⟩:=⟨Tryz.f179,Tryz.func179,by kernel_rfl⟩
theorem k180 : RowOk tab ⟨180,149,qht⟩:=⟨Tryz.f180,Tryz.func180,by kernel_rfl⟩
theorem k181 : RowOk tab ⟨181,448,qcw⟩:=⟨Tryz.f181,Tryz.func181,by kernel_rfl⟩
theorem k182 : RowOk tab ⟨182,444,qd1⟩:=⟨Tryz.f182,Tryz.func182,by kernel_rfl⟩
theorem k183 : RowOk tab ⟨183,446,qd2⟩:=⟨Tryz.f183,Tryz.func183,by kernel_rfl⟩
theorem k184 : RowOk tab ⟨184,443,qdz⟩:=⟨Tryz.f184,Tryz.func184,by kernel_rfl⟩
theorem k185 : RowOk tab ⟨185,447,qdy⟩:=⟨Tryz.f185,Tryz.func185,by kernel_rfl⟩
theorem k186 : RowOk tab ⟨186,423,qkk⟩:=⟨Tryz.f186,Tryz.func186,by kernel_rfl⟩
theorem k187 : RowOk tab ⟨187,211,qlw⟩:=⟨Tryz.f187,Tryz.func187,by kernel_rfl⟩
theorem k188 : RowOk tab ⟨188,548,qlk⟩:=⟨Tryz.f188,Tryz.func188,by kernel_rfl⟩
theorem k189 : RowOk tab ⟨189,78,qic⟩:=⟨Tryz.f189,Tryz.func189,by kernel_rfl⟩
theorem k190 : RowOk tab ⟨190,80,qid⟩:=⟨Tryz.f190,Tryz.func190,by kernel_rfl⟩
theorem k191 : RowOk tab ⟨191,85,qp7⟩:=⟨Tryz.f191,Tryz.func191,by kernel_rfl⟩
theorem k192 : RowOk tab ⟨192,244,qia⟩:=⟨Tryz.f192,Tryz.func192,by kernel_rfl⟩
theorem k193 : RowOk tab ⟨193,245,qp9⟩:=⟨Tryz.f193,Tryz.func193,by kernel_rfl⟩
theorem k194 : RowOk tab ⟨194,246,qn4⟩:=⟨Tryz.f194,Tryz.func194,by kernel_rfl⟩
theorem k195 : RowOk tab ⟨195,119,qem⟩:=⟨Tryz.f195,Tryz.func195,by kernel_rfl⟩
theorem k196 : RowOk tab ⟨196,221,qdx⟩:=⟨Tryz.f196,Tryz.func196,by kernel_rfl⟩
theorem k197 : RowOk tab ⟨197,216,c_round_add⟩:=⟨Tryz.f197,Tryz.func197,by kernel_rfl⟩
theorem k198 : RowOk tab ⟨198,217,qrz⟩:=⟨Tryz.f198,Tryz.func198,by kernel_rfl⟩
theorem k199 : RowOk tab ⟨199,104,qjq⟩:=⟨Tryz.f199,Tryz.func199,by kernel_rfl⟩
theorem k200 : RowOk tab ⟨200,105,qjs⟩:=⟨Tryz.f200,Tryz.func200,by kernel_rfl⟩
theorem k201 : RowOk tab ⟨201,165,ql0⟩:=⟨Tryz.f201,Tryz.func201,by kernel_rfl⟩
theorem k202 : RowOk tab ⟨202,164,ql1⟩:=⟨Tryz.f202,Tryz.func202,by kernel_rfl⟩
theorem k203 : RowOk tab ⟨203,223,qgv⟩:=⟨Tryz.f203,Tryz.func203,by kernel_rfl⟩
theorem k204 : RowOk tab ⟨204,224,qie⟩:=⟨Tryz.f204,Tryz.func204,by kernel_rfl⟩
theorem k205 : RowOk tab ⟨205,493,qo1⟩:=⟨Tryz.f205,Tryz.func205,by kernel_rfl⟩
theorem k206 : RowOk tab ⟨206,494,qga⟩:=⟨Tryz.f206,Tryz.func206,by kernel_rfl⟩
theorem k207 : RowOk tab ⟨207,495,qer⟩:=⟨Tryz.f207,Tryz.func207,by kernel_rfl⟩
theorem k208 : RowOk tab ⟨208,265,qox⟩:=⟨Tryz.f208,Tryz.func208,by kernel_rfl⟩
theorem k209 : RowOk tab ⟨209,199,qp6⟩:=⟨Tryz.f209,Tryz.func209,by kernel_rfl⟩
theorem k210 : RowOk tab ⟨210,200,qt2⟩:=⟨Tryz.f210,Tryz.func210,by kernel_rfl⟩
theorem k211 : RowOk tab ⟨211,496,qih⟩:=⟨Tryz.f211,Tryz.func211,by kernel_rfl⟩
theorem k213 : RowOk tab ⟨213,503,qr2⟩:=⟨Tryz.f213,Tryz.func213,by kernel_rfl⟩
theorem k214 : RowOk tab ⟨214,504,qmu⟩:=⟨Tryz.f214,Tryz.func214,by kernel_rfl⟩
theorem k216 : RowOk tab ⟨216,230,qp5⟩:=⟨Tryz.f216,Tryz.func216,by kernel_rfl⟩
theorem k217 : RowOk tab ⟨217,218,qr0⟩:=⟨Tryz.f217,Tryz.func217,by kernel_rfl⟩
theorem k227 : RowOk tab ⟨227,70,qj3⟩:=⟨Tryz.f227,Tryz.func227,by kernel_rfl⟩
theorem k228 : RowOk tab ⟨228,49,qmi⟩:=⟨Tryz.f228,Tryz.func228,by kernel_rfl⟩
theorem k229 : RowOk tab ⟨229,54,qmj⟩:=⟨Tryz.f229,Tryz.func229,by kernel_rfl⟩
theorem k230 : RowOk tab ⟨230,55,qok⟩:=⟨Tryz.f230,Tryz.func230,by kernel_rfl⟩
theorem k231 : RowOk tab ⟨231,56,qol⟩:=⟨Tryz.f231,Tryz.func231,by kernel_rfl⟩
theorem k232 : RowOk tab ⟨232,63,qgo⟩:=⟨Tryz.f232,Tryz.func232,by kernel_rfl⟩
theorem k239 : RowOk tab ⟨239,219,qj7⟩:=⟨Tryz.f239,Tryz.func239,by kernel_rfl⟩
theorem k240 : RowOk tab ⟨240,220,qj8⟩:=⟨Tryz.f240,Tryz.func240,by kernel_rfl⟩
theorem k241 : RowOk tab ⟨241,226,qmn⟩:=⟨Tryz.f241,Tryz.func241,by kernel_rfl⟩
theorem k242 : RowOk tab ⟨242,227,qh6⟩:=⟨Tryz.f242,Tryz.func242,by kernel_rfl⟩
theorem k243 : RowOk tab ⟨243,228,qor⟩:=⟨Tryz.f243,Tryz.func243,by kernel_rfl⟩
theorem k244 : RowOk tab ⟨244,229,c_fpref03_Cut⟩:=⟨Tryz.f244,Tryz.func244,by kernel_rfl⟩
theorem k245 : RowOk tab ⟨245,97,qov⟩:=⟨Tryz.f245,Tryz.func245,by kernel_rfl⟩
theorem k246 : RowOk tab ⟨246,509,qif⟩:=⟨Tryz.f246,Tryz.func246,by kernel_rfl⟩
theorem k247 : RowOk tab ⟨247,510,qkm⟩:=⟨Tryz.f247,Tryz.func247,by kernel_rfl⟩
theorem k248 : RowOk tab ⟨248,511,qmt⟩:=⟨Tryz.f248,Tryz.func248,by kernel_rfl⟩
theorem k249 : RowOk tab ⟨249,512,qeq⟩:=⟨Tryz.f249,Tryz.func249,by kernel_rfl⟩
theorem k250 : RowOk tab ⟨250,513,qmx⟩:=⟨Tryz.f250,Tryz.func250,by kernel_rfl⟩
theorem k251 : RowOk tab ⟨251,238,qn6⟩:=⟨Tryz.f251,Tryz.func251,by kernel_rfl⟩
theorem k252 : RowOk tab ⟨252,514,qfd⟩:=⟨Tryz.f252,Tryz.func252,by kernel_rfl⟩
theorem k253 : RowOk tab ⟨253,231,qmm⟩:=⟨Tryz.f253,Tryz.func253,by kernel_rfl⟩
theorem k254 : RowOk tab ⟨254,232,qot⟩:=⟨Tryz.f254,Tryz.func254,by kernel_rfl⟩
theorem k255 : RowOk tab ⟨255,233,qos⟩:=⟨Tryz.f255,Tryz.func255,by kernel_rfl⟩
theorem k256 : RowOk tab ⟨256,185,qgq⟩:=⟨Tryz.f256,Tryz.func256,by kernel_rfl⟩
theorem k257 : RowOk tab ⟨257,214,qf6⟩:=⟨Tryz.f257,Tryz.func257,by kernel_rfl⟩
theorem k258 : RowOk tab ⟨258,184,qgr⟩:=⟨Tryz.f258,Tryz.func258,by kernel_rfl⟩
theorem k259 : RowOk tab ⟨259,451,qd0⟩:=⟨Tryz.f259,Tryz.func259,by kernel_rfl⟩
theorem k260 : RowOk tab ⟨260,449,qdb⟩:=⟨Tryz.f260,Tryz.func260,by kernel_rfl⟩
theorem k261 : RowOk tab ⟨261,450,qgu⟩:=⟨Tryz.f261,Tryz.func261,by kernel_rfl⟩
theorem k262 : RowOk tab ⟨262,234,qhn⟩:=⟨Tryz.f262,Tryz.func262,by kernel_rfl⟩
theorem k263 : RowOk tab ⟨263,99,qir⟩:=⟨Tryz.f263,Tryz.func263,by kernel_rfl⟩
theorem k264 : RowOk tab ⟨264,100,qib⟩:=⟨Tryz.f264,Tryz.func264,by kernel_rfl⟩
theorem k265 : RowOk tab ⟨265,101,qmf⟩:=⟨Tryz.f265,Tryz.func265,by kernel_rfl⟩
theorem k266 : RowOk tab ⟨266,102,qj9⟩:=⟨Tryz.f266,Tryz.func266,by kernel_rfl⟩
theorem k267 : RowOk tab ⟨267,103,qkb⟩:=⟨Tryz.f267,Tryz.func267,by kernel_rfl⟩
theorem k268 : RowOk tab ⟨268,261,qcf⟩:=⟨Tryz.f268,Tryz.func268,by kernel_rfl⟩
theorem k269 : RowOk tab ⟨269,114,qlt⟩:=⟨Tryz.f269,Tryz.func269,by kernel_rfl⟩
theorem k270 : RowOk tab ⟨270,115,qlu⟩:=⟨Tryz.f270,Tryz.func270,by kernel_rfl⟩
theorem k271 : RowOk tab ⟨271,262,qn0⟩:=⟨Tryz.f271,Tryz.func271,by kernel_rfl⟩
theorem k272 : RowOk tab ⟨272,235,qnv⟩:=⟨Tryz.f272,Tryz.func272,by kernel_rfl⟩
theorem k273 : RowOk tab ⟨273,222,qnu⟩:=⟨Tryz.f273,Tryz.func273,by kernel_rfl⟩
theorem k274 : RowOk tab ⟨274,236,c_round_sum⟩:=⟨Tryz.f274,Tryz.func274,by kernel_rfl⟩
theorem k275 : RowOk tab ⟨275,237,qlr⟩:=⟨Tryz.f275,Tryz.func275,by kernel_rfl⟩
theorem k276 : RowOk tab ⟨276,112,qn5⟩:=⟨Tryz.f276,Tryz.func276,by kernel_rfl⟩
theorem k277 : RowOk tab ⟨277,257,qn7⟩:=⟨Tryz.f277,Tryz.func277,by kernel_rfl⟩
theorem k278 : RowOk tab ⟨278,258,qn3⟩:=⟨Tryz.f278,Tryz.func278,by kernel_rfl⟩
theorem k279 : RowOk tab ⟨279,506,qep⟩:=⟨Tryz.f279,Tryz.func279,by kernel_rfl⟩
theorem k280 : RowOk tab ⟨280,507,qgw⟩:=⟨Tryz.f280,Tryz.func280,by kernel_rfl⟩
theorem k281 : RowOk tab ⟨281,508,qf8⟩:=⟨Tryz.f281,Tryz.func281,by kernel_rfl⟩
theorem k282 : RowOk tab ⟨282,253,qlv⟩:=⟨Tryz.f282,Tryz.func282,by kernel_rfl⟩
theorem k285 : RowOk tab ⟨285,240,qhm⟩:=⟨Tryz.f285,Tryz.func285,by kernel_rfl⟩
theorem k286 : RowOk tab ⟨286,239,qoy⟩:=⟨Tryz.f286,Tryz.func286,by kernel_rfl⟩
theorem k287 : RowOk tab ⟨287,241,qry⟩:=⟨Tryz.f287,Tryz.func287,by kernel_rfl⟩
theorem k288 : RowOk tab ⟨288,254,c_round_cut⟩:=⟨Tryz.f288,Tryz.func288,by kernel_rfl⟩
theorem k289 : RowOk tab ⟨289,110,qg3⟩:=⟨Tryz.f289,Tryz.func289,by kernel_rfl⟩
theorem k295 : RowOk tab ⟨295,91,ql6⟩:=⟨Tryz.f295,Tryz.func295,by kernel_rfl⟩
theorem k296 : RowOk tab ⟨296,84,qmh⟩:=⟨Tryz.f296,Tryz.func296,by kernel_rfl⟩
theorem k297 : RowOk tab ⟨297,86,qmg⟩:=⟨Tryz.f297,Tryz.func297,by kernel_rfl⟩
theorem k298 : RowOk tab ⟨298,87,qkc⟩:=⟨Tryz.f298,Tryz.func298,by kernel_rfl⟩
theorem k301 : RowOk tab ⟨301,242,qme⟩:=⟨Tryz.f301,Tryz.func301,by kernel_rfl⟩
theorem k302 : RowOk tab ⟨302,247,qml⟩:=⟨Tryz.f302,Tryz.func302,by kernel_rfl⟩
theorem k303 : RowOk tab ⟨303,248,qmk⟩:=⟨Tryz.f303,Tryz.func303,by kernel_rfl⟩
theorem k304 : RowOk tab ⟨304,249,qp8⟩:=⟨Tryz.f304,Tryz.func304,by kernel_rfl⟩
theorem k305 : RowOk tab ⟨305,250,qoq⟩:=⟨Tryz.f305,Tryz.func305,by kernel_rfl⟩
theorem k306 : RowOk tab ⟨306,251,qou⟩:=⟨Tryz.f306,Tryz.func306,by kernel_rfl⟩
theorem k307 : RowOk tab ⟨307,252,qf1⟩:=⟨Tryz.f307,Tryz.func307,by kernel_rfl⟩
theorem k308 : RowOk tab ⟨308,259,qn1⟩:=⟨Tryz.f308,Tryz.func308,by kernel_rfl⟩
theorem k309 : RowOk tab ⟨309,111,qex⟩:=⟨Tryz.f309,Tryz.func309,by kernel_rfl⟩
theorem k310 : RowOk tab ⟨310,215,qka⟩:=⟨Tryz.f310,Tryz.func310,by kernel_rfl⟩
theorem k311 : RowOk tab ⟨311,117,qb0⟩:=⟨Tryz.f311,Tryz.func311,by kernel_rfl⟩
theorem k312 : RowOk tab ⟨312,118,qhk⟩:=⟨Tryz.f312,Tryz.func312,by kernel_rfl⟩
theorem k313 : RowOk tab ⟨313,255,qji⟩:=⟨Tryz.f313,Tryz.func313,by kernel_rfl⟩
theorem k314 : RowOk tab ⟨314,243,qt1⟩:=⟨Tryz.f314,Tryz.func314,by kernel_rfl⟩
theorem k315 : RowOk tab ⟨315,256,qrx⟩:=⟨Tryz.f315,Tryz.func315,by kernel_rfl⟩
theorem k316 : RowOk tab ⟨316,116,qiq⟩:=⟨Tryz.f316,Tryz.func316,by kernel_rfl⟩
theorem k317 : RowOk tab ⟨317,264,qn2⟩:=⟨Tryz.f317,Tryz.func317,by kernel_rfl⟩
theorem k318 : RowOk tab ⟨318,266,qnz⟩:=⟨Tryz.f318,Tryz.func318,by kernel_rfl⟩
theorem k319 : RowOk tab ⟨319,260,qhl⟩:=⟨Tryz.f319,Tryz.func319,by kernel_rfl⟩
theorem k320 : RowOk tab ⟨320,113,qee⟩:=⟨Tryz.f320,Tryz.func320,by kernel_rfl⟩
theorem k321 : RowOk tab ⟨321,263,qop⟩:=⟨Tryz.f321,Tryz.func321,by kernel_rfl⟩
theorem k322 : RowOk tab ⟨322,120,qch⟩:=⟨Tryz.f322,Tryz.func322,by kernel_rfl⟩
theorem k323 : RowOk tab ⟨323,271,qgj⟩:=⟨Tryz.f323,Tryz.func323,by kernel_rfl⟩
theorem k324 : RowOk tab ⟨324,272,qgh⟩:=⟨Tryz.f324,Tryz.func324,by kernel_rfl⟩
theorem k325 : RowOk tab ⟨325,267,qjm⟩:=⟨Tryz.f325,Tryz.func325,by kernel_rfl⟩
theorem k326 : RowOk tab ⟨326,268,qci⟩:=⟨Tryz.f326,Tryz.func326,by kernel_rfl⟩
theorem k327 : RowOk tab ⟨327,269,qjn⟩:=⟨Tryz.f327,Tryz.func327,by kernel_rfl⟩
theorem k328 : RowOk tab ⟨328,270,qg2⟩:=⟨Tryz.f328,Tryz.func328,by kernel_rfl⟩
theorem k329 : RowOk tab ⟨329,273,qgi⟩:=⟨Tryz.f329,Tryz.func329,by kernel_rfl⟩
theorem k330 : RowOk tab ⟨330,274,qjp⟩:=⟨Tryz.f330,Tryz.func330,by kernel_rfl⟩
def rows : List Row:=
 [⟨3,518,qct⟩,
  ⟨4,521,qc9⟩,
  ⟨8,280,qkh⟩,
  ⟨9,281,qkg⟩,
  ⟨10,527,qjc⟩,
  ⟨11,285,qjz⟩,
  ⟨12,311,qnt⟩,
  ⟨13,528,qp2⟩,
  ⟨14,529,qp1⟩,
  ⟨15,530,qhw⟩,
  ⟨16,470,qqf⟩,
  ⟨17,471,qqg⟩,
  ⟨18,286,qmo⟩,
  ⟨19,531,ql5⟩,
  ⟨20,532,qob⟩,
  ⟨21,416,qmq⟩,
  ⟨22,533,qoa⟩,
  ⟨23,411,qmp⟩,
  ⟨24,537,qn9⟩,
  ⟨25,294,qp4⟩,
  ⟨26,295,qp0⟩,
  ⟨27,302,qk7⟩,
  ⟨28,303,qp3⟩,
  ⟨29,304,qlm⟩,
  ⟨30,538,qlp⟩,
  ⟨32,67,qbu⟩,
  ⟨35,77,qhr⟩,
  ⟨36,290,qeb⟩,
  ⟨37,293,qn8⟩,
  ⟨39,152,qhv⟩,
  ⟨40,210,qqc⟩,
  ⟨45,138,ql3⟩,
  ⟨47,139,qlx⟩,
  ⟨49,140,qlz⟩,
  ⟨51,141,qgk⟩,
  ⟨52,147,qly⟩,
  ⟨54,158,qhs⟩,
  ⟨57,176,qju⟩,
  ⟨58,173,qjv⟩,
  ⟨59,142,ql2⟩,
  ⟨65,195,qmc⟩,
  ⟨66,60,qj6⟩,
  ⟨69,291,qgf⟩,
  ⟨70,312,qbr⟩,
  ⟨71,313,qgt⟩,
  ⟨72,314,qfb⟩,
  ⟨73,315,qpz⟩,
  ⟨74,539,qgg⟩,
  ⟨75,322,qpx⟩,
  ⟨76,540,qe7⟩,
  ⟨77,316,qlj⟩,
  ⟨78,324,qnr⟩,
  ⟨79,326,qjb⟩,
  ⟨80,541,qdj⟩,
  ⟨81,542,qjy⟩,
  ⟨82,145,qog⟩,
  ⟨83,175,qof⟩,
  ⟨84,148,qod⟩,
  ⟨85,486,qo2⟩,
  ⟨86,82,qce⟩,
  ⟨87,177,qma⟩,
  ⟨88,146,qoc⟩,
  ⟨89,154,qoe⟩,
  ⟨90,159,qj4⟩,
  ⟨91,429,qki⟩,
  ⟨92,437,qfc⟩,
  ⟨93,107,qhq⟩,
  ⟨94,430,qkj⟩,
  ⟨95,438,qh8⟩,
  ⟨96,79,qow⟩,
  ⟨97,431,qeo⟩,
  ⟨98,318,qns⟩,
  ⟨99,319,qlq⟩,
  ⟨100,320,qll⟩,
  ⟨101,323,qln⟩,
  ⟨102,325,qlo⟩,
  ⟨103,330,qbx⟩,
  ⟨104,178,qhu⟩,
  ⟨105,544,qpy⟩,
  ⟨106,89,qcd⟩,
  ⟨108,96,qf0⟩,
  ⟨109,51,qmr⟩,
  ⟨110,52,qqd⟩,
  ⟨111,153,qj5⟩,
  ⟨112,74,qon⟩,
  ⟨113,225,qf7⟩,
  ⟨114,106,qho⟩,
  ⟨115,186,qen⟩,
  ⟨116,187,qjl⟩,
  ⟨117,188,qny⟩,
  ⟨118,189,qjr⟩,
  ⟨119,190,qjt⟩,
  ⟨120,191,qjj⟩,
  ⟨121,192,qnw⟩,
  ⟨122,90,qjw⟩,
  ⟨123,156,ql4⟩,
  ⟨124,198,qqb⟩,
  ⟨125,204,qms⟩,
  ⟨126,480,qig⟩,
  ⟨127,481,qo0⟩,
  ⟨128,482,qr1⟩,
  ⟨129,94,qjx⟩,
  ⟨131,207,qhh⟩,
  ⟨132,208,qls⟩,
  ⟨133,193,qjk⟩,
  ⟨134,194,qnx⟩,
  ⟨149,12,qkd⟩,
  ⟨150,18,qoo⟩,
  ⟨151,23,qkf⟩,
  ⟨158,108,qj1⟩,
  ⟨159,109,qj2⟩,
  ⟨160,93,qj0⟩,
  ⟨161,92,ql7⟩,
  ⟨162,327,qb5⟩,
  ⟨163,196,qoj⟩,
  ⟨164,197,ql8⟩,
  ⟨165,174,qmb⟩,
  ⟨166,202,ql9⟩,
  ⟨167,206,qoi⟩,
  ⟨168,57,qom⟩,
  ⟨169,98,qqa⟩,
  ⟨170,499,qoz⟩,
  ⟨171,160,qhp⟩,
  ⟨172,500,qmv⟩,
  ⟨173,501,qmw⟩,
  ⟨174,209,qmd⟩,
  ⟨175,203,qoh⟩,
  ⟨176,182,qke⟩,
  ⟨177,205,qqe⟩,
  ⟨178,445,qh7⟩,
  ⟨179,442,qh9⟩,
  ⟨180,149,qht⟩,
  ⟨181,448,qcw⟩,
  ⟨182,444,qd1⟩,
  ⟨183,446,qd2⟩,
  ⟨184,443,qdz⟩,
  ⟨185,447,qdy⟩,
  ⟨186,423,qkk⟩,
  ⟨187,211,qlw⟩,
  ⟨188,548,qlk⟩,
  ⟨189,78,qic⟩,
  ⟨190,80,qid⟩,
  ⟨191,85,qp7⟩,
  ⟨192,244,qia⟩,
  ⟨193,245,qp9⟩,
  ⟨194,246,qn4⟩,
  ⟨195,119,qem⟩,
  ⟨196,221,qdx⟩,
  ⟨197,216,c_round_add⟩,
  ⟨198,217,qrz⟩,
  ⟨199,104,qjq⟩,
  ⟨200,105,qjs⟩,
  ⟨201,165,ql0⟩,
  ⟨202,164,ql1⟩,
  ⟨203,223,qgv⟩,
  ⟨204,224,qie⟩,
  ⟨205,493,qo1⟩,
  ⟨206,494,qga⟩,
  ⟨207,495,qer⟩,
  ⟨208,265,qox⟩,
  ⟨209,199,qp6⟩,
  ⟨210,200,qt2⟩,
  ⟨211,496,qih⟩,
  ⟨213,503,qr2⟩,
  ⟨214,504,qmu⟩,
  ⟨216,230,qp5⟩,
  ⟨217,218,qr0⟩,
  ⟨227,70,qj3⟩,
  ⟨228,49,qmi⟩,
  ⟨229,54,qmj⟩,
  ⟨230,55,qok⟩,
  ⟨231,56,qol⟩,
  ⟨232,63,qgo⟩,
  ⟨239,219,qj7⟩,
  ⟨240,220,qj8⟩,
  ⟨241,226,qmn⟩,
  ⟨242,227,qh6⟩,
  ⟨243,228,qor⟩,
  ⟨244,229,c_fpref03_Cut⟩,
  ⟨245,97,qov⟩,
  ⟨246,509,qif⟩,
  ⟨247,510,qkm⟩,
  ⟨248,511,qmt⟩,
  ⟨249,512,qeq⟩,
  ⟨250,513,qmx⟩,
  ⟨251,238,qn6⟩,
  ⟨252,514,qfd⟩,
  ⟨253,231,qmm⟩,
  ⟨254,232,qot⟩,
  ⟨255,233,qos⟩,
  ⟨256,185,qgq⟩,
  ⟨257,214,qf6⟩,
  ⟨258,184,qgr⟩,
  ⟨259,451,qd0⟩,
  ⟨260,449,qdb⟩,
  ⟨261,450,qgu⟩,
  ⟨262,234,qhn⟩,
  ⟨263,99,qir⟩,
  ⟨264,100,qib⟩,
  ⟨265,101,qmf⟩,
  ⟨266,102,qj9⟩,
  ⟨267,103,qkb⟩,
  ⟨268,261,qcf⟩,
  ⟨269,114,qlt⟩,
  ⟨270,115,qlu⟩,
  ⟨271,262,qn0⟩,
  ⟨272,235,qnv⟩,
  ⟨273,222,qnu⟩,
  ⟨274,236,c_round_sum⟩,
  ⟨275,237,qlr⟩,
  ⟨276,112,qn5⟩,
  ⟨277,257,qn7⟩,
  ⟨278,258,qn3⟩,
  ⟨279,506,qep⟩,
  ⟨280,507,qgw⟩,
  ⟨281,508,qf8⟩,
  ⟨282,253,qlv⟩,
  ⟨285,240,qhm⟩,
  ⟨286,239,qoy⟩,
  ⟨287,241,qry⟩,
  ⟨288,254,c_round_cut⟩,
  ⟨289,110,qg3⟩,
  ⟨295,91,ql6⟩,
  ⟨296,84,qmh⟩,
  ⟨297,86,qmg⟩,
  ⟨298,87,qkc⟩,
  ⟨301,242,qme⟩,
  ⟨302,247,qml⟩,
  ⟨303,248,qmk⟩,
  ⟨304,249,qp8⟩,
  ⟨305,250,qoq⟩,
  ⟨306,251,qou⟩,
  ⟨307,252,qf1⟩,
  ⟨308,259,qn1⟩,
  ⟨309,111,qex⟩,
  ⟨310,215,qka⟩,
  ⟨311,117,qb0⟩,
  ⟨312,118,qhk⟩,
  ⟨313,255,qji⟩,
  ⟨314,243,qt1⟩,
  ⟨315,256,qrx⟩,
  ⟨316,116,qiq⟩,
  ⟨317,264,qn2⟩,
  ⟨318,266,qnz⟩,
  ⟨319,260,qhl⟩,
  ⟨320,113,qee⟩,
  ⟨321,263,qop⟩,
  ⟨322,120,qch⟩,
  ⟨323,271,qgj⟩,
  ⟨324,272,qgh⟩,
  ⟨325,267,qjm⟩,
  ⟨326,268,qci⟩,
  ⟨327,269,qjn⟩,
  ⟨328,270,qg2⟩,
  ⟨329,273,qgi⟩,
  ⟨330,274,qjp⟩]
theorem fc {p:Row->Prop}{a:Row}{l:List Row}(h:p a)(t:∀x ∈ l,p x):∀x ∈ a :: l,p x:=List.forall_mem_cons.2 ⟨h,t⟩
theorem qal3 : ∀r ∈ rows,RowOk tab r:=(fc k3 (fc k4 (fc k8 (fc k9 (fc k10 (fc k11 (fc k12 (fc k13 (fc k14 (fc k15 (fc k16 (fc k17 (fc k18 (fc k19 (fc k20 (fc k21 (fc k22 (fc k23 (fc k24 (fc k25 (fc k26 (fc k27 (fc k28 (fc k29 (fc k30 (fc k32 (fc k35 (fc k36 (fc k37 (fc k39 (fc k40 (fc k45 (fc k47 (fc k49 (fc k51 (fc k52 (fc k54 (fc k57 (fc k58 (fc k59 (fc k65 (fc k66 (fc k69 (fc k70 (fc k71 (fc k72 (fc k73 (fc k74 (fc k75 (fc k76 (fc k77 (fc k78 (fc k79 (fc k80 (fc k81 (fc k82 (fc k83 (fc k84 (fc k85 (fc k86 (fc k87 (fc k88 (fc k89 (fc k90 (fc k91 (fc k92 (fc k93 (fc k94 (fc k95 (fc k96 (fc k97 (fc k98 (fc k99 (fc k100 (fc k101 (fc k102 (fc k103 (fc k104 (fc k105 (fc k106 (fc k108 (fc k109 (fc k110 (fc k111 (fc k112 (fc k113 (fc k114 (fc k115 (fc k116 (fc k117 (fc k118 (fc k119 (fc k120 (fc k121 (fc k122 (fc k123 (fc k124 (fc k125 (fc k126 (fc k127 (fc k128 (fc k129 (fc k131 (fc k132 (fc k133 (fc k134 (fc k149 (fc k150 (fc k151 (fc k158 (fc k159 (fc k160 (fc k161 (fc k162 (fc k163 (fc k164 (fc k165 (fc k166 (fc k167 (fc k168 (fc k169 (fc k170 (fc k171 (fc k172 (fc k173 (fc k174 (fc k175 (fc k176 (fc k177 (fc k178 (fc k179 (fc k180 (fc k181 (fc k182 (fc k183 (fc k184 (fc k185 (fc k186 (fc k187 (fc k188 (fc k189 (fc k190 (fc k191 (fc k192 (fc k193 (fc k194 (fc k195 (fc k196 (fc k197 (fc k198 (fc k199 (fc k200 (fc k201 (fc k202 (fc k203 (fc k204 (fc k205 (fc k206 (fc k207 (fc k208 (fc k209 (fc k210 (fc k211 (fc k213 (fc k214 (fc k216 (fc k217 (fc k227 (fc k228 (fc k229 (fc k230 (fc k231 (fc k232 (fc k239 (fc k240 (fc k241 (fc k242 (fc k243 (fc k244 (fc k245 (fc k246 (fc k247 (fc k248 (fc k249 (fc k250 (fc k251 (fc k252 (fc k253 (fc k254 (fc k255 (fc k256 (fc k257 (fc k258 (fc k259 (fc k260 (fc k261 (fc k262 (fc k263 (fc k264 (fc k265 (fc k266 (fc k267 (fc k268 (fc k269 (fc k270 (fc k271 (fc k272 (fc k273 (fc k274 (fc k275 (fc k276 (fc k277 (fc k278 (fc k279 (fc k280 (fc k281 (fc k282 (fc k285 (fc k286 (fc k287 (fc k288 (fc k289 (fc k295 (fc k296 (fc k297 (fc k298 (fc k301 (fc k302 (fc k303 (fc k304 (fc k305 (fc k306 (fc k307 (fc k308 (fc k309 (fc k310 (fc k311 (fc k312 (fc k313 (fc k314 (fc k315 (fc k316 (fc k317 (fc k318 (fc k319 (fc k320 (fc k321 (fc k322 (fc k323 (fc k324 (fc k325 (fc k326 (fc k327 (fc k328 (fc k329 (fc k330 (fun _ h=>by cases h)))))))))))))))))))))))))))))))))))))))))))))))))))))))))))))))))))))))))))))))))))))))))))))))))))))))))))))))))))))))))))))))))))))))))))))))))))))))))))))))))))))))))))))))))))))))))))))))))))))))))))))))))))))))))))))))))))))))))))))))))))))))))))))))))
theorem rs : rows.map (fun r=>look fnList r.gid)=rows.map (fun r=>some r.fn):=by kernel_rfl
theorem qadx : ∀r ∈ rows,look fnList r.gid=some r.fn:=List.map_inj_left.1 rs
theorem qac4 : tab.P.follows .mixedOrders=true:=by kernel_rfl
theorem qals : ∀ fid g f, tab.gid fid = some g → prog.fn g = some f → ∃ fn C, tab.P.funcs[fid]? = some fn ∧ fn.name ≠ "runtime.NumGoroutine" ∧ fn.body = some C ∧ comp tab fn.ntmps C = some f.body ∧ cRVs tab fn.results.toList = some f.results :=
 q8d (l:=qafa) rfl (fns:=fnList) (S:=prog) rfl rows qal3 (by kernel_rfl) qadx
end Go.Abs
namespace Go.Proofs.YtpdchdfajhbglaaGreatDoor
open Go.ChangeShapes Go.WideShapes Go.ChangeAt Go.RowKit
theorem own : ownKnob Tryz.prog.godebug = none := by kernel_rfl
theorem laidOut : laidOutB Tryz.prog = true := by kernel_rfl
theorem seat : Go.Abs.Seat Go.Abs.tab Go.Abs.prog := ⟨Go.Abs.qac4, Go.Abs.qals, fun _ _ _ _ _ _ h => by cases h⟩
section
variable {H : Type} {enc : TypeId × Value → H} {w : World}
theorem r_u32s : Go.Abs.Rd enc Tryz.prog w Go.Abs.tab.gid 30 (fun v => ∃ l : List Nat, v = Go.Abs.lim l ∧ Go.Abs.Li l ∧ l.length ≤ maxLen) := Go.Abs.W.qal5 Tryz.underlying30 Tryz.underlying99 (by kernel_rfl)
theorem r_dy : Go.Abs.Rd enc Tryz.prog w Go.Abs.tab.gid 32 (fun v => ∃ d : Go.Abs.W.Dy, v = d.v ∧ d.T) := Go.Abs.W.rd_dy Tryz.underlying32 (by kernel_rfl) Tryz.underlying4 r_u32s Tryz.underlying3 (by kernel_rfl)
theorem r_iv : Go.Abs.Rd enc Tryz.prog w Go.Abs.tab.gid 34 (fun v => ∃ x : Go.Abs.W.Iv, v = x.v ∧ x.T) := Go.Abs.W.rd_iv Tryz.underlying34 (by kernel_rfl) r_dy r_dy Tryz.underlying4 (by kernel_rfl)
theorem r_ivs : Go.Abs.Rd enc Tryz.prog w Go.Abs.tab.gid 22 (fun v => ∃ l : List Go.Abs.W.Iv, v = Go.Abs.W.ivs l ∧ Go.Abs.W.BxT l) := Go.Abs.W.qaoi Tryz.underlying22 (by kernel_rfl) r_iv
theorem r_int : Go.Abs.Rd enc Tryz.prog w Go.Abs.tab.gid 3 (fun v => ∃ n, v = .int .i64 n ∧ IntKind.i64.min ≤ n ∧ n ≤ IntKind.i64.max) := Go.Abs.qad5 Tryz.underlying3
end
theorem gTab : Tryz.prog.globalNamed "math/bits.deBruijn32tab" = some 0 := by kernel_rfl
theorem gTabType : (Tryz.prog.globals[0]?).map (·.type) = some 211 := by kernel_rfl
theorem cells211 : Tryz.prog.cellsOf 211 = 32 := by kernel_rfl
theorem cells5 : Tryz.prog.cellsOf 5 = 1 := by kernel_rfl
def nums : List Int := [0, 1, 28, 2, 29, 14, 24, 3, 30, 22, 20, 15, 25, 17, 4, 8, 31, 27, 13, 23, 21, 19, 16, 7, 26, 12, 18, 6, 11, 5, 10, 9]
theorem table {W : World} (h : laidMetH Tryz.prog [("math/bits.deBruijn32tab", Rows.laid_math_bits_deBruijn32tab)] W) : Lib.TabIs Tryz.prog W "math/bits.deBruijn32tab" .u8 nums :=
  Lib.tabIs_of_head (rest := []) gTab gTabType Tryz.underlying211 Tryz.underlying5 cells5 cells211 h
theorem tabs {W : World} (h : laidMetH Tryz.prog [("math/bits.deBruijn32tab", Rows.laid_math_bits_deBruijn32tab)] W) : Go.Abs.Tabs Go.Abs.tab.gid W fun _ => False := by
  intro g cs hg
  have hg' : Go.Abs.q4l Go.Abs.q7a g = some cs := hg
  unfold Go.Abs.q7a Go.Abs.q4l at hg'
  split at hg'
  · rename_i h0
    subst h0
    have hc : cs = nums.map (fun n => Go.Abs.V.int .u8 n) := by injection hg' with hg'; rw [← hg']; rfl
    subst hc
    have cell : ∀ i (hi : i < nums.length), W.cell? ⟨0, i, none⟩ = some (.int .u8 (nums.getD i 0)) := fun i hi => (table h).cell gTab i hi
    have hb : 0 < W.heap.size := World.block_lt_of_cell? W ⟨0, 0, none⟩ (cell 0 (by decide))
    have get : ∀ (j : Nat) (c : Go.Abs.V), (nums.map (fun n => Go.Abs.V.int .u8 n))[j]? = some c → j < nums.length ∧ c = .int .u8 (nums.getD j 0) := by
      intro j c hj
      rw [List.getElem?_map] at hj
      obtain ⟨a, ha, rfl⟩ := Option.map_eq_some_iff.1 hj
      refine ⟨(List.getElem?_eq_some_iff.1 ha).1, ?_⟩
      rw [List.getD_eq_getElem?_getD, ha]
      rfl
    refine .eptr _ _ (fun j => .int .u8 (nums.getD j 0)) rfl (fun h => h) hb ?_ ?_
    · intro j c hj
      have hl := (get j c hj).1
      have := cell j hl
      simpa using this
    · intro j c hj
      rw [(get j c hj).2]
      exact .int _ _
  · unfold Go.Abs.q4l at hg'
    cases hg'
noncomputable def laidWorld (os : Os) : World :=
  { World.holding Tryz.prog os ⟨#[], #[], []⟩ with heap := (World.holding Tryz.prog os ⟨#[], #[], []⟩).heap.modify 0 fun
      | .cells _ t frozen => .cells (nums.map fun n => .int .u8 n).toArray t frozen
      | o => o }
end Go.Proofs.YtpdchdfajhbglaaGreatDoor
