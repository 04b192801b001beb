/- Parts of the proof: FpSeatR, FpEndR0. -/
import Derived.Test.YtpdchdfajhbglaaGreatDoorProg
import Derived.KernelRfl
import Derived.Test.YtpdchdfajhbglaaGreatDoorCards
import Derived.Test.YtpdchdfajhbglaaGreatDoorTie
import Derived.WalkKit
import Derived.ProofKit
import Derived.OpenShut
import Derived.Deep.DeepHandedRow
import Derived.Lib.LaidTab
import Derived.Test.YtpdchdfajhbglaaGreatDoorGr
import Derived.Test.YtpdchdfajhbglaaGreatDoorFb
import Derived.Test.YtpdchdfajhbglaaGreatDoorFd
import Derived.Test.YtpdchdfajhbglaaGreatDoorFb
namespace Go.Abs
open Go.Proofs
set_option maxRecDepth 100000
def qadt : List Nat:=[0,0,0,518,521,520,517,0,280,281,527,285,311,528,529,530,470,471,286,531,532,416,533,411,537,294,295,302,303,304,538,296,67,298,536,77,290,293,310,152,210,172,133,522,523,138,524,139,525,140,526,141,147,83,158,463,474,176,173,142,0,0,596,11,597,195,60,598,95,291,312,313,314,315,539,322,540,316,324,326,541,542,145,175,148,486,82,177,146,154,159,429,437,107,430,438,79,431,318,319,320,323,325,330,178,544,89,321,96,51,52,153,74,225,106,186,187,188,189,190,191,192,90,156,198,204,480,481,482,94,489,207,208,193,194,0,0,0,0,20,0,17,41,0,0,43,0,0,31,12,18,23,27,48,599,600,601,602,108,109,93,92,327,196,197,174,202,206,57,98,499,160,500,501,209,203,182,205,445,442,149,448,444,446,443,447,423,211,548,78,80,85,244,245,246,119,221,216,217,104,105,165,164,223,224,493,494,495,265,199,200,496,502,503,504,505,230,218,0,0,0,46,50,53,75,0,32,70,49,54,55,56,63,65,603,604,605,606,607,219,220,226,227,228,229,97,509,510,511,512,513,238,514,231,232,233,185,214,184,451,449,450,234,99,100,101,102,103,261,114,115,262,235,222,236,237,112,257,258,506,507,508,253,515,516,240,239,241,254,110,64,61,0,76,81,91,84,86,87,608,609,242,247,248,249,250,251,252,259,111,215,117,118,255,243,256,116,264,266,260,113,263,120,271,272,267,268,269,270,273,274,0,0,0,0,0,0,0,0,0,0,0,0,0,0,0,0,0,0,0,0,0]
def q4t : List (Nat × List V):=[(0,[.int .u8 0,.int .u8 1,.int .u8 28,.int .u8 2,.int .u8 29,.int .u8 14,.int .u8 24,.int .u8 3,.int .u8 30,.int .u8 22,.int .u8 20,.int .u8 15,.int .u8 25,.int .u8 17,.int .u8 4,.int .u8 8,.int .u8 31,.int .u8 27,.int .u8 13,.int .u8 23,.int .u8 21,.int .u8 19,.int .u8 16,.int .u8 7,.int .u8 26,.int .u8 12,.int .u8 18,.int .u8 6,.int .u8 11,.int .u8 5,.int .u8 10,.int .u8 9])]
noncomputable def tab : Tab:=⟨Tryz.prog,⟨gidOf qadt,q1n q4t⟩⟩
theorem k5 : RowOk tab ⟨5,520,qc9⟩:=⟨Tryz.f5,Tryz.func5,by kernel_rfl⟩
theorem k8 : RowOk tab ⟨8,280,qjq⟩:=⟨Tryz.f8,Tryz.func8,by kernel_rfl⟩
theorem k9 : RowOk tab ⟨9,281,qjp⟩:=⟨Tryz.f9,Tryz.func9,by kernel_rfl⟩
theorem k10 : RowOk tab ⟨10,527,qix⟩:=⟨Tryz.f10,Tryz.func10,by kernel_rfl⟩
theorem k11 : RowOk tab ⟨11,285,qjj⟩:=⟨Tryz.f11,Tryz.func11,by kernel_rfl⟩
theorem k12 : RowOk tab ⟨12,311,qmq⟩:=⟨Tryz.f12,Tryz.func12,by kernel_rfl⟩
theorem k13 : RowOk tab ⟨13,528,qoi⟩:=⟨Tryz.f13,Tryz.func13,by kernel_rfl⟩
theorem k14 : RowOk tab ⟨14,529,qoh⟩:=⟨Tryz.f14,Tryz.func14,by kernel_rfl⟩
theorem k16 : RowOk tab ⟨16,470,qou⟩:=⟨Tryz.f16,Tryz.func16,by kernel_rfl⟩
theorem k17 : RowOk tab ⟨17,471,qov⟩:=⟨Tryz.f17,Tryz.func17,by kernel_rfl⟩
theorem k18 : RowOk tab ⟨18,286,qk8⟩:=⟨Tryz.f18,Tryz.func18,by kernel_rfl⟩
theorem k21 : RowOk tab ⟨21,416,qlb⟩:=⟨Tryz.f21,Tryz.func21,by kernel_rfl⟩
theorem k23 : RowOk tab ⟨23,411,qla⟩:=⟨Tryz.f23,Tryz.func23,by kernel_rfl⟩
theorem k25 : RowOk tab ⟨25,294,qok⟩:=⟨Tryz.f25,Tryz.func25,by kernel_rfl⟩
theorem k27 : RowOk tab ⟨27,302,qkf⟩:=⟨Tryz.f27,Tryz.func27,by kernel_rfl⟩
theorem k28 : RowOk tab ⟨28,303,qoj⟩:=⟨Tryz.f28,Tryz.func28,by kernel_rfl⟩
theorem k29 : RowOk tab ⟨29,304,qkp⟩:=⟨Tryz.f29,Tryz.func29,by kernel_rfl⟩
theorem k31 : RowOk tab ⟨31,296,qk9⟩:=⟨Tryz.f31,Tryz.func31,by kernel_rfl⟩
theorem k32 : RowOk tab ⟨32,67,qbn⟩:=⟨Tryz.f32,Tryz.func32,by kernel_rfl⟩
theorem k33 : RowOk tab ⟨33,298,qcw⟩:=⟨Tryz.f33,Tryz.func33,by kernel_rfl⟩
theorem k34 : RowOk tab ⟨34,536,qcn⟩:=⟨Tryz.f34,Tryz.func34,by kernel_rfl⟩
theorem k35 : RowOk tab ⟨35,77,qhl⟩:=⟨Tryz.f35,Tryz.func35,by kernel_rfl⟩
theorem k36 : RowOk tab ⟨36,290,qec⟩:=⟨Tryz.f36,Tryz.func36,by kernel_rfl⟩
theorem k37 : RowOk tab ⟨37,293,qm5⟩:=⟨Tryz.f37,Tryz.func37,by kernel_rfl⟩
theorem k38 : RowOk tab ⟨38,310,qm7⟩:=⟨Tryz.f38,Tryz.func38,by kernel_rfl⟩
theorem k39 : RowOk tab ⟨39,152,qhp⟩:=⟨Tryz.f39,Tryz.func39,by kernel_rfl⟩
theorem k40 : RowOk tab ⟨40,210,qor⟩:=⟨Tryz.f40,Tryz.func40,by kernel_rfl⟩
theorem k45 : RowOk tab ⟨45,138,qk5⟩:=⟨Tryz.f45,Tryz.func45,by kernel_rfl⟩
theorem k47 : RowOk tab ⟨47,139,qkz⟩:=⟨Tryz.f47,Tryz.func47,by kernel_rfl⟩
theorem k49 : RowOk tab ⟨49,140,qk1⟩:=⟨Tryz.f49,Tryz.func49,by kernel_rfl⟩
theorem k51 : RowOk tab ⟨51,141,qgf⟩:=⟨Tryz.f51,Tryz.func51,by kernel_rfl⟩
theorem k52 : RowOk tab ⟨52,147,qk0⟩:=⟨Tryz.f52,Tryz.func52,by kernel_rfl⟩
theorem k53 : RowOk tab ⟨53,83,qgg⟩:=⟨Tryz.f53,Tryz.func53,by kernel_rfl⟩
theorem k54 : RowOk tab ⟨54,158,qhm⟩:=⟨Tryz.f54,Tryz.func54,by kernel_rfl⟩
theorem k57 : RowOk tab ⟨57,176,qjf⟩:=⟨Tryz.f57,Tryz.func57,by kernel_rfl⟩
theorem k58 : RowOk tab ⟨58,173,qjg⟩:=⟨Tryz.f58,Tryz.func58,by kernel_rfl⟩
theorem k59 : RowOk tab ⟨59,142,qk4⟩:=⟨Tryz.f59,Tryz.func59,by kernel_rfl⟩
theorem k66 : RowOk tab ⟨66,60,qjl⟩:=⟨Tryz.f66,Tryz.func66,by kernel_rfl⟩
theorem k69 : RowOk tab ⟨69,291,qga⟩:=⟨Tryz.f69,Tryz.func69,by kernel_rfl⟩
theorem k70 : RowOk tab ⟨70,312,qbg⟩:=⟨Tryz.f70,Tryz.func70,by kernel_rfl⟩
theorem k71 : RowOk tab ⟨71,313,qgi⟩:=⟨Tryz.f71,Tryz.func71,by kernel_rfl⟩
theorem k72 : RowOk tab ⟨72,314,qe4⟩:=⟨Tryz.f72,Tryz.func72,by kernel_rfl⟩
theorem k73 : RowOk tab ⟨73,315,qog⟩:=⟨Tryz.f73,Tryz.func73,by kernel_rfl⟩
theorem k74 : RowOk tab ⟨74,539,qgb⟩:=⟨Tryz.f74,Tryz.func74,by kernel_rfl⟩
theorem k75 : RowOk tab ⟨75,322,qof⟩:=⟨Tryz.f75,Tryz.func75,by kernel_rfl⟩
theorem k76 : RowOk tab ⟨76,540,qe3⟩:=⟨Tryz.f76,Tryz.func76,by kernel_rfl⟩
theorem k77 : RowOk tab ⟨77,316,qko⟩:=⟨Tryz.f77,Tryz.func77,by kernel_rfl⟩
theorem k78 : RowOk tab ⟨78,324,qmo⟩:=⟨Tryz.f78,Tryz.func78,by kernel_rfl⟩
theorem k79 : RowOk tab ⟨79,326,qiw⟩:=⟨Tryz.f79,Tryz.func79,by kernel_rfl⟩
theorem k80 : RowOk tab ⟨80,541,qdi⟩:=⟨Tryz.f80,Tryz.func80,by kernel_rfl⟩
theorem k85 : RowOk tab ⟨85,486,qnf⟩:=⟨Tryz.f85,Tryz.func85,by kernel_rfl⟩
theorem k86 : RowOk tab ⟨86,82,qb3⟩:=⟨Tryz.f86,Tryz.func86,by kernel_rfl⟩
theorem k91 : RowOk tab ⟨91,429,qjr⟩:=⟨Tryz.f91,Tryz.func91,by kernel_rfl⟩
theorem k92 : RowOk tab ⟨92,437,qe5⟩:=⟨Tryz.f92,Tryz.func92,by kernel_rfl⟩
theorem k93 : RowOk tab ⟨93,107,qhk⟩:=⟨Tryz.f93,Tryz.func93,by kernel_rfl⟩
theorem k94 : RowOk tab ⟨94,430,qjs⟩:=⟨Tryz.f94,Tryz.func94,by kernel_rfl⟩
theorem k95 : RowOk tab ⟨95,438,qhr⟩:=⟨Tryz.f95,Tryz.func95,by kernel_rfl⟩
theorem k96 : RowOk tab ⟨96,79,qm9⟩:=⟨Tryz.f96,Tryz.func96,by kernel_rfl⟩
theorem k97 : RowOk tab ⟨97,431,qel⟩:=⟨Tryz.f97,Tryz.func97,by kernel_rfl⟩
theorem k98 : RowOk tab ⟨98,318,qmp⟩:=⟨Tryz.f98,Tryz.func98,by kernel_rfl⟩
theorem k99 : RowOk tab ⟨99,319,qks⟩:=⟨Tryz.f99,Tryz.func99,by kernel_rfl⟩
theorem k101 : RowOk tab ⟨101,323,qkq⟩:=⟨Tryz.f101,Tryz.func101,by kernel_rfl⟩
theorem k102 : RowOk tab ⟨102,325,qkr⟩:=⟨Tryz.f102,Tryz.func102,by kernel_rfl⟩
theorem k103 : RowOk tab ⟨103,330,qbr⟩:=⟨Tryz.f103,Tryz.func103,by kernel_rfl⟩
theorem k104 : RowOk tab ⟨104,178,qho⟩:=⟨Tryz.f104,Tryz.func104,by kernel_rfl⟩
theorem k106 : RowOk tab ⟨106,89,qb2⟩:=⟨Tryz.f106,Tryz.func106,by kernel_rfl⟩
theorem k107 : RowOk tab ⟨107,321,qb9⟩:=⟨Tryz.f107,Tryz.func107,by kernel_rfl⟩
theorem k108 : RowOk tab ⟨108,96,qfw⟩:=⟨Tryz.f108,Tryz.func108,by kernel_rfl⟩
theorem k109 : RowOk tab ⟨109,51,qlc⟩:=⟨Tryz.f109,Tryz.func109,by kernel_rfl⟩
theorem k110 : RowOk tab ⟨110,52,qos⟩:=⟨Tryz.f110,Tryz.func110,by kernel_rfl⟩
theorem k111 : RowOk tab ⟨111,153,qjk⟩:=⟨Tryz.f111,Tryz.func111,by kernel_rfl⟩
theorem k112 : RowOk tab ⟨112,74,qm6⟩:=⟨Tryz.f112,Tryz.func112,by kernel_rfl⟩
theorem k113 : RowOk tab ⟨113,225,qfy⟩:=⟨Tryz.f113,Tryz.func113,by kernel_rfl⟩
theorem k114 : RowOk tab ⟨114,106,qhi⟩:=⟨Tryz.f114,Tryz.func114,by kernel_rfl⟩
theorem k115 : RowOk tab ⟨115,186,qek⟩:=⟨Tryz.f115,Tryz.func115,by kernel_rfl⟩
theorem k116 : RowOk tab ⟨116,187,qi6⟩:=⟨Tryz.f116,Tryz.func116,by kernel_rfl⟩
theorem k117 : RowOk tab ⟨117,188,qmv⟩:=⟨Tryz.f117,Tryz.func117,by kernel_rfl⟩
theorem k118 : RowOk tab ⟨118,189,qjc⟩:=⟨Tryz.f118,Tryz.func118,by kernel_rfl⟩
theorem k119 : RowOk tab ⟨119,190,qje⟩:=⟨Tryz.f119,Tryz.func119,by kernel_rfl⟩
theorem k120 : RowOk tab ⟨120,191,qi4⟩:=⟨Tryz.f120,Tryz.func120,by kernel_rfl⟩
theorem k121 : RowOk tab ⟨121,192,qmt⟩:=⟨Tryz.f121,Tryz.func121,by kernel_rfl⟩
theorem k122 : RowOk tab ⟨122,90,qjh⟩:=⟨Tryz.f122,Tryz.func122,by kernel_rfl⟩
theorem k123 : RowOk tab ⟨123,156,qk6⟩:=⟨Tryz.f123,Tryz.func123,by kernel_rfl⟩
theorem k124 : RowOk tab ⟨124,198,qoq⟩:=⟨Tryz.f124,Tryz.func124,by kernel_rfl⟩
theorem k125 : RowOk tab ⟨125,204,qld⟩:=⟨Tryz.f125,Tryz.func125,by kernel_rfl⟩
theorem k126 : RowOk tab ⟨126,480,qhz⟩:=⟨Tryz.f126,Tryz.func126,by kernel_rfl⟩
theorem k127 : RowOk tab ⟨127,481,qnd⟩:=⟨Tryz.f127,Tryz.func127,by kernel_rfl⟩
theorem k128 : RowOk tab ⟨128,482,qqn⟩:=⟨Tryz.f128,Tryz.func128,by kernel_rfl⟩
theorem k129 : RowOk tab ⟨129,94,qji⟩:=⟨Tryz.f129,Tryz.func129,by kernel_rfl⟩
theorem k131 : RowOk tab ⟨131,207,qhb⟩:=⟨Tryz.f131,Tryz.func131,by kernel_rfl⟩
theorem k132 : RowOk tab ⟨132,208,qku⟩:=⟨Tryz.f132,Tryz.func132,by kernel_rfl⟩
theorem k133 : RowOk tab ⟨133,193,qi5⟩:=⟨Tryz.f133,Tryz.func133,by kernel_rfl⟩
theorem k134 : RowOk tab ⟨134,194,qmu⟩:=⟨Tryz.f134,Tryz.func134,by kernel_rfl⟩
theorem k151 : RowOk tab ⟨151,23,qjo⟩:=⟨Tryz.f151,Tryz.func151,by kernel_rfl⟩
theorem k162 : RowOk tab ⟨162,327,qby⟩:=⟨Tryz.f162,Tryz.func162,by kernel_rfl⟩
theorem k169 : RowOk tab ⟨169,98,qop⟩:=⟨Tryz.f169,Tryz.func169,by kernel_rfl⟩
theorem k170 : RowOk tab ⟨170,499,qnc⟩:=⟨Tryz.f170,Tryz.func170,by kernel_rfl⟩
theorem k171 : RowOk tab ⟨171,160,qhj⟩:=⟨Tryz.f171,Tryz.func171,by kernel_rfl⟩
theorem k172 : RowOk tab ⟨172,500,qlg⟩:=⟨Tryz.f172,Tryz.func172,by kernel_rfl⟩
theorem k173 : RowOk tab ⟨173,501,qlh⟩:=⟨Tryz.f173,Tryz.func173,by kernel_rfl⟩
theorem k177 : RowOk tab ⟨177,205,qot⟩:=⟨Tryz.f177,Tryz.func177,by kernel_rfl⟩
theorem k178 : RowOk tab ⟨178,445,qhq⟩:=⟨Tryz.f178,Tryz.func178,by kernel_rfl⟩
theorem k179 : RowOk tab ⟨179,442,qhs⟩:=⟨Tryz.f179,Tryz.func179,by kernel_rfl⟩
theorem k180 : RowOk tab ⟨180,149,qhn⟩:=⟨Tryz.f180,Tryz.func180,by kernel_rfl⟩
theorem k181 : RowOk tab ⟨181,448,qcx⟩:=⟨Tryz.f181,Tryz.func181,by kernel_rfl⟩
theorem k182 : RowOk tab ⟨182,444,qd0⟩:=⟨Tryz.f182,Tryz.func182,by kernel_rfl⟩
theorem k183 : RowOk tab ⟨183,446,qd1⟩:=⟨Tryz.f183,Tryz.func183,by kernel_rfl⟩
theorem k184 : RowOk tab ⟨184,443,qdy⟩:=⟨Tryz.f184,Tryz.func184,by kernel_rfl⟩
theorem k185 : RowOk tab ⟨185,447,qdx⟩:=⟨Tryz.f185,Tryz.func185,by kernel_rfl⟩
theorem k186 : RowOk tab ⟨186,423,qjt⟩:=⟨Tryz.f186,Tryz.func186,by kernel_rfl⟩
theorem k187 : RowOk tab ⟨187,211,qky⟩:=⟨Tryz.f187,Tryz.func187,by kernel_rfl⟩
theorem k189 : RowOk tab ⟨189,78,qhv⟩:=⟨Tryz.f189,Tryz.func189,by kernel_rfl⟩
theorem k190 : RowOk tab ⟨190,80,qhw⟩:=⟨Tryz.f190,Tryz.func190,by kernel_rfl⟩
theorem k191 : RowOk tab ⟨191,85,qon⟩:=⟨Tryz.f191,Tryz.func191,by kernel_rfl⟩
theorem k192 : RowOk tab ⟨192,244,qht⟩:=⟨Tryz.f192,Tryz.func192,by kernel_rfl⟩
theorem k193 : RowOk tab ⟨193,245,qoo⟩:=⟨Tryz.f193,Tryz.func193,by kernel_rfl⟩
theorem k194 : RowOk tab ⟨194,246,qm1⟩:=⟨Tryz.f194,Tryz.func194,by kernel_rfl⟩
theorem k195 : RowOk tab ⟨195,119,qej⟩:=⟨Tryz.f195,Tryz.func195,by kernel_rfl⟩
theorem k196 : RowOk tab ⟨196,221,qdw⟩:=⟨Tryz.f196,Tryz.func196,by kernel_rfl⟩
theorem k197 : RowOk tab ⟨197,216,c_round_add⟩:=⟨Tryz.f197,Tryz.func197,by kernel_rfl⟩
theorem k198 : RowOk tab ⟨198,217,qql⟩:=⟨Tryz.f198,Tryz.func198,by kernel_rfl⟩
theorem k199 : RowOk tab ⟨199,104,qjb⟩:=⟨Tryz.f199,Tryz.func199,by kernel_rfl⟩
theorem k200 : RowOk tab ⟨200,105,qjd⟩:=⟨Tryz.f200,Tryz.func200,by kernel_rfl⟩
theorem k201 : RowOk tab ⟨201,165,qk2⟩:=⟨Tryz.f201,Tryz.func201,by kernel_rfl⟩
theorem k202 : RowOk tab ⟨202,164,qk3⟩:=⟨Tryz.f202,Tryz.func202,by kernel_rfl⟩
theorem k203 : RowOk tab ⟨203,223,qgk⟩:=⟨Tryz.f203,Tryz.func203,by kernel_rfl⟩
theorem k204 : RowOk tab ⟨204,224,qhx⟩:=⟨Tryz.f204,Tryz.func204,by kernel_rfl⟩
theorem k205 : RowOk tab ⟨205,493,qne⟩:=⟨Tryz.f205,Tryz.func205,by kernel_rfl⟩
theorem k206 : RowOk tab ⟨206,494,qf1⟩:=⟨Tryz.f206,Tryz.func206,by kernel_rfl⟩
theorem k207 : RowOk tab ⟨207,495,qeo⟩:=⟨Tryz.f207,Tryz.func207,by kernel_rfl⟩
theorem k208 : RowOk tab ⟨208,265,qna⟩:=⟨Tryz.f208,Tryz.func208,by kernel_rfl⟩
theorem k209 : RowOk tab ⟨209,199,qom⟩:=⟨Tryz.f209,Tryz.func209,by kernel_rfl⟩
theorem k210 : RowOk tab ⟨210,200,qsb⟩:=⟨Tryz.f210,Tryz.func210,by kernel_rfl⟩
theorem k211 : RowOk tab ⟨211,496,qh0⟩:=⟨Tryz.f211,Tryz.func211,by kernel_rfl⟩
theorem k213 : RowOk tab ⟨213,503,qqo⟩:=⟨Tryz.f213,Tryz.func213,by kernel_rfl⟩
theorem k214 : RowOk tab ⟨214,504,qlf⟩:=⟨Tryz.f214,Tryz.func214,by kernel_rfl⟩
theorem k216 : RowOk tab ⟨216,230,qol⟩:=⟨Tryz.f216,Tryz.func216,by kernel_rfl⟩
theorem k217 : RowOk tab ⟨217,218,qqm⟩:=⟨Tryz.f217,Tryz.func217,by kernel_rfl⟩
theorem k232 : RowOk tab ⟨232,63,qgh⟩:=⟨Tryz.f232,Tryz.func232,by kernel_rfl⟩
theorem k245 : RowOk tab ⟨245,97,qm8⟩:=⟨Tryz.f245,Tryz.func245,by kernel_rfl⟩
theorem k246 : RowOk tab ⟨246,509,qhy⟩:=⟨Tryz.f246,Tryz.func246,by kernel_rfl⟩
theorem k247 : RowOk tab ⟨247,510,qjv⟩:=⟨Tryz.f247,Tryz.func247,by kernel_rfl⟩
theorem k248 : RowOk tab ⟨248,511,qle⟩:=⟨Tryz.f248,Tryz.func248,by kernel_rfl⟩
theorem k249 : RowOk tab ⟨249,512,qen⟩:=⟨Tryz.f249,Tryz.func249,by kernel_rfl⟩
theorem k250 : RowOk tab ⟨250,513,qli⟩:=⟨Tryz.f250,Tryz.func250,by kernel_rfl⟩
theorem k251 : RowOk tab ⟨251,238,qm3⟩:=⟨Tryz.f251,Tryz.func251,by kernel_rfl⟩
theorem k252 : RowOk tab ⟨252,514,qe6⟩:=⟨Tryz.f252,Tryz.func252,by kernel_rfl⟩
theorem k259 : RowOk tab ⟨259,451,qdz⟩:=⟨Tryz.f259,Tryz.func259,by kernel_rfl⟩
theorem k260 : RowOk tab ⟨260,449,qdb⟩:=⟨Tryz.f260,Tryz.func260,by kernel_rfl⟩
theorem k261 : RowOk tab ⟨261,450,qgj⟩:=⟨Tryz.f261,Tryz.func261,by kernel_rfl⟩
theorem k262 : RowOk tab ⟨262,234,qhh⟩:=⟨Tryz.f262,Tryz.func262,by kernel_rfl⟩
theorem k263 : RowOk tab ⟨263,99,qh9⟩:=⟨Tryz.f263,Tryz.func263,by kernel_rfl⟩
theorem k264 : RowOk tab ⟨264,100,qhu⟩:=⟨Tryz.f264,Tryz.func264,by kernel_rfl⟩
theorem k265 : RowOk tab ⟨265,101,qk7⟩:=⟨Tryz.f265,Tryz.func265,by kernel_rfl⟩
theorem k266 : RowOk tab ⟨266,102,qjm⟩:=⟨Tryz.f266,Tryz.func266,by kernel_rfl⟩
theorem k267 : RowOk tab ⟨267,103,qjn⟩:=⟨Tryz.f267,Tryz.func267,by kernel_rfl⟩
theorem k268 : RowOk tab ⟨268,261,qb6⟩:=⟨Tryz.f268,Tryz.func268,by kernel_rfl⟩
theorem k269 : RowOk tab ⟨269,114,qkv⟩:=⟨Tryz.f269,Tryz.func269,by kernel_rfl⟩
theorem k270 : RowOk tab ⟨270,115,qkw⟩:=⟨Tryz.f270,Tryz.func270,by kernel_rfl⟩
theorem k271 : RowOk tab ⟨271,262,qmx⟩:=⟨Tryz.f271,Tryz.func271,by kernel_rfl⟩
theorem k272 : RowOk tab ⟨272,235,qms⟩:=⟨Tryz.f272,Tryz.func272,by kernel_rfl⟩
theorem k273 : RowOk tab ⟨273,222,qmr⟩:=⟨Tryz.f273,Tryz.func273,by kernel_rfl⟩
theorem k274 : RowOk tab ⟨274,236,c_round_sum⟩:=⟨Tryz.f274,Tryz.func274,by kernel_rfl⟩
theorem k275 : RowOk tab ⟨275,237,qkt⟩:=⟨Tryz.f275,Tryz.func275,by kernel_rfl⟩
theorem k276 : RowOk tab ⟨276,112,qm2⟩:=⟨Tryz.f276,Tryz.func276,by kernel_rfl⟩
theorem k277 : RowOk tab ⟨277,257,qm4⟩:=⟨Tryz.f277,Tryz.func277,by kernel_rfl⟩
theorem k278 : RowOk tab ⟨278,258,qm0⟩:=⟨Tryz.f278,Tryz.func278,by kernel_rfl⟩
theorem k279 : RowOk tab ⟨279,506,qem⟩:=⟨Tryz.f279,Tryz.func279,by kernel_rfl⟩
theorem k280 : RowOk tab ⟨280,507,qgl⟩:=⟨Tryz.f280,Tryz.func280,by kernel_rfl⟩
theorem k281 : RowOk tab ⟨281,508,qfz⟩:=⟨Tryz.f281,Tryz.func281,by kernel_rfl⟩
theorem k282 : RowOk tab ⟨282,253,qkx⟩:=⟨Tryz.f282,Tryz.func282,by kernel_rfl⟩
theorem k285 : RowOk tab ⟨285,240,qhg⟩:=⟨Tryz.f285,Tryz.func285,by kernel_rfl⟩
theorem k286 : RowOk tab ⟨286,239,qnb⟩:=⟨Tryz.f286,Tryz.func286,by kernel_rfl⟩
theorem k287 : RowOk tab ⟨287,241,qqk⟩:=⟨Tryz.f287,Tryz.func287,by kernel_rfl⟩
theorem k288 : RowOk tab ⟨288,254,c_round_cut⟩:=⟨Tryz.f288,Tryz.func288,by kernel_rfl⟩
theorem k289 : RowOk tab ⟨289,110,qgu⟩:=⟨Tryz.f289,Tryz.func289,by kernel_rfl⟩
theorem k308 : RowOk tab ⟨308,259,qmy⟩:=⟨Tryz.f308,Tryz.func308,by kernel_rfl⟩
theorem k309 : RowOk tab ⟨309,111,qet⟩:=⟨Tryz.f309,Tryz.func309,by kernel_rfl⟩
theorem k311 : RowOk tab ⟨311,117,qbt⟩:=⟨Tryz.f311,Tryz.func311,by kernel_rfl⟩
theorem k312 : RowOk tab ⟨312,118,qhe⟩:=⟨Tryz.f312,Tryz.func312,by kernel_rfl⟩
theorem k313 : RowOk tab ⟨313,255,qi3⟩:=⟨Tryz.f313,Tryz.func313,by kernel_rfl⟩
theorem k314 : RowOk tab ⟨314,243,qsa⟩:=⟨Tryz.f314,Tryz.func314,by kernel_rfl⟩
theorem k315 : RowOk tab ⟨315,256,qqj⟩:=⟨Tryz.f315,Tryz.func315,by kernel_rfl⟩
theorem k316 : RowOk tab ⟨316,116,qh8⟩:=⟨Tryz.f316,Tryz.func316,by kernel_rfl⟩
theorem k317 : RowOk tab ⟨317,264,qmz⟩:=⟨Tryz.f317,Tryz.func317,by kernel_rfl⟩
theorem k318 : RowOk tab ⟨318,266,qmw⟩:=⟨Tryz.f318,Tryz.func318,by kernel_rfl⟩
theorem k319 : RowOk tab ⟨319,260,qhf⟩:=⟨Tryz.f319,Tryz.func319,by kernel_rfl⟩
theorem k320 : RowOk tab ⟨320,113,qef⟩:=⟨Tryz.f320,Tryz.func320,by kernel_rfl⟩
theorem k322 : RowOk tab ⟨322,120,qcc⟩:=⟨Tryz.f322,Tryz.func322,by kernel_rfl⟩
theorem k323 : RowOk tab ⟨323,271,qge⟩:=⟨Tryz.f323,Tryz.func323,by kernel_rfl⟩
theorem k324 : RowOk tab ⟨324,272,qgc⟩:=⟨Tryz.f324,Tryz.func324,by kernel_rfl⟩
theorem k325 : RowOk tab ⟨325,267,qi7⟩:=⟨Tryz.f325,Tryz.func325,by kernel_rfl⟩
theorem k326 : RowOk tab ⟨326,268,qcd⟩:=⟨Tryz.f326,Tryz.func326,by kernel_rfl⟩
theorem k327 : RowOk tab ⟨327,269,qi8⟩:=⟨Tryz.f327,Tryz.func327,by kernel_rfl⟩
theorem k328 : RowOk tab ⟨328,270,qgt⟩:=⟨Tryz.f328,Tryz.func328,by kernel_rfl⟩
theorem k329 : RowOk tab ⟨329,273,qgd⟩:=⟨Tryz.f329,Tryz.func329,by kernel_rfl⟩
theorem k330 : RowOk tab ⟨330,274,qja⟩:=⟨Tryz.f330,Tryz.func330,by kernel_rfl⟩
def rows : List Row:=
 [⟨5,520,qc9⟩,
  ⟨8,280,qjq⟩,
  ⟨9,281,qjp⟩,
  ⟨10,527,qix⟩,
  ⟨11,285,qjj⟩,
  ⟨12,311,qmq⟩,
  ⟨13,528,qoi⟩,
  ⟨14,529,qoh⟩,
  ⟨16,470,qou⟩,
  ⟨17,471,qov⟩,
  ⟨18,286,qk8⟩,
  ⟨21,416,qlb⟩,
  ⟨23,411,qla⟩,
  ⟨25,294,qok⟩,
  ⟨27,302,qkf⟩,
  ⟨28,303,qoj⟩,
  ⟨29,304,qkp⟩,
  ⟨31,296,qk9⟩,
  ⟨32,67,qbn⟩,
  ⟨33,298,qcw⟩,
  ⟨34,536,qcn⟩,
  ⟨35,77,qhl⟩,
  ⟨36,290,qec⟩,
  ⟨37,293,qm5⟩,
  ⟨38,310,qm7⟩,
  ⟨39,152,qhp⟩,
  ⟨40,210,qor⟩,
  ⟨45,138,qk5⟩,
  ⟨47,139,qkz⟩,
  ⟨49,140,qk1⟩,
  ⟨51,141,qgf⟩,
  ⟨52,147,qk0⟩,
  ⟨53,83,qgg⟩,
  ⟨54,158,qhm⟩,
  ⟨57,176,qjf⟩,
  ⟨58,173,qjg⟩,
  ⟨59,142,qk4⟩,
  ⟨66,60,qjl⟩,
  ⟨69,291,qga⟩,
  ⟨70,312,qbg⟩,
  ⟨71,313,qgi⟩,
  ⟨72,314,qe4⟩,
  ⟨73,315,qog⟩,
  ⟨74,539,qgb⟩,
  ⟨75,322,qof⟩,
  ⟨76,540,qe3⟩,
  ⟨77,316,qko⟩,
  ⟨78,324,qmo⟩,
  ⟨79,326,qiw⟩,
  ⟨80,541,qdi⟩,
  ⟨85,486,qnf⟩,
  ⟨86,82,qb3⟩,
  ⟨91,429,qjr⟩,
  ⟨92,437,qe5⟩,
  ⟨93,107,qhk⟩,
  ⟨94,430,qjs⟩,
  ⟨95,438,qhr⟩,
  ⟨96,79,qm9⟩,
  ⟨97,431,qel⟩,
  ⟨98,318,qmp⟩,
  ⟨99,319,qks⟩,
  ⟨101,323,qkq⟩,
  ⟨102,325,qkr⟩,
  ⟨103,330,qbr⟩,
  ⟨104,178,qho⟩,
  ⟨106,89,qb2⟩,
  ⟨107,321,qb9⟩,
  ⟨108,96,qfw⟩,
  ⟨109,51,qlc⟩,
  ⟨110,52,qos⟩,
  ⟨111,153,qjk⟩,
  ⟨112,74,qm6⟩,
  ⟨113,225,qfy⟩,
  ⟨114,106,qhi⟩,
  ⟨115,186,qek⟩,
  ⟨116,187,qi6⟩,
  ⟨117,188,qmv⟩,
  ⟨118,189,qjc⟩,
  ⟨119,190,qje⟩,
  ⟨120,191,qi4⟩,
  ⟨121,192,qmt⟩,
  ⟨122,90,qjh⟩,
  ⟨123,156,qk6⟩,
  ⟨124,198,qoq⟩,
  ⟨125,204,qld⟩,
  ⟨126,480,qhz⟩,
  ⟨127,481,qnd⟩,
  ⟨128,482,qqn⟩,
  ⟨129,94,qji⟩,
  ⟨131,207,qhb⟩,
  ⟨132,208,qku⟩,
  ⟨133,193,qi5⟩,
  ⟨134,194,qmu⟩,
  ⟨151,23,qjo⟩,
  ⟨162,327,qby⟩,
  ⟨169,98,qop⟩,
  ⟨170,499,qnc⟩,
  ⟨171,160,qhj⟩,
  ⟨172,500,qlg⟩,
  ⟨173,501,qlh⟩,
  ⟨177,205,qot⟩,
  ⟨178,445,qhq⟩,
  ⟨179,442,qhs⟩,
  ⟨180,149,qhn⟩,
  ⟨181,448,qcx⟩,
  ⟨182,444,qd0⟩,
  ⟨183,446,qd1⟩,
  ⟨184,443,qdy⟩,
  ⟨185,447,qdx⟩,
  ⟨186,423,qjt⟩,
  ⟨187,211,qky⟩,
  ⟨189,78,qhv⟩,
  ⟨190,80,qhw⟩,
  ⟨191,85,qon⟩,
  ⟨192,244,qht⟩,
  ⟨193,245,qoo⟩,
  ⟨194,246,qm1⟩,
  ⟨195,119,qej⟩,
  ⟨196,221,qdw⟩,
  ⟨197,216,c_round_add⟩,
  ⟨198,217,qql⟩,
  ⟨199,104,qjb⟩,
  ⟨200,105,qjd⟩,
  ⟨201,165,qk2⟩,
  ⟨202,164,qk3⟩,
  ⟨203,223,qgk⟩,
  ⟨204,224,qhx⟩,
  ⟨205,493,qne⟩,
  ⟨206,494,qf1⟩,
  ⟨207,495,qeo⟩,
  ⟨208,265,qna⟩,
  ⟨209,199,qom⟩,
  ⟨210,200,qsb⟩,
  ⟨211,496,qh0⟩,
  ⟨213,503,qqo⟩,
  ⟨214,504,qlf⟩,
  ⟨216,230,qol⟩,
  ⟨217,218,qqm⟩,
  ⟨232,63,qgh⟩,
  ⟨245,97,qm8⟩,
  ⟨246,509,qhy⟩,
  ⟨247,510,qjv⟩,
  ⟨248,511,qle⟩,
  ⟨249,512,qen⟩,
  ⟨250,513,qli⟩,
  ⟨251,238,qm3⟩,
  ⟨252,514,qe6⟩,
  ⟨259,451,qdz⟩,
  ⟨260,449,qdb⟩,
  ⟨261,450,qgj⟩,
  ⟨262,234,qhh⟩,
  ⟨263,99,qh9⟩,
  ⟨264,100,qhu⟩,
  ⟨265,101,qk7⟩,
  ⟨266,102,qjm⟩,
  ⟨267,103,qjn⟩,
  ⟨268,261,qb6⟩,
  ⟨269,114,qkv⟩,
  ⟨270,115,qkw⟩,
  ⟨271,262,qmx⟩,
  ⟨272,235,qms⟩,
  ⟨273,222,qmr⟩,
  ⟨274,236,c_round_sum⟩,
  ⟨275,237,qkt⟩,
  ⟨276,112,qm2⟩,
  ⟨277,257,qm4⟩,
  ⟨278,258,qm0⟩,
  ⟨279,506,qem⟩,
  ⟨280,507,qgl⟩,
  ⟨281,508,qfz⟩,
  ⟨282,253,qkx⟩,
  ⟨285,240,qhg⟩,
  ⟨286,239,qnb⟩,
  ⟨287,241,qqk⟩,
  ⟨288,254,c_round_cut⟩,
  ⟨289,110,qgu⟩,
  ⟨308,259,qmy⟩,
  ⟨309,111,qet⟩,
  ⟨311,117,qbt⟩,
  ⟨312,118,qhe⟩,
  ⟨313,255,qi3⟩,
  ⟨314,243,qsa⟩,
  ⟨315,256,qqj⟩,
  ⟨316,116,qh8⟩,
  ⟨317,264,qmz⟩,
  ⟨318,266,qmw⟩,
  ⟨319,260,qhf⟩,
  ⟨320,113,qef⟩,
  ⟨322,120,qcc⟩,
  ⟨323,271,qge⟩,
  ⟨324,272,qgc⟩,
  ⟨325,267,qi7⟩,
  ⟨326,268,qcd⟩,
  ⟨327,269,qi8⟩,
  ⟨328,270,qgt⟩,
  ⟨329,273,qgd⟩,
  ⟨330,274,qja⟩]
theorem fc {p:Row->Prop}{a:Row}{l:List Row}(h:p a)(t:∀x ∈ l,p x):∀x ∈ a :: l,p x:=List.forall_mem_cons.2 ⟨h,t⟩
theorem qak4 : ∀r ∈ rows,RowOk tab r:=(fc k5 (fc k8 (fc k9 (fc k10 (fc k11 (fc k12 (fc k13 (fc k14 (fc k16 (fc k17 (fc k18 (fc k21 (fc k23 (fc k25 (fc k27 (fc k28 (fc k29 (fc k31 (fc k32 (fc k33 (fc k34 (fc k35 (fc k36 (fc k37 (fc k38 (fc k39 (fc k40 (fc k45 (fc k47 (fc k49 (fc k51 (fc k52 (fc k53 (fc k54 (fc k57 (fc k58 (fc k59 (fc k66 (fc k69 (fc k70 (fc k71 (fc k72 (fc k73 (fc k74 (fc k75 (fc k76 (fc k77 (fc k78 (fc k79 (fc k80 (fc k85 (fc k86 (fc k91 (fc k92 (fc k93 (fc k94 (fc k95 (fc k96 (fc k97 (fc k98 (fc k99 (fc k101 (fc k102 (fc k103 (fc k104 (fc k106 (fc k107 (fc k108 (fc k109 (fc k110 (fc k111 (fc k112 (fc k113 (fc k114 (fc k115 (fc k116 (fc k117 (fc k118 (fc k119 (fc k120 (fc k121 (fc k122 (fc k123 (fc k124 (fc k125 (fc k126 (fc k127 (fc k128 (fc k129 (fc k131 (fc k132 (fc k133 (fc k134 (fc k151 (fc k162 (fc k169 (fc k170 (fc k171 (fc k172 (fc k173 (fc k177 (fc k178 (fc k179 (fc k180 (fc k181 (fc k182 (fc k183 (fc k184 (fc k185 (fc k186 (fc k187 (fc k189 (fc k190 (fc k191 (fc k192 (fc k193 (fc k194 (fc k195 (fc k196 (fc k197 (fc k198 (fc k199 (fc k200 (fc k201 (fc k202 (fc k203 (fc k204 (fc k205 (fc k206 (fc k207 (fc k208 (fc k209 (fc k210 (fc k211 (fc k213 (fc k214 (fc k216 (fc k217 (fc k232 (fc k245 (fc k246 (fc k247 (fc k248 (fc k249 (fc k250 (fc k251 (fc k252 (fc k259 (fc k260 (fc k261 (fc k262 (fc k263 (fc k264 (fc k265 (fc k266 (fc k267 (fc k268 (fc k269 (fc k270 (fc k271 (fc k272 (fc k273 (fc k274 (fc k275 (fc k276 (fc k277 (fc k278 (fc k279 (fc k280 (fc k281 (fc k282 (fc k285 (fc k286 (fc k287 (fc k288 (fc k289 (fc k308 (fc k309 (fc k311 (fc k312 (fc k313 (fc k314 (fc k315 (fc k316 (fc k317 (fc k318 (fc k319 (fc k320 (fc k322 (fc k323 (fc k324 (fc k325 (fc k326 (fc k327 (fc k328 (fc k329 (fc k330 (fun _ h=>by cases h))))))))))))))))))))))))))))))))))))))))))))))))))))))))))))))))))))))))))))))))))))))))))))))))))))))))))))))))))))))))))))))))))))))))))))))))))))))))))))))))))))))))))))))))))))))))))))))))))))))
theorem rs : rows.map (fun r=>look fnList r.gid)=rows.map (fun r=>some r.fn):=by kernel_rfl
theorem qab9 : ∀r ∈ rows,look fnList r.gid=some r.fn:=List.map_inj_left.1 rs
theorem qabk : tab.P.follows .mixedOrders=true:=by kernel_rfl
theorem qakq : ∀ fid g f, tab.gid fid = some g → prog.fn g = some f → ∃ fn C, tab.P.funcs[fid]? = some fn ∧ fn.name ≠ "runtime.NumGoroutine" ∧ fn.body = some C ∧ comp tab fn.ntmps C = some f.body ∧ cRVs tab fn.results.toList = some f.results :=
 q5t (l:=qadt) rfl (fns:=fnList) (S:=prog) rfl rows qak4 (by kernel_rfl) qab9
end Go.Abs
namespace Go.Proofs.YtpdchdfajhbglaaGreatDoor
open Go.ChangeShapes Go.WideShapes Go.ChangeAt Go.RowKit
theorem own : ownKnob Tryz.prog.godebug = none := by kernel_rfl
theorem laidOut : laidOutB Tryz.prog = true := by kernel_rfl
theorem seat : Go.Abs.Seat Go.Abs.tab Go.Abs.prog := ⟨Go.Abs.qabk, Go.Abs.qakq, fun _ _ _ _ _ _ h => by cases h⟩
section
variable {H : Type} {enc : TypeId × Value → H} {w : World}
theorem r_u32s : Go.Abs.Rd enc Tryz.prog w Go.Abs.tab.gid 30 (fun v => ∃ l : List Nat, v = Go.Abs.lim l ∧ Go.Abs.Li l ∧ l.length ≤ maxLen) := Go.Abs.W.qak9 Tryz.underlying30 Tryz.underlying99 (by kernel_rfl)
theorem r_dy : Go.Abs.Rd enc Tryz.prog w Go.Abs.tab.gid 32 (fun v => ∃ d : Go.Abs.W.Dy, v = d.v ∧ d.T) := Go.Abs.W.rd_dy Tryz.underlying32 (by kernel_rfl) Tryz.underlying4 r_u32s Tryz.underlying3 (by kernel_rfl)
theorem r_iv : Go.Abs.Rd enc Tryz.prog w Go.Abs.tab.gid 34 (fun v => ∃ x : Go.Abs.W.Iv, v = x.v ∧ x.T) := Go.Abs.W.rd_iv Tryz.underlying34 (by kernel_rfl) r_dy r_dy Tryz.underlying4 (by kernel_rfl)
theorem r_ivs : Go.Abs.Rd enc Tryz.prog w Go.Abs.tab.gid 22 (fun v => ∃ l : List Go.Abs.W.Iv, v = Go.Abs.W.ivs l ∧ Go.Abs.W.BxT l) := Go.Abs.W.qaos Tryz.underlying22 (by kernel_rfl) r_iv
theorem r_int : Go.Abs.Rd enc Tryz.prog w Go.Abs.tab.gid 3 (fun v => ∃ n, v = .int .i64 n ∧ IntKind.i64.min ≤ n ∧ n ≤ IntKind.i64.max) := Go.Abs.qace Tryz.underlying3
end
theorem gTab : Tryz.prog.globalNamed "math/bits.deBruijn32tab" = some 0 := by kernel_rfl
theorem gTabType : (Tryz.prog.globals[0]?).map (·.type) = some 211 := by kernel_rfl
theorem cells211 : Tryz.prog.cellsOf 211 = 32 := by kernel_rfl
theorem cells5 : Tryz.prog.cellsOf 5 = 1 := by kernel_rfl
def nums : List Int := [0, 1, 28, 2, 29, 14, 24, 3, 30, 22, 20, 15, 25, 17, 4, 8, 31, 27, 13, 23, 21, 19, 16, 7, 26, 12, 18, 6, 11, 5, 10, 9]
theorem table {W : World} (h : laidMetH Tryz.prog [("math/bits.deBruijn32tab", Rows.laid_math_bits_deBruijn32tab)] W) : Lib.TabIs Tryz.prog W "math/bits.deBruijn32tab" .u8 nums :=
  Lib.tabIs_of_head (rest := []) gTab gTabType Tryz.underlying211 Tryz.underlying5 cells5 cells211 h
theorem tabs {W : World} (h : laidMetH Tryz.prog [("math/bits.deBruijn32tab", Rows.laid_math_bits_deBruijn32tab)] W) : Go.Abs.Tabs Go.Abs.tab.gid W fun _ => False := by
  intro g cs hg
  have hg' : Go.Abs.q1n Go.Abs.q4t g = some cs := hg
  unfold Go.Abs.q4t Go.Abs.q1n at hg'
  split at hg'
  · rename_i h0
    subst h0
    have hc : cs = nums.map (fun n => Go.Abs.V.int .u8 n) := by injection hg' with hg'; rw [← hg']; rfl
    subst hc
    have cell : ∀ i (hi : i < nums.length), W.cell? ⟨0, i, none⟩ = some (.int .u8 (nums.getD i 0)) := fun i hi => (table h).cell gTab i hi
    have hb : 0 < W.heap.size := World.block_lt_of_cell? W ⟨0, 0, none⟩ (cell 0 (by decide))
    have get : ∀ (j : Nat) (c : Go.Abs.V), (nums.map (fun n => Go.Abs.V.int .u8 n))[j]? = some c → j < nums.length ∧ c = .int .u8 (nums.getD j 0) := by
      intro j c hj
      rw [List.getElem?_map] at hj
      obtain ⟨a, ha, rfl⟩ := Option.map_eq_some_iff.1 hj
      refine ⟨(List.getElem?_eq_some_iff.1 ha).1, ?_⟩
      rw [List.getD_eq_getElem?_getD, ha]
      rfl
    refine .eptr _ _ (fun j => .int .u8 (nums.getD j 0)) rfl (fun h => h) hb ?_ ?_
    · intro j c hj
      have hl := (get j c hj).1
      have := cell j hl
      simpa using this
    · intro j c hj
      rw [(get j c hj).2]
      exact .int _ _
  · unfold Go.Abs.q1n at hg'
    cases hg'
noncomputable def laidWorld (os : Os) : World :=
  { World.holding Tryz.prog os ⟨#[], #[], []⟩ with heap := (World.holding Tryz.prog os ⟨#[], #[], []⟩).heap.modify 0 fun
      | .cells _ t frozen => .cells (nums.map fun n => .int .u8 n).toArray t frozen
      | o => o }
end Go.Proofs.YtpdchdfajhbglaaGreatDoor
