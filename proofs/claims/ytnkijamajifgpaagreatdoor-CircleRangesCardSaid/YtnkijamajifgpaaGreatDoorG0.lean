/- Parts of the proof: FpSeatC, FpEndC0. -/
import Derived.Test.YtnkijamajifgpaaGreatDoorProg
import Derived.KernelRfl
import Derived.Test.YtnkijamajifgpaaGreatDoorCards
import Derived.Test.YtnkijamajifgpaaGreatDoorTie
import Derived.WalkKit
import Derived.ProofKit
import Derived.OpenShut
import Derived.Deep.DeepHandedRow
import Derived.Lib.LaidTab
import Derived.Test.YtnkijamajifgpaaGreatDoorGr
import Derived.Test.YtnkijamajifgpaaGreatDoorFb
import Derived.Test.YtnkijamajifgpaaGreatDoorFd
import Derived.Test.YtnkijamajifgpaaGreatDoorFb
namespace Go.Abs
open Go.Proofs
set_option maxRecDepth 100000
def qae8 : List Nat:=[0,0,0,452,453,454,455,456,457,458,459,460,461,462,463,70,464,465,466,467,468,469,152,470,471,472,65,473,55,474,475,476,74,477,478,133,18,56,57,60,138,141,210,140,147,158,142,79,479,139,173,480,107,481,482,91,12,71,483,175,484,146,154,485,153,51,486,159,145,487,488,148,49,77,94,489,157,177,155,85,490,491,52,54,84,86,63,87,23,106,186,187,188,189,156,191,192,225,190,198,204,193,194,492,493,494,495,265,199,200,496,92,93,497,195,108,174,109,202,206,203,498,78,98,499,160,90,500,501,182,197,196,96,105,104,205,502,503,504,505,167,166,209,101,102,103,80,216,165,164,217,244,245,246,119,221,223,224,218,100,257,99,258,112,222,506,507,508,219,226,227,228,229,220,185,214,184,97,509,510,511,512,513,238,514,253,515,516,240,231,232,233,235,236,237,261,114,115,262,239,241,110,264,111,266,116,243,242,247,248,249,250,251,252,215,259,260,255,256,254,117,118,113,271,272,263,267,268,269,270,120,273,274,0,0,0,0,0,0,0,0,0,0,0,0,0,0,0,0,0,0,0,0,0]
def q5x : List (Nat × List V):=[(0,[.int .u8 0,.int .u8 1,.int .u8 28,.int .u8 2,.int .u8 29,.int .u8 14,.int .u8 24,.int .u8 3,.int .u8 30,.int .u8 22,.int .u8 20,.int .u8 15,.int .u8 25,.int .u8 17,.int .u8 4,.int .u8 8,.int .u8 31,.int .u8 27,.int .u8 13,.int .u8 23,.int .u8 21,.int .u8 19,.int .u8 16,.int .u8 7,.int .u8 26,.int .u8 12,.int .u8 18,.int .u8 6,.int .u8 11,.int .u8 5,.int .u8 10,.int .u8 9])]
noncomputable def tab : Tab:=⟨Tryz.prog,⟨gidOf qae8,q25 q5x⟩⟩
theorem k6 : RowOk tab ⟨6,455,qdw⟩:=⟨Tryz.f6,Tryz.func6,by kernel_rfl⟩
theorem k13 : RowOk tab ⟨13,462,qjz⟩:=⟨Tryz.f13,Tryz.func13,by kernel_rfl⟩
theorem k14 : RowOk tab ⟨14,463,qqp⟩:=⟨Tryz.f14,Tryz.func14,by kernel_rfl⟩
theorem k15 : RowOk tab ⟨15,70,qjl⟩:=⟨Tryz.f15,Tryz.func15,by kernel_rfl⟩
theorem k17 : RowOk tab ⟨17,465,qhv⟩:=⟨Tryz.f17,Tryz.func17,by kernel_rfl⟩
theorem k19 : RowOk tab ⟨19,467,qjy⟩:=⟨Tryz.f19,Tryz.func19,by kernel_rfl⟩
theorem k20 : RowOk tab ⟨20,468,qh4⟩:=⟨Tryz.f20,Tryz.func20,by kernel_rfl⟩
theorem k21 : RowOk tab ⟨21,469,qll⟩:=⟨Tryz.f21,Tryz.func21,by kernel_rfl⟩
theorem k22 : RowOk tab ⟨22,152,qhr⟩:=⟨Tryz.f22,Tryz.func22,by kernel_rfl⟩
theorem k23 : RowOk tab ⟨23,470,qoz⟩:=⟨Tryz.f23,Tryz.func23,by kernel_rfl⟩
theorem k24 : RowOk tab ⟨24,471,qo0⟩:=⟨Tryz.f24,Tryz.func24,by kernel_rfl⟩
theorem k25 : RowOk tab ⟨25,472,qhu⟩:=⟨Tryz.f25,Tryz.func25,by kernel_rfl⟩
theorem k28 : RowOk tab ⟨28,55,qne⟩:=⟨Tryz.f28,Tryz.func28,by kernel_rfl⟩
theorem k29 : RowOk tab ⟨29,474,qnw⟩:=⟨Tryz.f29,Tryz.func29,by kernel_rfl⟩
theorem k30 : RowOk tab ⟨30,475,qf4⟩:=⟨Tryz.f30,Tryz.func30,by kernel_rfl⟩
theorem k31 : RowOk tab ⟨31,476,qhw⟩:=⟨Tryz.f31,Tryz.func31,by kernel_rfl⟩
theorem k32 : RowOk tab ⟨32,74,qnh⟩:=⟨Tryz.f32,Tryz.func32,by kernel_rfl⟩
theorem k33 : RowOk tab ⟨33,477,qjf⟩:=⟨Tryz.f33,Tryz.func33,by kernel_rfl⟩
theorem k34 : RowOk tab ⟨34,478,qh3⟩:=⟨Tryz.f34,Tryz.func34,by kernel_rfl⟩
theorem k35 : RowOk tab ⟨35,133,qk0⟩:=⟨Tryz.f35,Tryz.func35,by kernel_rfl⟩
theorem k36 : RowOk tab ⟨36,18,qni⟩:=⟨Tryz.f36,Tryz.func36,by kernel_rfl⟩
theorem k37 : RowOk tab ⟨37,56,qnf⟩:=⟨Tryz.f37,Tryz.func37,by kernel_rfl⟩
theorem k38 : RowOk tab ⟨38,57,qng⟩:=⟨Tryz.f38,Tryz.func38,by kernel_rfl⟩
theorem k39 : RowOk tab ⟨39,60,qjo⟩:=⟨Tryz.f39,Tryz.func39,by kernel_rfl⟩
theorem k42 : RowOk tab ⟨42,210,qov⟩:=⟨Tryz.f42,Tryz.func42,by kernel_rfl⟩
theorem k47 : RowOk tab ⟨47,79,qnq⟩:=⟨Tryz.f47,Tryz.func47,by kernel_rfl⟩
theorem k50 : RowOk tab ⟨50,173,qi9⟩:=⟨Tryz.f50,Tryz.func50,by kernel_rfl⟩
theorem k51 : RowOk tab ⟨51,480,qib⟩:=⟨Tryz.f51,Tryz.func51,by kernel_rfl⟩
theorem k52 : RowOk tab ⟨52,107,qhp⟩:=⟨Tryz.f52,Tryz.func52,by kernel_rfl⟩
theorem k53 : RowOk tab ⟨53,481,qnt⟩:=⟨Tryz.f53,Tryz.func53,by kernel_rfl⟩
theorem k54 : RowOk tab ⟨54,482,qqn⟩:=⟨Tryz.f54,Tryz.func54,by kernel_rfl⟩
theorem k55 : RowOk tab ⟨55,91,qk1⟩:=⟨Tryz.f55,Tryz.func55,by kernel_rfl⟩
theorem k56 : RowOk tab ⟨56,12,qjv⟩:=⟨Tryz.f56,Tryz.func56,by kernel_rfl⟩
theorem k58 : RowOk tab ⟨58,483,qm2⟩:=⟨Tryz.f58,Tryz.func58,by kernel_rfl⟩
theorem k59 : RowOk tab ⟨59,175,qm8⟩:=⟨Tryz.f59,Tryz.func59,by kernel_rfl⟩
theorem k60 : RowOk tab ⟨60,484,qjc⟩:=⟨Tryz.f60,Tryz.func60,by kernel_rfl⟩
theorem k61 : RowOk tab ⟨61,146,qm3⟩:=⟨Tryz.f61,Tryz.func61,by kernel_rfl⟩
theorem k62 : RowOk tab ⟨62,154,qm5⟩:=⟨Tryz.f62,Tryz.func62,by kernel_rfl⟩
theorem k63 : RowOk tab ⟨63,485,qjg⟩:=⟨Tryz.f63,Tryz.func63,by kernel_rfl⟩
theorem k64 : RowOk tab ⟨64,153,qjn⟩:=⟨Tryz.f64,Tryz.func64,by kernel_rfl⟩
theorem k65 : RowOk tab ⟨65,51,qlm⟩:=⟨Tryz.f65,Tryz.func65,by kernel_rfl⟩
theorem k66 : RowOk tab ⟨66,486,qnv⟩:=⟨Tryz.f66,Tryz.func66,by kernel_rfl⟩
theorem k67 : RowOk tab ⟨67,159,qjm⟩:=⟨Tryz.f67,Tryz.func67,by kernel_rfl⟩
theorem k68 : RowOk tab ⟨68,145,qm9⟩:=⟨Tryz.f68,Tryz.func68,by kernel_rfl⟩
theorem k69 : RowOk tab ⟨69,487,qjh⟩:=⟨Tryz.f69,Tryz.func69,by kernel_rfl⟩
theorem k70 : RowOk tab ⟨70,488,qhs⟩:=⟨Tryz.f70,Tryz.func70,by kernel_rfl⟩
theorem k71 : RowOk tab ⟨71,148,qm4⟩:=⟨Tryz.f71,Tryz.func71,by kernel_rfl⟩
theorem k72 : RowOk tab ⟨72,49,qld⟩:=⟨Tryz.f72,Tryz.func72,by kernel_rfl⟩
theorem k73 : RowOk tab ⟨73,77,qhq⟩:=⟨Tryz.f73,Tryz.func73,by kernel_rfl⟩
theorem k74 : RowOk tab ⟨74,94,qjb⟩:=⟨Tryz.f74,Tryz.func74,by kernel_rfl⟩
theorem k75 : RowOk tab ⟨75,489,qlt⟩:=⟨Tryz.f75,Tryz.func75,by kernel_rfl⟩
theorem k76 : RowOk tab ⟨76,157,qna⟩:=⟨Tryz.f76,Tryz.func76,by kernel_rfl⟩
theorem k77 : RowOk tab ⟨77,177,qk5⟩:=⟨Tryz.f77,Tryz.func77,by kernel_rfl⟩
theorem k78 : RowOk tab ⟨78,155,qhx⟩:=⟨Tryz.f78,Tryz.func78,by kernel_rfl⟩
theorem k79 : RowOk tab ⟨79,85,qoq⟩:=⟨Tryz.f79,Tryz.func79,by kernel_rfl⟩
theorem k80 : RowOk tab ⟨80,490,qgp⟩:=⟨Tryz.f80,Tryz.func80,by kernel_rfl⟩
theorem k81 : RowOk tab ⟨81,491,qje⟩:=⟨Tryz.f81,Tryz.func81,by kernel_rfl⟩
theorem k82 : RowOk tab ⟨82,52,qow⟩:=⟨Tryz.f82,Tryz.func82,by kernel_rfl⟩
theorem k83 : RowOk tab ⟨83,54,qlf⟩:=⟨Tryz.f83,Tryz.func83,by kernel_rfl⟩
theorem k84 : RowOk tab ⟨84,84,qlc⟩:=⟨Tryz.f84,Tryz.func84,by kernel_rfl⟩
theorem k85 : RowOk tab ⟨85,86,qlb⟩:=⟨Tryz.f85,Tryz.func85,by kernel_rfl⟩
theorem k86 : RowOk tab ⟨86,63,qgr⟩:=⟨Tryz.f86,Tryz.func86,by kernel_rfl⟩
theorem k87 : RowOk tab ⟨87,87,qju⟩:=⟨Tryz.f87,Tryz.func87,by kernel_rfl⟩
theorem k88 : RowOk tab ⟨88,23,qjx⟩:=⟨Tryz.f88,Tryz.func88,by kernel_rfl⟩
theorem k89 : RowOk tab ⟨89,106,qhn⟩:=⟨Tryz.f89,Tryz.func89,by kernel_rfl⟩
theorem k90 : RowOk tab ⟨90,186,qeu⟩:=⟨Tryz.f90,Tryz.func90,by kernel_rfl⟩
theorem k92 : RowOk tab ⟨92,188,qms⟩:=⟨Tryz.f92,Tryz.func92,by kernel_rfl⟩
theorem k97 : RowOk tab ⟨97,225,qgb⟩:=⟨Tryz.f97,Tryz.func97,by kernel_rfl⟩
theorem k99 : RowOk tab ⟨99,198,qou⟩:=⟨Tryz.f99,Tryz.func99,by kernel_rfl⟩
theorem k104 : RowOk tab ⟨104,493,qnu⟩:=⟨Tryz.f104,Tryz.func104,by kernel_rfl⟩
theorem k105 : RowOk tab ⟨105,494,qge⟩:=⟨Tryz.f105,Tryz.func105,by kernel_rfl⟩
theorem k106 : RowOk tab ⟨106,495,qex⟩:=⟨Tryz.f106,Tryz.func106,by kernel_rfl⟩
theorem k107 : RowOk tab ⟨107,265,qnr⟩:=⟨Tryz.f107,Tryz.func107,by kernel_rfl⟩
theorem k108 : RowOk tab ⟨108,199,qop⟩:=⟨Tryz.f108,Tryz.func108,by kernel_rfl⟩
theorem k109 : RowOk tab ⟨109,200,qst⟩:=⟨Tryz.f109,Tryz.func109,by kernel_rfl⟩
theorem k110 : RowOk tab ⟨110,496,qic⟩:=⟨Tryz.f110,Tryz.func110,by kernel_rfl⟩
theorem k111 : RowOk tab ⟨111,92,qk2⟩:=⟨Tryz.f111,Tryz.func111,by kernel_rfl⟩
theorem k112 : RowOk tab ⟨112,93,qji⟩:=⟨Tryz.f112,Tryz.func112,by kernel_rfl⟩
theorem k113 : RowOk tab ⟨113,497,qjd⟩:=⟨Tryz.f113,Tryz.func113,by kernel_rfl⟩
theorem k114 : RowOk tab ⟨114,195,qk7⟩:=⟨Tryz.f114,Tryz.func114,by kernel_rfl⟩
theorem k115 : RowOk tab ⟨115,108,qjj⟩:=⟨Tryz.f115,Tryz.func115,by kernel_rfl⟩
theorem k116 : RowOk tab ⟨116,174,qk6⟩:=⟨Tryz.f116,Tryz.func116,by kernel_rfl⟩
theorem k117 : RowOk tab ⟨117,109,qjk⟩:=⟨Tryz.f117,Tryz.func117,by kernel_rfl⟩
theorem k118 : RowOk tab ⟨118,202,qk4⟩:=⟨Tryz.f118,Tryz.func118,by kernel_rfl⟩
theorem k119 : RowOk tab ⟨119,206,qnc⟩:=⟨Tryz.f119,Tryz.func119,by kernel_rfl⟩
theorem k120 : RowOk tab ⟨120,203,qnb⟩:=⟨Tryz.f120,Tryz.func120,by kernel_rfl⟩
theorem k121 : RowOk tab ⟨121,498,qlg⟩:=⟨Tryz.f121,Tryz.func121,by kernel_rfl⟩
theorem k122 : RowOk tab ⟨122,78,qh7⟩:=⟨Tryz.f122,Tryz.func122,by kernel_rfl⟩
theorem k123 : RowOk tab ⟨123,98,qot⟩:=⟨Tryz.f123,Tryz.func123,by kernel_rfl⟩
theorem k124 : RowOk tab ⟨124,499,qns⟩:=⟨Tryz.f124,Tryz.func124,by kernel_rfl⟩
theorem k125 : RowOk tab ⟨125,160,qho⟩:=⟨Tryz.f125,Tryz.func125,by kernel_rfl⟩
theorem k126 : RowOk tab ⟨126,90,qja⟩:=⟨Tryz.f126,Tryz.func126,by kernel_rfl⟩
theorem k127 : RowOk tab ⟨127,500,qlp⟩:=⟨Tryz.f127,Tryz.func127,by kernel_rfl⟩
theorem k128 : RowOk tab ⟨128,501,qlq⟩:=⟨Tryz.f128,Tryz.func128,by kernel_rfl⟩
theorem k129 : RowOk tab ⟨129,182,qjw⟩:=⟨Tryz.f129,Tryz.func129,by kernel_rfl⟩
theorem k130 : RowOk tab ⟨130,197,qk3⟩:=⟨Tryz.f130,Tryz.func130,by kernel_rfl⟩
theorem k131 : RowOk tab ⟨131,196,qnd⟩:=⟨Tryz.f131,Tryz.func131,by kernel_rfl⟩
theorem k132 : RowOk tab ⟨132,96,qf2⟩:=⟨Tryz.f132,Tryz.func132,by kernel_rfl⟩
theorem k133 : RowOk tab ⟨133,105,qi8⟩:=⟨Tryz.f133,Tryz.func133,by kernel_rfl⟩
theorem k134 : RowOk tab ⟨134,104,qi7⟩:=⟨Tryz.f134,Tryz.func134,by kernel_rfl⟩
theorem k135 : RowOk tab ⟨135,205,qox⟩:=⟨Tryz.f135,Tryz.func135,by kernel_rfl⟩
theorem k136 : RowOk tab ⟨136,502,qoy⟩:=⟨Tryz.f136,Tryz.func136,by kernel_rfl⟩
theorem k137 : RowOk tab ⟨137,503,qqo⟩:=⟨Tryz.f137,Tryz.func137,by kernel_rfl⟩
theorem k138 : RowOk tab ⟨138,504,qlo⟩:=⟨Tryz.f138,Tryz.func138,by kernel_rfl⟩
theorem k139 : RowOk tab ⟨139,505,qfl⟩:=⟨Tryz.f139,Tryz.func139,by kernel_rfl⟩
theorem k140 : RowOk tab ⟨140,167,qm6⟩:=⟨Tryz.f140,Tryz.func140,by kernel_rfl⟩
theorem k141 : RowOk tab ⟨141,166,qm7⟩:=⟨Tryz.f141,Tryz.func141,by kernel_rfl⟩
theorem k142 : RowOk tab ⟨142,209,qk8⟩:=⟨Tryz.f142,Tryz.func142,by kernel_rfl⟩
theorem k143 : RowOk tab ⟨143,101,qla⟩:=⟨Tryz.f143,Tryz.func143,by kernel_rfl⟩
theorem k144 : RowOk tab ⟨144,102,qjr⟩:=⟨Tryz.f144,Tryz.func144,by kernel_rfl⟩
theorem k145 : RowOk tab ⟨145,103,qjt⟩:=⟨Tryz.f145,Tryz.func145,by kernel_rfl⟩
theorem k146 : RowOk tab ⟨146,80,qh8⟩:=⟨Tryz.f146,Tryz.func146,by kernel_rfl⟩
theorem k147 : RowOk tab ⟨147,216,c_round_add⟩:=⟨Tryz.f147,Tryz.func147,by kernel_rfl⟩
theorem k151 : RowOk tab ⟨151,244,qh5⟩:=⟨Tryz.f151,Tryz.func151,by kernel_rfl⟩
theorem k152 : RowOk tab ⟨152,245,qos⟩:=⟨Tryz.f152,Tryz.func152,by kernel_rfl⟩
theorem k153 : RowOk tab ⟨153,246,qmy⟩:=⟨Tryz.f153,Tryz.func153,by kernel_rfl⟩
theorem k154 : RowOk tab ⟨154,119,qet⟩:=⟨Tryz.f154,Tryz.func154,by kernel_rfl⟩
theorem k155 : RowOk tab ⟨155,221,qea⟩:=⟨Tryz.f155,Tryz.func155,by kernel_rfl⟩
theorem k156 : RowOk tab ⟨156,223,qgw⟩:=⟨Tryz.f156,Tryz.func156,by kernel_rfl⟩
theorem k157 : RowOk tab ⟨157,224,qh9⟩:=⟨Tryz.f157,Tryz.func157,by kernel_rfl⟩
theorem k159 : RowOk tab ⟨159,100,qh6⟩:=⟨Tryz.f159,Tryz.func159,by kernel_rfl⟩
theorem k160 : RowOk tab ⟨160,257,qm1⟩:=⟨Tryz.f160,Tryz.func160,by kernel_rfl⟩
theorem k161 : RowOk tab ⟨161,99,qij⟩:=⟨Tryz.f161,Tryz.func161,by kernel_rfl⟩
theorem k162 : RowOk tab ⟨162,258,qmx⟩:=⟨Tryz.f162,Tryz.func162,by kernel_rfl⟩
theorem k163 : RowOk tab ⟨163,112,qmz⟩:=⟨Tryz.f163,Tryz.func163,by kernel_rfl⟩
theorem k164 : RowOk tab ⟨164,222,qmq⟩:=⟨Tryz.f164,Tryz.func164,by kernel_rfl⟩
theorem k165 : RowOk tab ⟨165,506,qev⟩:=⟨Tryz.f165,Tryz.func165,by kernel_rfl⟩
theorem k166 : RowOk tab ⟨166,507,qgx⟩:=⟨Tryz.f166,Tryz.func166,by kernel_rfl⟩
theorem k167 : RowOk tab ⟨167,508,qgc⟩:=⟨Tryz.f167,Tryz.func167,by kernel_rfl⟩
theorem k168 : RowOk tab ⟨168,219,qjp⟩:=⟨Tryz.f168,Tryz.func168,by kernel_rfl⟩
theorem k169 : RowOk tab ⟨169,226,qlk⟩:=⟨Tryz.f169,Tryz.func169,by kernel_rfl⟩
theorem k170 : RowOk tab ⟨170,227,qh2⟩:=⟨Tryz.f170,Tryz.func170,by kernel_rfl⟩
theorem k171 : RowOk tab ⟨171,228,qnl⟩:=⟨Tryz.f171,Tryz.func171,by kernel_rfl⟩
theorem k172 : RowOk tab ⟨172,229,c_fpref03_Cut⟩:=⟨Tryz.f172,Tryz.func172,by kernel_rfl⟩
theorem k173 : RowOk tab ⟨173,220,qjq⟩:=⟨Tryz.f173,Tryz.func173,by kernel_rfl⟩
theorem k174 : RowOk tab ⟨174,185,qgt⟩:=⟨Tryz.f174,Tryz.func174,by kernel_rfl⟩
theorem k175 : RowOk tab ⟨175,214,qga⟩:=⟨Tryz.f175,Tryz.func175,by kernel_rfl⟩
theorem k176 : RowOk tab ⟨176,184,qgu⟩:=⟨Tryz.f176,Tryz.func176,by kernel_rfl⟩
theorem k177 : RowOk tab ⟨177,97,qnp⟩:=⟨Tryz.f177,Tryz.func177,by kernel_rfl⟩
theorem k178 : RowOk tab ⟨178,509,qia⟩:=⟨Tryz.f178,Tryz.func178,by kernel_rfl⟩
theorem k179 : RowOk tab ⟨179,510,qj1⟩:=⟨Tryz.f179,Tryz.func179,by kernel_rfl⟩
theorem k180 : RowOk tab ⟨180,511,qln⟩:=⟨Tryz.f180,Tryz.func180,by kernel_rfl⟩
theorem k181 : RowOk tab ⟨181,512,qew⟩:=⟨Tryz.f181,Tryz.func181,by kernel_rfl⟩
theorem k182 : RowOk tab ⟨182,513,qlr⟩:=⟨Tryz.f182,Tryz.func182,by kernel_rfl⟩
theorem k183 : RowOk tab ⟨183,238,qm0⟩:=⟨Tryz.f183,Tryz.func183,by kernel_rfl⟩
theorem k184 : RowOk tab ⟨184,514,qfm⟩:=⟨Tryz.f184,Tryz.func184,by kernel_rfl⟩
theorem k185 : RowOk tab ⟨185,253,qkz⟩:=⟨Tryz.f185,Tryz.func185,by kernel_rfl⟩
theorem k186 : RowOk tab ⟨186,515,qfn⟩:=⟨Tryz.f186,Tryz.func186,by kernel_rfl⟩
theorem k187 : RowOk tab ⟨187,516,qls⟩:=⟨Tryz.f187,Tryz.func187,by kernel_rfl⟩
theorem k188 : RowOk tab ⟨188,240,qhm⟩:=⟨Tryz.f188,Tryz.func188,by kernel_rfl⟩
theorem k189 : RowOk tab ⟨189,231,qlj⟩:=⟨Tryz.f189,Tryz.func189,by kernel_rfl⟩
theorem k190 : RowOk tab ⟨190,232,qnn⟩:=⟨Tryz.f190,Tryz.func190,by kernel_rfl⟩
theorem k191 : RowOk tab ⟨191,233,qnm⟩:=⟨Tryz.f191,Tryz.func191,by kernel_rfl⟩
theorem k192 : RowOk tab ⟨192,235,qmr⟩:=⟨Tryz.f192,Tryz.func192,by kernel_rfl⟩
theorem k193 : RowOk tab ⟨193,236,c_round_sum⟩:=⟨Tryz.f193,Tryz.func193,by kernel_rfl⟩
theorem k194 : RowOk tab ⟨194,237,qkw⟩:=⟨Tryz.f194,Tryz.func194,by kernel_rfl⟩
theorem k195 : RowOk tab ⟨195,261,qcm⟩:=⟨Tryz.f195,Tryz.func195,by kernel_rfl⟩
theorem k196 : RowOk tab ⟨196,114,qkx⟩:=⟨Tryz.f196,Tryz.func196,by kernel_rfl⟩
theorem k197 : RowOk tab ⟨197,115,qky⟩:=⟨Tryz.f197,Tryz.func197,by kernel_rfl⟩
theorem k198 : RowOk tab ⟨198,262,qmu⟩:=⟨Tryz.f198,Tryz.func198,by kernel_rfl⟩
theorem k200 : RowOk tab ⟨200,241,qqm⟩:=⟨Tryz.f200,Tryz.func200,by kernel_rfl⟩
theorem k201 : RowOk tab ⟨201,110,qg4⟩:=⟨Tryz.f201,Tryz.func201,by kernel_rfl⟩
theorem k202 : RowOk tab ⟨202,264,qmw⟩:=⟨Tryz.f202,Tryz.func202,by kernel_rfl⟩
theorem k203 : RowOk tab ⟨203,111,qe5⟩:=⟨Tryz.f203,Tryz.func203,by kernel_rfl⟩
theorem k204 : RowOk tab ⟨204,266,qmt⟩:=⟨Tryz.f204,Tryz.func204,by kernel_rfl⟩
theorem k205 : RowOk tab ⟨205,116,qii⟩:=⟨Tryz.f205,Tryz.func205,by kernel_rfl⟩
theorem k206 : RowOk tab ⟨206,243,qss⟩:=⟨Tryz.f206,Tryz.func206,by kernel_rfl⟩
theorem k207 : RowOk tab ⟨207,242,qk9⟩:=⟨Tryz.f207,Tryz.func207,by kernel_rfl⟩
theorem k208 : RowOk tab ⟨208,247,qli⟩:=⟨Tryz.f208,Tryz.func208,by kernel_rfl⟩
theorem k209 : RowOk tab ⟨209,248,qlh⟩:=⟨Tryz.f209,Tryz.func209,by kernel_rfl⟩
theorem k210 : RowOk tab ⟨210,249,qor⟩:=⟨Tryz.f210,Tryz.func210,by kernel_rfl⟩
theorem k211 : RowOk tab ⟨211,250,qnk⟩:=⟨Tryz.f211,Tryz.func211,by kernel_rfl⟩
theorem k212 : RowOk tab ⟨212,251,qno⟩:=⟨Tryz.f212,Tryz.func212,by kernel_rfl⟩
theorem k213 : RowOk tab ⟨213,252,qf5⟩:=⟨Tryz.f213,Tryz.func213,by kernel_rfl⟩
theorem k214 : RowOk tab ⟨214,215,qjs⟩:=⟨Tryz.f214,Tryz.func214,by kernel_rfl⟩
theorem k215 : RowOk tab ⟨215,259,qmv⟩:=⟨Tryz.f215,Tryz.func215,by kernel_rfl⟩
theorem k216 : RowOk tab ⟨216,260,qhl⟩:=⟨Tryz.f216,Tryz.func216,by kernel_rfl⟩
theorem k217 : RowOk tab ⟨217,255,qi2⟩:=⟨Tryz.f217,Tryz.func217,by kernel_rfl⟩
theorem k218 : RowOk tab ⟨218,256,qql⟩:=⟨Tryz.f218,Tryz.func218,by kernel_rfl⟩
theorem k219 : RowOk tab ⟨219,254,c_round_cut⟩:=⟨Tryz.f219,Tryz.func219,by kernel_rfl⟩
theorem k220 : RowOk tab ⟨220,117,qb8⟩:=⟨Tryz.f220,Tryz.func220,by kernel_rfl⟩
theorem k221 : RowOk tab ⟨221,118,qhk⟩:=⟨Tryz.f221,Tryz.func221,by kernel_rfl⟩
theorem k222 : RowOk tab ⟨222,113,qej⟩:=⟨Tryz.f222,Tryz.func222,by kernel_rfl⟩
theorem k223 : RowOk tab ⟨223,271,qgo⟩:=⟨Tryz.f223,Tryz.func223,by kernel_rfl⟩
theorem k224 : RowOk tab ⟨224,272,qgm⟩:=⟨Tryz.f224,Tryz.func224,by kernel_rfl⟩
theorem k225 : RowOk tab ⟨225,263,qnj⟩:=⟨Tryz.f225,Tryz.func225,by kernel_rfl⟩
theorem k226 : RowOk tab ⟨226,267,qi3⟩:=⟨Tryz.f226,Tryz.func226,by kernel_rfl⟩
theorem k227 : RowOk tab ⟨227,268,qcu⟩:=⟨Tryz.f227,Tryz.func227,by kernel_rfl⟩
theorem k228 : RowOk tab ⟨228,269,qi4⟩:=⟨Tryz.f228,Tryz.func228,by kernel_rfl⟩
theorem k229 : RowOk tab ⟨229,270,qg3⟩:=⟨Tryz.f229,Tryz.func229,by kernel_rfl⟩
theorem k230 : RowOk tab ⟨230,120,qct⟩:=⟨Tryz.f230,Tryz.func230,by kernel_rfl⟩
theorem k231 : RowOk tab ⟨231,273,qgn⟩:=⟨Tryz.f231,Tryz.func231,by kernel_rfl⟩
theorem k232 : RowOk tab ⟨232,274,qi6⟩:=⟨Tryz.f232,Tryz.func232,by kernel_rfl⟩
def rows : List Row:=
 [⟨6,455,qdw⟩,
  ⟨13,462,qjz⟩,
  ⟨14,463,qqp⟩,
  ⟨15,70,qjl⟩,
  ⟨17,465,qhv⟩,
  ⟨19,467,qjy⟩,
  ⟨20,468,qh4⟩,
  ⟨21,469,qll⟩,
  ⟨22,152,qhr⟩,
  ⟨23,470,qoz⟩,
  ⟨24,471,qo0⟩,
  ⟨25,472,qhu⟩,
  ⟨28,55,qne⟩,
  ⟨29,474,qnw⟩,
  ⟨30,475,qf4⟩,
  ⟨31,476,qhw⟩,
  ⟨32,74,qnh⟩,
  ⟨33,477,qjf⟩,
  ⟨34,478,qh3⟩,
  ⟨35,133,qk0⟩,
  ⟨36,18,qni⟩,
  ⟨37,56,qnf⟩,
  ⟨38,57,qng⟩,
  ⟨39,60,qjo⟩,
  ⟨42,210,qov⟩,
  ⟨47,79,qnq⟩,
  ⟨50,173,qi9⟩,
  ⟨51,480,qib⟩,
  ⟨52,107,qhp⟩,
  ⟨53,481,qnt⟩,
  ⟨54,482,qqn⟩,
  ⟨55,91,qk1⟩,
  ⟨56,12,qjv⟩,
  ⟨58,483,qm2⟩,
  ⟨59,175,qm8⟩,
  ⟨60,484,qjc⟩,
  ⟨61,146,qm3⟩,
  ⟨62,154,qm5⟩,
  ⟨63,485,qjg⟩,
  ⟨64,153,qjn⟩,
  ⟨65,51,qlm⟩,
  ⟨66,486,qnv⟩,
  ⟨67,159,qjm⟩,
  ⟨68,145,qm9⟩,
  ⟨69,487,qjh⟩,
  ⟨70,488,qhs⟩,
  ⟨71,148,qm4⟩,
  ⟨72,49,qld⟩,
  ⟨73,77,qhq⟩,
  ⟨74,94,qjb⟩,
  ⟨75,489,qlt⟩,
  ⟨76,157,qna⟩,
  ⟨77,177,qk5⟩,
  ⟨78,155,qhx⟩,
  ⟨79,85,qoq⟩,
  ⟨80,490,qgp⟩,
  ⟨81,491,qje⟩,
  ⟨82,52,qow⟩,
  ⟨83,54,qlf⟩,
  ⟨84,84,qlc⟩,
  ⟨85,86,qlb⟩,
  ⟨86,63,qgr⟩,
  ⟨87,87,qju⟩,
  ⟨88,23,qjx⟩,
  ⟨89,106,qhn⟩,
  ⟨90,186,qeu⟩,
  ⟨92,188,qms⟩,
  ⟨97,225,qgb⟩,
  ⟨99,198,qou⟩,
  ⟨104,493,qnu⟩,
  ⟨105,494,qge⟩,
  ⟨106,495,qex⟩,
  ⟨107,265,qnr⟩,
  ⟨108,199,qop⟩,
  ⟨109,200,qst⟩,
  ⟨110,496,qic⟩,
  ⟨111,92,qk2⟩,
  ⟨112,93,qji⟩,
  ⟨113,497,qjd⟩,
  ⟨114,195,qk7⟩,
  ⟨115,108,qjj⟩,
  ⟨116,174,qk6⟩,
  ⟨117,109,qjk⟩,
  ⟨118,202,qk4⟩,
  ⟨119,206,qnc⟩,
  ⟨120,203,qnb⟩,
  ⟨121,498,qlg⟩,
  ⟨122,78,qh7⟩,
  ⟨123,98,qot⟩,
  ⟨124,499,qns⟩,
  ⟨125,160,qho⟩,
  ⟨126,90,qja⟩,
  ⟨127,500,qlp⟩,
  ⟨128,501,qlq⟩,
  ⟨129,182,qjw⟩,
  ⟨130,197,qk3⟩,
  ⟨131,196,qnd⟩,
  ⟨132,96,qf2⟩,
  ⟨133,105,qi8⟩,
  ⟨134,104,qi7⟩,
  ⟨135,205,qox⟩,
  ⟨136,502,qoy⟩,
  ⟨137,503,qqo⟩,
  ⟨138,504,qlo⟩,
  ⟨139,505,qfl⟩,
  ⟨140,167,qm6⟩,
  ⟨141,166,qm7⟩,
  ⟨142,209,qk8⟩,
  ⟨143,101,qla⟩,
  ⟨144,102,qjr⟩,
  ⟨145,103,qjt⟩,
  ⟨146,80,qh8⟩,
  ⟨147,216,c_round_add⟩,
  ⟨151,244,qh5⟩,
  ⟨152,245,qos⟩,
  ⟨153,246,qmy⟩,
  ⟨154,119,qet⟩,
  ⟨155,221,qea⟩,
  ⟨156,223,qgw⟩,
  ⟨157,224,qh9⟩,
  ⟨159,100,qh6⟩,
  ⟨160,257,qm1⟩,
  ⟨161,99,qij⟩,
  ⟨162,258,qmx⟩,
  ⟨163,112,qmz⟩,
  ⟨164,222,qmq⟩,
  ⟨165,506,qev⟩,
  ⟨166,507,qgx⟩,
  ⟨167,508,qgc⟩,
  ⟨168,219,qjp⟩,
  ⟨169,226,qlk⟩,
  ⟨170,227,qh2⟩,
  ⟨171,228,qnl⟩,
  ⟨172,229,c_fpref03_Cut⟩,
  ⟨173,220,qjq⟩,
  ⟨174,185,qgt⟩,
  ⟨175,214,qga⟩,
  ⟨176,184,qgu⟩,
  ⟨177,97,qnp⟩,
  ⟨178,509,qia⟩,
  ⟨179,510,qj1⟩,
  ⟨180,511,qln⟩,
  ⟨181,512,qew⟩,
  ⟨182,513,qlr⟩,
  ⟨183,238,qm0⟩,
  ⟨184,514,qfm⟩,
  ⟨185,253,qkz⟩,
  ⟨186,515,qfn⟩,
  ⟨187,516,qls⟩,
  ⟨188,240,qhm⟩,
  ⟨189,231,qlj⟩,
  ⟨190,232,qnn⟩,
  ⟨191,233,qnm⟩,
  ⟨192,235,qmr⟩,
  ⟨193,236,c_round_sum⟩,
  ⟨194,237,qkw⟩,
  ⟨195,261,qcm⟩,
  ⟨196,114,qkx⟩,
  ⟨197,115,qky⟩,
  ⟨198,262,qmu⟩,
  ⟨200,241,qqm⟩,
  ⟨201,110,qg4⟩,
  ⟨202,264,qmw⟩,
  ⟨203,111,qe5⟩,
  ⟨204,266,qmt⟩,
  ⟨205,116,qii⟩,
  ⟨206,243,qss⟩,
  ⟨207,242,qk9⟩,
  ⟨208,247,qli⟩,
  ⟨209,248,qlh⟩,
  ⟨210,249,qor⟩,
  ⟨211,250,qnk⟩,
  ⟨212,251,qno⟩,
  ⟨213,252,qf5⟩,
  ⟨214,215,qjs⟩,
  ⟨215,259,qmv⟩,
  ⟨216,260,qhl⟩,
  ⟨217,255,qi2⟩,
  ⟨218,256,qql⟩,
  ⟨219,254,c_round_cut⟩,
  ⟨220,117,qb8⟩,
  ⟨221,118,qhk⟩,
  ⟨222,113,qej⟩,
  ⟨223,271,qgo⟩,
  ⟨224,272,qgm⟩,
  ⟨225,263,qnj⟩,
  ⟨226,267,qi3⟩,
  ⟨227,268,qcu⟩,
  ⟨228,269,qi4⟩,
  ⟨229,270,qg3⟩,
  ⟨230,120,qct⟩,
  ⟨231,273,qgn⟩,
  ⟨232,274,qi6⟩]
theorem fc {p:Row->Prop}{a:Row}{l:List Row}(h:p a)(t:∀x ∈ l,p x):∀x ∈ a :: l,p x:=List.forall_mem_cons.2 ⟨h,t⟩
theorem qamw : ∀r ∈ rows,RowOk tab r:=(fc k6 (fc k13 (fc k14 (fc k15 (fc k17 (fc k19 (fc k20 (fc k21 (fc k22 (fc k23 (fc k24 (fc k25 (fc k28 (fc k29 (fc k30 (fc k31 (fc k32 (fc k33 (fc k34 (fc k35 (fc k36 (fc k37 (fc k38 (fc k39 (fc k42 (fc k47 (fc k50 (fc k51 (fc k52 (fc k53 (fc k54 (fc k55 (fc k56 (fc k58 (fc k59 (fc k60 (fc k61 (fc k62 (fc k63 (fc k64 (fc k65 (fc k66 (fc k67 (fc k68 (fc k69 (fc k70 (fc k71 (fc k72 (fc k73 (fc k74 (fc k75 (fc k76 (fc k77 (fc k78 (fc k79 (fc k80 (fc k81 (fc k82 (fc k83 (fc k84 (fc k85 (fc k86 (fc k87 (fc k88 (fc k89 (fc k90 (fc k92 (fc k97 (fc k99 (fc k104 (fc k105 (fc k106 (fc k107 (fc k108 (fc k109 (fc k110 (fc k111 (fc k112 (fc k113 (fc k114 (fc k115 (fc k116 (fc k117 (fc k118 (fc k119 (fc k120 (fc k121 (fc k122 (fc k123 (fc k124 (fc k125 (fc k126 (fc k127 (fc k128 (fc k129 (fc k130 (fc k131 (fc k132 (fc k133 (fc k134 (fc k135 (fc k136 (fc k137 (fc k138 (fc k139 (fc k140 (fc k141 (fc k142 (fc k143 (fc k144 (fc k145 (fc k146 (fc k147 (fc k151 (fc k152 (fc k153 (fc k154 (fc k155 (fc k156 (fc k157 (fc k159 (fc k160 (fc k161 (fc k162 (fc k163 (fc k164 (fc k165 (fc k166 (fc k167 (fc k168 (fc k169 (fc k170 (fc k171 (fc k172 (fc k173 (fc k174 (fc k175 (fc k176 (fc k177 (fc k178 (fc k179 (fc k180 (fc k181 (fc k182 (fc k183 (fc k184 (fc k185 (fc k186 (fc k187 (fc k188 (fc k189 (fc k190 (fc k191 (fc k192 (fc k193 (fc k194 (fc k195 (fc k196 (fc k197 (fc k198 (fc k200 (fc k201 (fc k202 (fc k203 (fc k204 (fc k205 (fc k206 (fc k207 (fc k208 (fc k209 (fc k210 (fc k211 (fc k212 (fc k213 (fc k214 (fc k215 (fc k216 (fc k217 (fc k218 (fc k219 (fc k220 (fc k221 (fc k222 (fc k223 (fc k224 (fc k225 (fc k226 (fc k227 (fc k228 (fc k229 (fc k230 (fc k231 (fc k232 (fun _ h=>by cases h))))))))))))))))))))))))))))))))))))))))))))))))))))))))))))))))))))))))))))))))))))))))))))))))))))))))))))))))))))))))))))))))))))))))))))))))))))))))))))))))))))))))))))))))))))))))))))))))))
theorem rs : rows.map (fun r=>look fnList r.gid)=rows.map (fun r=>some r.fn):=by kernel_rfl
theorem qadn : ∀r ∈ rows,look fnList r.gid=some r.fn:=List.map_inj_left.1 rs
theorem qacm : tab.P.follows .mixedOrders=true:=by kernel_rfl
theorem qama : ∀ fid g f, tab.gid fid = some g → prog.fn g = some f → ∃ fn C, tab.P.funcs[fid]? = some fn ∧ fn.name ≠ "runtime.NumGoroutine" ∧ fn.body = some C ∧ comp tab fn.ntmps C = some f.body ∧ cRVs tab fn.results.toList = some f.results :=
 q6z (l:=qae8) rfl (fns:=fnList) (S:=prog) rfl rows qamw (by kernel_rfl) qadn
end Go.Abs
namespace Go.Proofs.YtnkijamajifgpaaGreatDoor
open Go.ChangeShapes Go.WideShapes Go.ChangeAt Go.RowKit
theorem own : ownKnob Tryz.prog.godebug = none := by kernel_rfl
theorem laidOut : laidOutB Tryz.prog = true := by kernel_rfl
theorem seat : Go.Abs.Seat Go.Abs.tab Go.Abs.prog := ⟨Go.Abs.qacm, Go.Abs.qama, fun _ _ _ _ _ _ h => by cases h⟩
section
variable {H : Type} {enc : TypeId × Value → H} {w : World}
theorem r_u32s : Go.Abs.Rd enc Tryz.prog w Go.Abs.tab.gid 23 (fun v => ∃ l : List Nat, v = Go.Abs.lim l ∧ Go.Abs.Li l ∧ l.length ≤ maxLen) := Go.Abs.W.qam0 Tryz.underlying23 Tryz.underlying75 (by kernel_rfl)
theorem r_dy : Go.Abs.Rd enc Tryz.prog w Go.Abs.tab.gid 25 (fun v => ∃ d : Go.Abs.W.Dy, v = d.v ∧ d.T) := Go.Abs.W.rd_dy Tryz.underlying25 (by kernel_rfl) Tryz.underlying4 r_u32s Tryz.underlying3 (by kernel_rfl)
theorem r_iv : Go.Abs.Rd enc Tryz.prog w Go.Abs.tab.gid 27 (fun v => ∃ x : Go.Abs.W.Iv, v = x.v ∧ x.T) := Go.Abs.W.rd_iv Tryz.underlying27 (by kernel_rfl) r_dy r_dy Tryz.underlying4 (by kernel_rfl)
end
def zIvV : Value := .agg #[.bool false, .slice none 0 0, .int .i64 0, .bool false, .slice none 0 0, .int .i64 0, .bool false]
def dDy {H : Type} : DataW H := .agg [.lit (.bool false), .nil, .lit (.int .i64 0)]
def dIv {H : Type} : DataW H := .agg [dDy, dDy, .lit (.bool false)]
theorem gTab : Tryz.prog.globalNamed "math/bits.deBruijn32tab" = some 0 := by kernel_rfl
theorem gTabType : (Tryz.prog.globals[0]?).map (·.type) = some 148 := by kernel_rfl
theorem cells148 : Tryz.prog.cellsOf 148 = 32 := by kernel_rfl
theorem cells5 : Tryz.prog.cellsOf 5 = 1 := by kernel_rfl
def nums : List Int := [0, 1, 28, 2, 29, 14, 24, 3, 30, 22, 20, 15, 25, 17, 4, 8, 31, 27, 13, 23, 21, 19, 16, 7, 26, 12, 18, 6, 11, 5, 10, 9]
theorem table {W : World} (h : laidMetH Tryz.prog [("math/bits.deBruijn32tab", Rows.laid_math_bits_deBruijn32tab)] W) : Lib.TabIs Tryz.prog W "math/bits.deBruijn32tab" .u8 nums :=
  Lib.tabIs_of_head (rest := []) gTab gTabType Tryz.underlying148 Tryz.underlying5 cells5 cells148 h
theorem tabs {W : World} (h : laidMetH Tryz.prog [("math/bits.deBruijn32tab", Rows.laid_math_bits_deBruijn32tab)] W) : Go.Abs.Tabs Go.Abs.tab.gid W fun _ => False := by
  intro g cs hg
  have hg' : Go.Abs.q25 Go.Abs.q5x g = some cs := hg
  unfold Go.Abs.q5x Go.Abs.q25 at hg'
  split at hg'
  · rename_i h0
    subst h0
    have hc : cs = nums.map (fun n => Go.Abs.V.int .u8 n) := by injection hg' with hg'; rw [← hg']; rfl
    subst hc
    have cell : ∀ i (hi : i < nums.length), W.cell? ⟨0, i, none⟩ = some (.int .u8 (nums.getD i 0)) := fun i hi => (table h).cell gTab i hi
    have hb : 0 < W.heap.size := World.block_lt_of_cell? W ⟨0, 0, none⟩ (cell 0 (by decide))
    have get : ∀ (j : Nat) (c : Go.Abs.V), (nums.map (fun n => Go.Abs.V.int .u8 n))[j]? = some c → j < nums.length ∧ c = .int .u8 (nums.getD j 0) := by
      intro j c hj
      rw [List.getElem?_map] at hj
      obtain ⟨a, ha, rfl⟩ := Option.map_eq_some_iff.1 hj
      refine ⟨(List.getElem?_eq_some_iff.1 ha).1, ?_⟩
      rw [List.getD_eq_getElem?_getD, ha]
      rfl
    refine .eptr _ _ (fun j => .int .u8 (nums.getD j 0)) rfl (fun h => h) hb ?_ ?_
    · intro j c hj
      have hl := (get j c hj).1
      have := cell j hl
      simpa using this
    · intro j c hj
      rw [(get j c hj).2]
      exact .int _ _
  · unfold Go.Abs.q25 at hg'
    cases hg'
noncomputable def laidWorld (os : Os) : World :=
  { World.holding Tryz.prog os ⟨#[], #[], []⟩ with heap := (World.holding Tryz.prog os ⟨#[], #[], []⟩).heap.modify 0 fun
      | .cells _ t frozen => .cells (nums.map fun n => .int .u8 n).toArray t frozen
      | o => o }
end Go.Proofs.YtnkijamajifgpaaGreatDoor
